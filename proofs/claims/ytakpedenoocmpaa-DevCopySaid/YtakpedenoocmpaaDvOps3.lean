import Derived.Test.YtakpedenoocmpaaDvOps2
/-! Write. -/
namespace Go.Proofs.Ytakpedenoocmpaa.Dv
open Go.RowKit Go.Proofs.YtakpedenoocmpaaW.PrintWords Go.Proofs.YtakpedenoocmpaaW.PrintLast Go.Proofs.YtakpedenoocmpaaW.PrintMore
attribute [local go_sem] max2_int min2_int max_two min_two max_three min_three max_four min_four
set_option linter.unusedVariables false
set_option linter.unusedSimpArgs false

section
variable {W : World} {b g : Nat} {F : Nat → Prop} {D : Dev} {g1 c1 g2 c2 : Nat} {v3 : Value}
theorem Op.putAt (h : Op W b F g D g1 c1 g2 c2 v3) (i : Int) (s : ByteArray) : Op (W.setCell ⟨g1, i.toNat, none⟩ (.string s)) b F g { D with now := D.now.set i.toNat s } g1 c1 g2 c2 v3 := by
  have e1 := Kd.R_put h.now i s
  have hl : (D.now.set i.toNat s).length = D.now.length := by simp
  exact ⟨by show _ = some (Obj.cells #[.slice (some ⟨g1, 0, none⟩) (D.now.set i.toNat s).length c1, _, _, _, _] 59 (0, 0)); rw [hl]; exact blk_far h.blk h.ne1 _, h.ge, h.mem, by show Kd.string.R 9 _ b F (.slice (some ⟨g1, 0, none⟩) (D.now.set i.toNat s).length c1) _; rw [hl]; exact e1.1,
    Kd.R_mono (Kd.R_far (p := ⟨g1, i.toNat, none⟩) (Kd.R_tight rfl h.last) (fun k hk => by rw [show k = g2 by simpa [Value.ownBlock] using hk]; exact h.ne.symm) _) (fun k hk => h.last.1 k hk.symm),
    Kd.R_mono (Kd.R_far (p := ⟨g1, i.toNat, none⟩) (Kd.R_tight rfl h.pend) (fun k hk e => h.ne13 (by rw [← hk, e])) _) (fun k hk => h.pend.1 k hk.symm), h.ne,
    ⟨by show D.last.length = (D.now.set i.toNat s).length; rw [hl]; exact h.ok.len, by show 0 < (D.now.set i.toNat s).length; rw [hl]; exact h.ok.pos, by show (D.now.set i.toNat s).length ≤ _; rw [hl]; exact h.ok.small, fun p hp => by show 0 ≤ p.1 ∧ p.1 < ((D.now.set i.toNat s).length : Int); rw [hl]; exact h.ok.at_ p hp, h.ok.left0, h.ok.left1⟩⟩
theorem Op.lastAt (h : Op W b F g D g1 c1 g2 c2 v3) (i : Int) (s : ByteArray) : Op (W.setCell ⟨g2, i.toNat, none⟩ (.string s)) b F g { D with last := D.last.set i.toNat s } g1 c1 g2 c2 v3 := by
  have e1 := Kd.R_put h.last i s
  have hl : (D.last.set i.toNat s).length = D.last.length := by simp
  exact ⟨by show _ = some (Obj.cells #[_, .slice (some ⟨g2, 0, none⟩) (D.last.set i.toNat s).length c2, _, _, _] 59 (0, 0)); rw [hl]; exact blk_far h.blk h.ne2 _, h.ge, h.mem,
    Kd.R_mono (Kd.R_far (p := ⟨g2, i.toNat, none⟩) (Kd.R_tight rfl h.now) (fun k hk => by rw [show k = g1 by simpa [Value.ownBlock] using hk]; exact h.ne) _) (fun k hk => h.now.1 k hk.symm),
    by show Kd.string.R 9 _ b F (.slice (some ⟨g2, 0, none⟩) (D.last.set i.toNat s).length c2) _; rw [hl]; exact e1.1,
    Kd.R_mono (Kd.R_far (p := ⟨g2, i.toNat, none⟩) (Kd.R_tight rfl h.pend) (fun k hk e => h.ne23 (by rw [← hk, e])) _) (fun k hk => h.pend.1 k hk.symm), h.ne,
    ⟨by show (D.last.set i.toNat s).length = _; rw [hl]; exact h.ok.len, h.ok.pos, h.ok.small, h.ok.at_, h.ok.left0, h.ok.left1⟩⟩
theorem Op.pended (h : Op W b F g D g1 c1 g2 c2 v3) {W1 : World} {v : Value} {ps : List (Int × ByteArray)} (h1 : kW.R 62 W1 b F v ps) (hg : W.grownBy W1 v3.ownBlock) (hps : ∀ p, p ∈ ps → 0 ≤ p.1 ∧ p.1 < D.now.length) :
    Op (W1.setCell ⟨g, 2, none⟩ v) b F g { D with pend := ps } g1 c1 g2 c2 v := by
  have hb := (hg.block g (blk_lt h.blk) h.ne3).trans h.blk
  have hm : ∀ k, (some k ≠ v3.ownBlock) → k < W.heap.size → W1.heap[k]? = W.heap[k]? := fun k hk hl => hg.block k hl hk
  have e1 : Kd.string.R 9 W1 b F (.slice (some ⟨g1, 0, none⟩) D.now.length c1) D.now := Kd.R_mono (Kd.R_step (Kd.R_tight rfl h.now) (fun k hk hl => hm k (by rw [show k = g1 by simpa [Value.ownBlock] using hk]; exact h.ne13) hl)) (fun k hk => h.now.1 k hk.symm)
  have e2 : Kd.string.R 9 W1 b F (.slice (some ⟨g2, 0, none⟩) D.last.length c2) D.last := Kd.R_mono (Kd.R_step (Kd.R_tight rfl h.last) (fun k hk hl => hm k (by rw [show k = g2 by simpa [Value.ownBlock] using hk]; exact h.ne23) hl)) (fun k hk => h.last.1 k hk.symm)
  exact ⟨by simpa using blk_set hb 2 v, h.ge, h.mem, Kd.R_set e1 hb (by decide) 2 _, Kd.R_set e2 hb (by decide) 2 _, Kd.R_set h1 hb (by decide) 2 _, h.ne,
    ⟨h.ok.len, h.ok.pos, h.ok.small, hps, h.ok.left0, h.ok.left1⟩⟩

theorem Moved.drawn {W1 : World} {n : Nat} (h : Moved (W.drewN n) W1 b F g D) : Moved W W1 b F g D := by
  obtain ⟨F1, h1, h2, h3⟩ := h
  exact ⟨F1, h1, h2, ((Mv.refl W F).drewN n).trans h3 (fun _ h => .inl h)⟩

set_option maxHeartbeats 8000000 in
set_option maxRecDepth 100000 in
theorem Write_calls (h : IsDev W b F g D) (i : Int) (s : ByteArray) (hp : D.pend.length ≤ 1000000) (hb : b ≤ W.heap.size) : Calls Try.prog 12 #[.pointer (some ⟨g, 0, none⟩), .int .i64 i, .string s] W fun e W' => e = .returned (.int .i64 (D.write i s).1) ∧ Moved W W' b F g (D.write i s).2 := by
  have HD := Aside0.mk h
  by_cases hw : D.wrong i = 0
  · obtain ⟨_, hi0, hi1⟩ := wrong_ok hw
    have hw1 := Aside0.mk hw
    by_cases hs : s.size = 64
    · have hs1 : ((s.size : Int) == 64) = true := beq_iff_eq.mpr (by omega)
      have hs2 : ((s.size : Int) != 64) = false := bne_eq_false_iff_eq.mpr (by omega)
      by_cases hq : D.spend.1 = 0
      · have hx : D.write i s = (0, D.spend.2.put i s) := by unfold Dev.write; rw [if_pos hw, if_pos hs, if_pos hq]
        rw [hx]
        clear hx hw
        have hq1 := Aside0.mk hq
        have HN := Aside0.mk (spend_now D)
        have HP := Aside0.mk (spend_pend D)
        have hp0 := eq_true hi0
        have hj1 := decide_eq_true hi0
        have HI0 := Aside0.mk hi0
        have HI1 := Aside0.mk hi1
        have hp1 := eq_true hi1
        have hj2 := decide_eq_true hi1
        clear hq hi0 hi1
        go_enter Try.func12, Try.ntmps12
        go_wp2_with (first | (go_at_call 27; refine (wrong_calls HD.out i).mono ?_; rw [hw1.out]; rintro e w1 ⟨rfl, ⟨nd, rfl⟩⟩) | (go_at_call 28; refine (spend_calls (HD.out.step (W1 := W.drewN nd) (fun _ _ _ => rfl))).mono ?_; rw [hq1.out]; rintro e w1 ⟨rfl, F1, ⟨g1, c1, g2, c2, v3, h1⟩, hF1, hM1⟩; have e0 := h1.cell0; rw [HN.out] at e0; obtain ⟨A, c, rfl⟩ := Kd.R_slice h1.pend; have e2 := h1.cell2; have f2 := h1.frz 2; obtain ⟨ea, ef⟩ := h1.at1 i HI0.out (by rw [HN.out]; exact HI1.out); have n1 := h1.ne1; have n2 := h1.ne1.symm; have HI := Aside0.mk (h1.mono (F' := fun k => F1 k ∨ w1.heap.size ≤ k) (fun _ hk => .inl hk)); have HM1 := Aside0.mk hM1; have HF1 := Aside0.mk hF1; clear h1 hM1 hF1) | ((with_reducible refine gate_builtin (b := .append) (xs := #[.tmp 34, .tmp 38]) rfl ?_); at_builtin; refine Kd.R_append kW (w0 := w1) b rfl (.tmp 34) (.tmp 38) 57 62 zW 24 rfl Try.underlying57 infoW rfl (by decide) (by omega) (.slice A D.spend.2.pend.length c) D.spend.2.pend (i, s) [.int .i64 i, .string s] (fun k => F1 k ∨ w1.heap.size ≤ k) (fun _ => False) rfl ?aX (kW_mk _ _ _ _) (fun _ h => h.elim) ?aF (HI.out.putAt i s).pend ((Below.refl b w1).setCell (Kd.R_base HI.out.now g1 rfl) _) ?aS ?aL ?_; (case aX => simp [World.setCell]; rfl); (case aF => intro k hk; exact .inr (by simpa [World.setCell] using hk)); (case aS => have := HM1.out.size; simp [World.setCell] at this ⊢; omega); (case aL => rw [HP.out]; omega); intro v1 w2 ho hB2 hg2 hat; obtain ⟨A', c', rfl⟩ := Kd.R_slice ho; have hb2 := (hg2.block g (blk_lt (HI.out.putAt i s).blk) (HI.out.putAt i s).ne3).trans (HI.out.putAt i s).blk; have e3 : w2.cell? ⟨g, 2, none⟩ = some (.slice A D.spend.2.pend.length c) := (blk_cell hb2 2).trans rfl; have f3 : w2.frozen? ⟨g, 2, none⟩ = false := blk_frozen hb2 2; have HO := Aside0.mk (And.intro ho hg2); clear ho hg2 hb2 hB2 hat))
        go_ret
        have hmap : ∀ k, (F1 k ∨ w1.heap.size ≤ k) → F k ∨ W.heap.size ≤ k := fun k hk => hk.elim (fun h1 => HF1.out k h1) (fun h1 => .inr (Nat.le_trans HM1.out.size h1))
        have e : (D.spend.2.pend ++ [(i, s)]).length = D.spend.2.pend.length + 1 := by simp
        have hO := (HI.out.putAt i s).pended HO.out.1 HO.out.2 (by
          intro p hp
          show 0 ≤ p.1 ∧ p.1 < ((D.spend.2.now.set i.toNat s).length : Int)
          rw [List.length_set]
          rcases List.mem_append.1 hp with hp | hp
          · exact HI.out.ok.at_ p hp
          · rw [List.mem_singleton.1 hp, HN.out]; exact ⟨HI0.out, HI1.out⟩)
        rw [e] at hO
        exact ⟨rfl, fun k => F1 k ∨ w1.heap.size ≤ k, hO.is, hmap, ((((((Mv.refl W F).drewN nd).trans HM1.out (fun _ h => .inl h)).setCell (hmap _ HI.out.F1) _).grown HO.out.2 (fun k hk => hmap k (HI.out.F3 k hk))).setCell (hmap _ HI.out.mem) _)⟩
      · have hx : D.write i s = D.spend := by unfold Dev.write; rw [if_pos hw, if_pos hs, if_neg hq]
        rw [hx]
        clear hx hw
        have hq1 := bne_iff_ne.mpr hq
        go_enter Try.func12, Try.ntmps12
        go_wp2_with (first | (go_at_call 27; refine (wrong_calls HD.out i).mono ?_; rw [hw1.out]; rintro e w1 ⟨rfl, ⟨nd, rfl⟩⟩) | (go_at_call 28; refine (spend_calls (HD.out.step (W1 := W.drewN nd) (fun _ _ _ => rfl))).mono ?_; rintro e w1 ⟨rfl, hM1⟩; have HM1 := Aside0.mk hM1; clear hM1))
        go_ret
        exact ⟨rfl, HM1.out.drawn⟩
    · have hs2 : ((s.size : Int) != 64) = true := bne_iff_ne.mpr (by omega)
      have hx : D.write i s = (1, D) := by unfold Dev.write; rw [if_pos hw, if_neg hs]
      rw [hx]
      clear hx hw
      go_enter Try.func12, Try.ntmps12
      go_wp2_with (first | (go_at_call 27; refine (wrong_calls HD.out i).mono ?_; rw [hw1.out]; rintro e w1 ⟨rfl, ⟨nd, rfl⟩⟩))
      go_ret
      exact ⟨rfl, Moved.same (HD.out.step (by intros; rfl)) (by repeat (first | exact Mv.refl _ _ | apply Mv.drewN | apply Mv.drew))⟩
  · have hx : D.write i s = (D.wrong i, D) := by unfold Dev.write; rw [if_neg hw]
    rw [hx]
    clear hx
    have hj1 := bne_iff_ne.mpr hw
    go_enter Try.func12, Try.ntmps12
    go_wp2_with (first | (go_at_call 27; refine (wrong_calls HD.out i).mono ?_; rintro e w1 ⟨rfl, ⟨nd, rfl⟩⟩))
    go_ret
    exact ⟨rfl, Moved.same (HD.out.step (by intros; rfl)) (by repeat (first | exact Mv.refl _ _ | apply Mv.drewN | apply Mv.drew))⟩
end
end Go.Proofs.Ytakpedenoocmpaa.Dv
