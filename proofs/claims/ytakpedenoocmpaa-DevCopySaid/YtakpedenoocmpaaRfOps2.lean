import Derived.Test.YtakpedenoocmpaaRfOps1
/-! The reference's Write. -/
namespace Go.Proofs.Ytakpedenoocmpaa.Rf
open Go.RowKit Go.Proofs.YtakpedenoocmpaaW.PrintWords Go.Proofs.YtakpedenoocmpaaW.PrintLast Go.Proofs.YtakpedenoocmpaaW.PrintMore
open Go.Proofs.Ytakpedenoocmpaa.Dv (Dev kW kW_E kW_sz kW_mk kW_open Mv wrong_ok spend_now spend_last spend_pend zW infoW)
attribute [local go_sem] max2_int min2_int max_two min_two max_three min_three max_four min_four
set_option linter.unusedVariables false
set_option linter.unusedSimpArgs false

section
variable {W : World} {b g : Nat} {F : Nat → Prop} {D : Dev}
theorem infoR : (Try.prog.info? 80).map (fun i => (i.zero, i.size, i.bytes)) = some (some zW, 2, 24) := by kernel_rfl

set_option maxHeartbeats 8000000 in
set_option maxRecDepth 100000 in
theorem Write_calls (h : IsDev W b F g D) (i : Int) (s : ByteArray) (hp : D.pend.length ≤ 1000000) (hb : b ≤ W.heap.size) : Calls Try.prog 35 #[.pointer (some ⟨g, 0, none⟩), .int .i64 i, .string s] W fun e W' => e = .returned (.int .i64 (D.write i s).1) ∧ Moved W W' b F g (D.write i s).2 := by
  have HD := Aside0.mk h
  have h0 : ∃ g1 c1, W.cell? ⟨g, 0, none⟩ = some (.slice (some ⟨g1, 0, none⟩) D.now.length c1) := by
    obtain ⟨g1, c1, g2, c2, v3, h⟩ := h
    exact ⟨g1, c1, h.cell0⟩
  have h4 : W.cell? ⟨g, 4, none⟩ = some (.bool D.down) := by
    obtain ⟨g1, c1, g2, c2, v3, h⟩ := h
    exact h.cell4
  obtain ⟨g1, c1, h0⟩ := h0
  clear h
  by_cases hd : D.down = true
  · have hw : D.wrong i = 8 := by unfold Dev.wrong; rw [if_pos hd]
    have hx : D.write i s = (8, D) := by unfold Dev.write; rw [hw, if_neg (by decide)]
    rw [hx]
    clear hx hw
    rw [hd] at h4
    clear hd
    go_enter Try.func35, Try.ntmps35
    go_wp2
    go_ret
    exact ⟨rfl, Moved.same (HD.out.step (by intros; rfl)) (by repeat (first | exact Mv.refl _ _ | apply Mv.drewN | apply Mv.drew))⟩
  · have hd1 := Bool.eq_false_iff.mpr hd
    rw [hd1] at h4
    by_cases hi : i < 0
    · have hw : D.wrong i = 11 := by unfold Dev.wrong; rw [if_neg hd, if_pos hi]
      have hx : D.write i s = (11, D) := by unfold Dev.write; rw [hw, if_neg (by decide)]
      rw [hx]
      have hi1 := decide_eq_true hi
      clear hx hw hd hd1 hi
      go_enter Try.func35, Try.ntmps35
      go_wp2
      go_ret
      exact ⟨rfl, Moved.same (HD.out.step (by intros; rfl)) (by repeat (first | exact Mv.refl _ _ | apply Mv.drewN | apply Mv.drew))⟩
    · by_cases hj : (D.now.length : Int) ≤ i
      · have hw : D.wrong i = 11 := by unfold Dev.wrong; rw [if_neg hd, if_neg hi, if_pos hj]
        have hx : D.write i s = (11, D) := by unfold Dev.write; rw [hw, if_neg (by decide)]
        rw [hx]
        have hi1 := decide_eq_false hi
        have hj1 := decide_eq_true hj
        clear hx hw hd hd1 hi hj
        go_enter Try.func35, Try.ntmps35
        go_wp2
        go_ret
        exact ⟨rfl, Moved.same (HD.out.step (by intros; rfl)) (by repeat (first | exact Mv.refl _ _ | apply Mv.drewN | apply Mv.drew))⟩
      · have hw : D.wrong i = 0 := by unfold Dev.wrong; rw [if_neg hd, if_neg hi, if_neg hj]
        have hi1 := decide_eq_false hi
        have hj1 := decide_eq_false hj
        have hi0 : 0 ≤ i := by omega
        have hj0 : i < (D.now.length : Int) := by omega
        clear hd hd1 hi hj
        by_cases hs : s.size = 64
        · have hs1 : ((s.size : Int) == 64) = true := beq_iff_eq.mpr (by omega)
          have hs2 : ((s.size : Int) != 64) = false := bne_eq_false_iff_eq.mpr (by omega)
          by_cases hq : D.spend.1 = 0
          · have hx : D.write i s = (0, D.spend.2.put i s) := by unfold Dev.write; rw [if_pos hw, if_pos hs, if_pos hq]
            rw [hx]
            clear hx hw
            have HC := Aside0.mk (count_calls HD.out)
            rw [decide_eq_true hq] at HC
            have HN := Aside0.mk (spend_now D)
            have HP := Aside0.mk (spend_pend D)
            have hp0 := eq_true hi0
            have hk1 := decide_eq_true hi0
            have HI0 := Aside0.mk hi0
            have HI1 := Aside0.mk hj0
            have hp1 := eq_true hj0
            have hk2 := decide_eq_true hj0
            clear hq hi0 hj0
            go_enter Try.func35, Try.ntmps35
            go_wp2_with (first | (go_at_call 44; refine HC.out.mono ?_; rintro e w1 ⟨rfl, F1, ⟨g1, c1, g2, c2, v3, h1⟩, hF1, hM1⟩; have e0 := h1.cell0; rw [HN.out] at e0; obtain ⟨A, c, rfl⟩ := Kd.R_slice h1.pend; have e2 := h1.cell2; have f2 := h1.frz 2; obtain ⟨ea, ef⟩ := h1.at1 i HI0.out (by rw [HN.out]; exact HI1.out); have n1 := h1.ne1; have n2 := h1.ne1.symm; have HI := Aside0.mk (h1.mono (F' := fun k => F1 k ∨ w1.heap.size ≤ k) (fun _ hk => .inl hk)); have HM1 := Aside0.mk hM1; have HF1 := Aside0.mk hF1; clear h1 hM1 hF1) | ((with_reducible refine gate_builtin (b := .append) (xs := #[.tmp 41, .tmp 45]) rfl ?_); at_builtin; refine Kd.R_append kW (w0 := w1) b rfl (.tmp 41) (.tmp 45) 64 80 zW 24 rfl Try.underlying64 infoR rfl (by decide) (by omega) (.slice A D.spend.2.pend.length c) D.spend.2.pend (i, s) [.int .i64 i, .string s] (fun k => F1 k ∨ w1.heap.size ≤ k) (fun _ => False) rfl ?aX (kW_mk _ _ _ _) (fun _ h => h.elim) ?aF (HI.out.putAt i s).pend ((Below.refl b w1).setCell (Kd.R_base HI.out.now g1 rfl) _) ?aS ?aL ?_; (case aX => simp [World.setCell]; rfl); (case aF => intro k hk; exact .inr (by simpa [World.setCell] using hk)); (case aS => have := HM1.out.size; simp [World.setCell] at this ⊢; omega); (case aL => rw [HP.out]; omega); intro v1 w2 ho hB2 hg2 hat; obtain ⟨A', c', rfl⟩ := Kd.R_slice ho; have hb2 := (hg2.block g (blk_lt (HI.out.putAt i s).blk) (HI.out.putAt i s).ne3).trans (HI.out.putAt i s).blk; have e3 : w2.cell? ⟨g, 2, none⟩ = some (.slice A D.spend.2.pend.length c) := (blk_cell hb2 2).trans rfl; have f3 : w2.frozen? ⟨g, 2, none⟩ = false := blk_frozen hb2 2; have HO := Aside0.mk (And.intro ho hg2); clear ho hg2 hb2 hB2 hat))
            go_ret
            have hmap : ∀ k, (F1 k ∨ w1.heap.size ≤ k) → F k ∨ W.heap.size ≤ k := fun k hk => hk.elim (fun h1 => HF1.out k h1) (fun h1 => .inr (Nat.le_trans HM1.out.size h1))
            have e : (D.spend.2.pend ++ [(i, s)]).length = D.spend.2.pend.length + 1 := by simp
            have hO := (HI.out.putAt i s).pended HO.out.1 HO.out.2 (by
              intro p hp
              show 0 ≤ p.1 ∧ p.1 < ((D.spend.2.now.set i.toNat s).length : Int)
              rw [List.length_set]
              rcases List.mem_append.1 hp with hp | hp
              · exact HI.out.ok.at_ p hp
              · rw [List.mem_singleton.1 hp, HN.out]; exact ⟨HI0.out, HI1.out⟩)
            rw [e] at hO
            exact ⟨rfl, fun k => F1 k ∨ w1.heap.size ≤ k, hO.is, hmap, (((HM1.out.setCell (hmap _ HI.out.F1) _).grown HO.out.2 (fun k hk => hmap k (HI.out.F3 k hk))).setCell (hmap _ HI.out.mem) _)⟩
          · have hx : D.write i s = (8, D.spend.2) := by
              unfold Dev.write
              rw [if_pos hw, if_pos hs, if_neg hq]
              have h8 : D.spend.1 = 8 := by unfold Dev.spend at hq ⊢; split; rfl; split <;> simp_all
              rw [← h8]
            rw [hx]
            clear hx hw
            have HC := Aside0.mk (count_calls HD.out)
            rw [decide_eq_false hq] at HC
            clear hq
            go_enter Try.func35, Try.ntmps35
            go_wp2_with (first | (go_at_call 44; refine HC.out.mono ?_; rintro e w1 ⟨rfl, hM1⟩; have HM1 := Aside0.mk hM1; clear hM1))
            go_ret
            exact ⟨rfl, HM1.out⟩
        · have hs2 : ((s.size : Int) != 64) = true := bne_iff_ne.mpr (by omega)
          have hx : D.write i s = (1, D) := by unfold Dev.write; rw [if_pos hw, if_neg hs]
          rw [hx]
          clear hx hw
          go_enter Try.func35, Try.ntmps35
          go_wp2
          go_ret
          exact ⟨rfl, Moved.same (HD.out.step (by intros; rfl)) (by repeat (first | exact Mv.refl _ _ | apply Mv.drewN | apply Mv.drew))⟩
end
end Go.Proofs.Ytakpedenoocmpaa.Rf
