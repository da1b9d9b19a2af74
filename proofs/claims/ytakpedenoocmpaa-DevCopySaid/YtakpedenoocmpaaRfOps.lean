import Derived.Test.YtakpedenoocmpaaRfBase
/-! The reference's functions, walked: count, Arm, Read, Write, Flush, Power. -/
namespace Go.Proofs.Ytakpedenoocmpaa.Rf
open Go.RowKit Go.Proofs.YtakpedenoocmpaaW.PrintWords Go.Proofs.YtakpedenoocmpaaW.PrintLast Go.Proofs.YtakpedenoocmpaaW.PrintMore
open Go.Proofs.Ytakpedenoocmpaa.Dv (Dev kW kW_E kW_sz kW_mk kW_open Mv wrong_ok spend_now spend_last spend_pend zW infoW laid laid_length laid_append keptOf keptOf_yes keptOf_no keptOf_all odd at_W)
attribute [local go_sem] max2_int min2_int max_two min_two max_three min_three max_four min_four
set_option linter.unusedVariables false
set_option linter.unusedSimpArgs false


section
variable {W : World} {b g : Nat} {F : Nat → Prop} {D : Dev}

set_option maxHeartbeats 8000000 in
set_option maxRecDepth 100000 in
theorem count_calls (h : IsDev W b F g D) : Calls Try.prog 44 #[.pointer (some ⟨g, 0, none⟩)] W fun e W' => e = .returned (.bool (decide (D.spend.1 = 0))) ∧ Moved W W' b F g D.spend.2 := by
  obtain ⟨g1, c1, g2, c2, v3, h⟩ := h
  have h3 := h.cell3
  have f3 := h.frz 3
  have f4 := h.frz 4
  have h4 := h.cell4
  have HI := Aside0.mk h
  have hl0 := h.ok.left0
  have hl1 := h.ok.left1
  clear h
  by_cases hd : D.left = 0
  · have hw : D.spend = (8, { D with down := true }) := by unfold Dev.spend; rw [if_pos hd]
    rw [hw]
    clear hw
    rw [hd] at h3
    clear hd
    go_enter Try.func44, Try.ntmps44
    go_wp2
    go_ret
    exact ⟨rfl, Moved.same (by repeat (first | exact HI.out.is | apply Op.is | apply Op.power | apply Op.drew | apply Op.drewN | exact HI.out)) (by repeat (first | exact Mv.refl _ _ | apply Mv.drewN | apply Mv.drew | (apply Mv.setCell _ (.inl HI.out.mem))))⟩
  · have hd1 := beq_eq_false_iff_ne.mpr hd
    by_cases hp : 0 < D.left
    · have hw : D.spend = (0, { D with left := D.left - 1 }) := by unfold Dev.spend; rw [if_neg hd, if_pos hp]
      rw [hw]
      clear hw
      have hp1 := decide_eq_true hp
      go_enter Try.func44, Try.ntmps44
      go_wp2
      go_ret
      exact ⟨rfl, Moved.same (by repeat (first | exact (HI.out.left (D.left - 1) (by omega) (by omega)).is | exact (HI.out.drew.left (D.left - 1) (by omega) (by omega)).is)) (by repeat (first | exact Mv.refl _ _ | apply Mv.drewN | apply Mv.drew | (apply Mv.setCell _ (.inl HI.out.mem))))⟩
    · have hw : D.spend = (0, D) := by unfold Dev.spend; rw [if_neg hd, if_neg hp]
      rw [hw]
      clear hw
      have hp1 := decide_eq_false hp
      go_enter Try.func44, Try.ntmps44
      go_wp2
      go_ret
      exact ⟨rfl, Moved.same (by repeat (first | exact HI.out.is | apply Op.is | apply Op.drew | apply Op.drewN | exact HI.out)) (by repeat (first | exact Mv.refl _ _ | apply Mv.drewN | apply Mv.drew))⟩

set_option maxHeartbeats 8000000 in
set_option maxRecDepth 100000 in
theorem Arm_calls (h : IsDev W b F g D) (n : Int) (hn : n < 9223372036854775808) : Calls Try.prog 33 #[.pointer (some ⟨g, 0, none⟩), .int .i64 n] W fun e W' => e = .returned (.tuple #[]) ∧ Moved W W' b F g (D.arm n) := by
  obtain ⟨g1, c1, g2, c2, v3, h⟩ := h
  have h3 := h.cell3
  have f3 := h.frz 3
  have HI := Aside0.mk h
  clear h
  by_cases hx : n < -1
  · have ha : D.arm n = { D with left := -1 } := by unfold Dev.arm; rw [if_pos hx]
    rw [ha]
    clear ha
    have hx1 := eq_true hx
    go_enter Try.func33, Try.ntmps33
    go_wp2
    first | go_end0 | ((try simp only [Exit.inBlock, Exit.then]); refine bodyPost_ret (results_none rfl _ _ _) rfl ?_)
    exact ⟨rfl, Moved.same (HI.out.left (-1) (by omega) (by omega)).is (by repeat (first | exact Mv.refl _ _ | apply Mv.drewN | apply Mv.drew | (apply Mv.setCell _ (.inl HI.out.mem))))⟩
  · have ha : D.arm n = { D with left := n } := by unfold Dev.arm; rw [if_neg hx]
    rw [ha]
    clear ha
    have hx1 := eq_false hx
    go_enter Try.func33, Try.ntmps33
    go_wp2
    first | go_end0 | ((try simp only [Exit.inBlock, Exit.then]); refine bodyPost_ret (results_none rfl _ _ _) rfl ?_)
    exact ⟨rfl, Moved.same (HI.out.left n (by omega) (by omega)).is (by repeat (first | exact Mv.refl _ _ | apply Mv.drewN | apply Mv.drew | (apply Mv.setCell _ (.inl HI.out.mem))))⟩

set_option maxHeartbeats 8000000 in
set_option maxRecDepth 100000 in
theorem Read_calls (h : IsDev W b F g D) (i : Int) : Calls Try.prog 37 #[.pointer (some ⟨g, 0, none⟩), .int .i64 i] W fun e W' => e = .returned (.tuple #[.string (if D.wrong i = 0 then rdOf ByteArray.empty D.now i else ⟨#[]⟩), .int .i64 (D.wrong i)]) ∧ Drawn0 W W' := by
  have HD := Aside0.mk h
  obtain ⟨g1, c1, g2, c2, v3, h⟩ := h
  have h0 := h.cell0
  have h4 := h.cell4
  by_cases hd : D.down = true
  · have hw : D.wrong i = 8 := by unfold Dev.wrong; rw [if_pos hd]
    rw [hw, if_neg (by decide)]
    clear hw h
    rw [hd] at h4
    clear hd
    go_enter Try.func37, Try.ntmps37
    go_wp2
    go_ret2
    exact ⟨rfl, by repeat (first | exact Drawn0.refl _ | apply Drawn0.step)⟩
  · have hd1 := Bool.eq_false_iff.mpr hd
    by_cases hi : i < 0
    · have hw : D.wrong i = 11 := by unfold Dev.wrong; rw [if_neg hd, if_pos hi]
      rw [hw, if_neg (by decide)]
      clear hw h hd
      rw [hd1] at h4
      have hi1 := decide_eq_true hi
      clear hi hd1
      go_enter Try.func37, Try.ntmps37
      go_wp2
      go_ret2
      exact ⟨rfl, by repeat (first | exact Drawn0.refl _ | apply Drawn0.step)⟩
    · by_cases hj : (D.now.length : Int) ≤ i
      · have hw : D.wrong i = 11 := by unfold Dev.wrong; rw [if_neg hd, if_neg hi, if_pos hj]
        rw [hw, if_neg (by decide)]
        clear hw h hd
        rw [hd1] at h4
        have hi1 := decide_eq_false hi
        have hj1 := decide_eq_true hj
        clear hi hd1 hj
        go_enter Try.func37, Try.ntmps37
        go_wp2
        go_ret2
        exact ⟨rfl, by repeat (first | exact Drawn0.refl _ | apply Drawn0.step)⟩
      · have hw : D.wrong i = 0 := by unfold Dev.wrong; rw [if_neg hd, if_neg hi, if_neg hj]
        rw [hw, if_pos rfl]
        have hi0 : 0 ≤ i := by omega
        have hj0 : i < (D.now.length : Int) := by omega
        obtain ⟨ha, _⟩ := h.at1 i hi0 hj0
        clear hw h hd
        rw [hd1] at h4
        have hi1 := decide_eq_false hi
        have hj1 := decide_eq_false hj
        have hp0 := eq_true hi0
        have hp1 := eq_true hj0
        have hi2 := decide_eq_true hi0
        have hj2 := decide_eq_true hj0
        clear hi hd1 hj hi0 hj0
        go_enter Try.func37, Try.ntmps37
        go_wp2
        go_ret2
        exact ⟨rfl, by repeat (first | exact Drawn0.refl _ | apply Drawn0.step)⟩
end


section
variable {W : World} {b g : Nat} {F : Nat → Prop} {D : Dev}
theorem infoR : (Try.prog.info? 80).map (fun i => (i.zero, i.size, i.bytes)) = some (some zW, 2, 24) := by kernel_rfl

set_option maxHeartbeats 8000000 in
set_option maxRecDepth 100000 in
theorem Write_calls (h : IsDev W b F g D) (i : Int) (s : ByteArray) (hp : D.pend.length ≤ 1000000) (hb : b ≤ W.heap.size) : Calls Try.prog 35 #[.pointer (some ⟨g, 0, none⟩), .int .i64 i, .string s] W fun e W' => e = .returned (.int .i64 (D.write i s).1) ∧ Moved W W' b F g (D.write i s).2 := by
  have HD := Aside0.mk h
  have h0 : ∃ g1 c1, W.cell? ⟨g, 0, none⟩ = some (.slice (some ⟨g1, 0, none⟩) D.now.length c1) := by
    obtain ⟨g1, c1, g2, c2, v3, h⟩ := h
    exact ⟨g1, c1, h.cell0⟩
  have h4 : W.cell? ⟨g, 4, none⟩ = some (.bool D.down) := by
    obtain ⟨g1, c1, g2, c2, v3, h⟩ := h
    exact h.cell4
  obtain ⟨g1, c1, h0⟩ := h0
  clear h
  by_cases hd : D.down = true
  · have hw : D.wrong i = 8 := by unfold Dev.wrong; rw [if_pos hd]
    have hx : D.write i s = (8, D) := by unfold Dev.write; rw [hw, if_neg (by decide)]
    rw [hx]
    clear hx hw
    rw [hd] at h4
    clear hd
    go_enter Try.func35, Try.ntmps35
    go_wp2
    go_ret
    exact ⟨rfl, Moved.same (HD.out.step (by intros; rfl)) (by repeat (first | exact Mv.refl _ _ | apply Mv.drewN | apply Mv.drew))⟩
  · have hd1 := Bool.eq_false_iff.mpr hd
    rw [hd1] at h4
    by_cases hi : i < 0
    · have hw : D.wrong i = 11 := by unfold Dev.wrong; rw [if_neg hd, if_pos hi]
      have hx : D.write i s = (11, D) := by unfold Dev.write; rw [hw, if_neg (by decide)]
      rw [hx]
      have hi1 := decide_eq_true hi
      clear hx hw hd hd1 hi
      go_enter Try.func35, Try.ntmps35
      go_wp2
      go_ret
      exact ⟨rfl, Moved.same (HD.out.step (by intros; rfl)) (by repeat (first | exact Mv.refl _ _ | apply Mv.drewN | apply Mv.drew))⟩
    · by_cases hj : (D.now.length : Int) ≤ i
      · have hw : D.wrong i = 11 := by unfold Dev.wrong; rw [if_neg hd, if_neg hi, if_pos hj]
        have hx : D.write i s = (11, D) := by unfold Dev.write; rw [hw, if_neg (by decide)]
        rw [hx]
        have hi1 := decide_eq_false hi
        have hj1 := decide_eq_true hj
        clear hx hw hd hd1 hi hj
        go_enter Try.func35, Try.ntmps35
        go_wp2
        go_ret
        exact ⟨rfl, Moved.same (HD.out.step (by intros; rfl)) (by repeat (first | exact Mv.refl _ _ | apply Mv.drewN | apply Mv.drew))⟩
      · have hw : D.wrong i = 0 := by unfold Dev.wrong; rw [if_neg hd, if_neg hi, if_neg hj]
        have hi1 := decide_eq_false hi
        have hj1 := decide_eq_false hj
        have hi0 : 0 ≤ i := by omega
        have hj0 : i < (D.now.length : Int) := by omega
        clear hd hd1 hi hj
        by_cases hs : s.size = 64
        · have hs1 : ((s.size : Int) == 64) = true := beq_iff_eq.mpr (by omega)
          have hs2 : ((s.size : Int) != 64) = false := bne_eq_false_iff_eq.mpr (by omega)
          by_cases hq : D.spend.1 = 0
          · have hx : D.write i s = (0, D.spend.2.put i s) := by unfold Dev.write; rw [if_pos hw, if_pos hs, if_pos hq]
            rw [hx]
            clear hx hw
            have HC := Aside0.mk (count_calls HD.out)
            rw [decide_eq_true hq] at HC
            have HN := Aside0.mk (spend_now D)
            have HP := Aside0.mk (spend_pend D)
            have hp0 := eq_true hi0
            have hk1 := decide_eq_true hi0
            have HI0 := Aside0.mk hi0
            have HI1 := Aside0.mk hj0
            have hp1 := eq_true hj0
            have hk2 := decide_eq_true hj0
            clear hq hi0 hj0
            go_enter Try.func35, Try.ntmps35
            go_wp2_with (first | (go_at_call 44; refine HC.out.mono ?_; rintro e w1 ⟨rfl, F1, ⟨g1, c1, g2, c2, v3, h1⟩, hF1, hM1⟩; have e0 := h1.cell0; rw [HN.out] at e0; obtain ⟨A, c, rfl⟩ := Kd.R_slice h1.pend; have e2 := h1.cell2; have f2 := h1.frz 2; obtain ⟨ea, ef⟩ := h1.at1 i HI0.out (by rw [HN.out]; exact HI1.out); have n1 := h1.ne1; have n2 := h1.ne1.symm; have HI := Aside0.mk (h1.mono (F' := fun k => F1 k ∨ w1.heap.size ≤ k) (fun _ hk => .inl hk)); have HM1 := Aside0.mk hM1; have HF1 := Aside0.mk hF1; clear h1 hM1 hF1) | ((with_reducible refine gate_builtin (b := .append) (xs := #[.tmp 41, .tmp 45]) rfl ?_); at_builtin; refine Kd.R_append kW (w0 := w1) b rfl (.tmp 41) (.tmp 45) 64 80 zW 24 rfl Try.underlying64 infoR rfl (by decide) (by omega) (.slice A D.spend.2.pend.length c) D.spend.2.pend (i, s) [.int .i64 i, .string s] (fun k => F1 k ∨ w1.heap.size ≤ k) (fun _ => False) rfl ?aX (kW_mk _ _ _ _) (fun _ h => h.elim) ?aF (HI.out.putAt i s).pend ((Below.refl b w1).setCell (Kd.R_base HI.out.now g1 rfl) _) ?aS ?aL ?_; (case aX => simp [World.setCell]; rfl); (case aF => intro k hk; exact .inr (by simpa [World.setCell] using hk)); (case aS => have := HM1.out.size; simp [World.setCell] at this ⊢; omega); (case aL => rw [HP.out]; omega); intro v1 w2 ho hB2 hg2 hat; obtain ⟨A', c', rfl⟩ := Kd.R_slice ho; have hb2 := (hg2.block g (blk_lt (HI.out.putAt i s).blk) (HI.out.putAt i s).ne3).trans (HI.out.putAt i s).blk; have e3 : w2.cell? ⟨g, 2, none⟩ = some (.slice A D.spend.2.pend.length c) := (blk_cell hb2 2).trans rfl; have f3 : w2.frozen? ⟨g, 2, none⟩ = false := blk_frozen hb2 2; have HO := Aside0.mk (And.intro ho hg2); clear ho hg2 hb2 hB2 hat))
            go_ret
            have hmap : ∀ k, (F1 k ∨ w1.heap.size ≤ k) → F k ∨ W.heap.size ≤ k := fun k hk => hk.elim (fun h1 => HF1.out k h1) (fun h1 => .inr (Nat.le_trans HM1.out.size h1))
            have e : (D.spend.2.pend ++ [(i, s)]).length = D.spend.2.pend.length + 1 := by simp
            have hO := (HI.out.putAt i s).pended HO.out.1 HO.out.2 (by
              intro p hp
              show 0 ≤ p.1 ∧ p.1 < ((D.spend.2.now.set i.toNat s).length : Int)
              rw [List.length_set]
              rcases List.mem_append.1 hp with hp | hp
              · exact HI.out.ok.at_ p hp
              · rw [List.mem_singleton.1 hp, HN.out]; exact ⟨HI0.out, HI1.out⟩)
            rw [e] at hO
            exact ⟨rfl, fun k => F1 k ∨ w1.heap.size ≤ k, hO.is, hmap, (((HM1.out.setCell (hmap _ HI.out.F1) _).grown HO.out.2 (fun k hk => hmap k (HI.out.F3 k hk))).setCell (hmap _ HI.out.mem) _)⟩
          · have hx : D.write i s = (8, D.spend.2) := by
              unfold Dev.write
              rw [if_pos hw, if_pos hs, if_neg hq]
              have h8 : D.spend.1 = 8 := by unfold Dev.spend at hq ⊢; split; rfl; split <;> simp_all
              rw [← h8]
            rw [hx]
            clear hx hw
            have HC := Aside0.mk (count_calls HD.out)
            rw [decide_eq_false hq] at HC
            clear hq
            go_enter Try.func35, Try.ntmps35
            go_wp2_with (first | (go_at_call 44; refine HC.out.mono ?_; rintro e w1 ⟨rfl, hM1⟩; have HM1 := Aside0.mk hM1; clear hM1))
            go_ret
            exact ⟨rfl, HM1.out⟩
        · have hs2 : ((s.size : Int) != 64) = true := bne_iff_ne.mpr (by omega)
          have hx : D.write i s = (1, D) := by unfold Dev.write; rw [if_pos hw, if_neg hs]
          rw [hx]
          clear hx hw
          go_enter Try.func35, Try.ntmps35
          go_wp2
          go_ret
          exact ⟨rfl, Moved.same (HD.out.step (by intros; rfl)) (by repeat (first | exact Mv.refl _ _ | apply Mv.drewN | apply Mv.drew))⟩
end


/-- what a flush does here: the sectors of the last flush are those of now. -/
def rflush (D : Dev) : Int × Dev := if D.down = true then (8, D) else if D.spend.1 = 0 then (0, { D.spend.2 with last := D.now, pend := [] }) else D.spend
/-- An empty row in a block of its own. -/
theorem empty_R {W : World} {b g : Nat} {ok : Nat → Prop} (hb : b ≤ g) (hok : ok g) (h : W.heap[g]? = some (.cells #[] 9 (0, 0))) : Kd.string.R 9 W b ok (.slice (some ⟨g, 0, none⟩) 0 0) [] :=
  Kd.R_of_own (enc := Value.string) (h1 := fun _ => rfl) ⟨rfl, .inr ⟨g, 0, #[], rfl, hb, h, Nat.le_refl _, by decide, rfl, rfl⟩⟩ (fun k hk => by
    have : g = k := by simpa [Value.ownBlock] using hk
    exact this ▸ hok)
section
variable {W W1 : World} {b g : Nat} {F : Nat → Prop} {D : Dev} {g1 c1 g2 c2 g5 c5 : Nat} {v3 : Value} {l : List ByteArray}
theorem Op.setLast (h : Op W b F g D g1 c1 g2 c2 v3) (hB : Below W.heap.size W W1) (hR : Kd.string.R 9 W1 W.heap.size (fun k => W.heap.size ≤ k) (.slice (some ⟨g5, 0, none⟩) l.length c5) l) (hF : ∀ k, W.heap.size ≤ k → F k) (hb : b ≤ W.heap.size) (hl : l.length = D.now.length) :
    Op (W1.setCell ⟨g, 1, none⟩ (.slice (some ⟨g5, 0, none⟩) l.length c5)) b F g { D with last := l } g1 c1 g5 c5 v3 := by
  have h5 : W.heap.size ≤ g5 := Kd.R_base hR g5 rfl
  obtain ⟨cells, hc⟩ := h.blk1
  have h1 := blk_lt hc
  have hO := h.below hB
  exact ⟨by simpa using blk_set hO.blk 1 (.slice (some ⟨g5, 0, none⟩) l.length c5), hO.ge, hO.mem, Kd.R_set hO.now hO.blk (by decide) 1 _, Kd.R_set (Kd.R_lower (Kd.R_mono hR hF) hb) hO.blk (by decide) 1 _, Kd.R_set hO.pend hO.blk (by decide) 1 _, by omega,
    ⟨hl, hO.ok.pos, hO.ok.small, hO.ok.at_, hO.ok.left0, hO.ok.left1⟩⟩
theorem Op.setNow (h : Op W b F g D g1 c1 g2 c2 v3) (hB : Below W.heap.size W W1) (hR : Kd.string.R 9 W1 W.heap.size (fun k => W.heap.size ≤ k) (.slice (some ⟨g5, 0, none⟩) l.length c5) l) (hF : ∀ k, W.heap.size ≤ k → F k) (hb : b ≤ W.heap.size) (hl : l.length = D.now.length) :
    Op (W1.setCell ⟨g, 0, none⟩ (.slice (some ⟨g5, 0, none⟩) l.length c5)) b F g { D with now := l } g5 c5 g2 c2 v3 := by
  have h5 : W.heap.size ≤ g5 := Kd.R_base hR g5 rfl
  obtain ⟨cells, hc⟩ := h.blk2
  have h1 := blk_lt hc
  have hO := h.below hB
  exact ⟨by simpa using blk_set hO.blk 0 (.slice (some ⟨g5, 0, none⟩) l.length c5), hO.ge, hO.mem, Kd.R_set (Kd.R_lower (Kd.R_mono hR hF) hb) hO.blk (by decide) 0 _, Kd.R_set hO.last hO.blk (by decide) 0 _, Kd.R_set hO.pend hO.blk (by decide) 0 _, by omega,
    ⟨by show D.last.length = l.length; rw [hl]; exact hO.ok.len, by show 0 < l.length; rw [hl]; exact hO.ok.pos, by show l.length ≤ _; rw [hl]; exact hO.ok.small, by show ∀ p, p ∈ D.pend → 0 ≤ p.1 ∧ p.1 < l.length; rw [hl]; exact hO.ok.at_, hO.ok.left0, hO.ok.left1⟩⟩
theorem Op.noPend (h : Op W b F g D g1 c1 g2 c2 v3) : Op (W.setCell ⟨g, 2, none⟩ (.slice none 0 0)) b F g { D with pend := [] } g1 c1 g2 c2 (.slice none 0 0) :=
  ⟨by simpa using blk_set h.blk 2 (.slice none 0 0), h.ge, h.mem, Kd.R_set h.now h.blk (by decide) 2 _, Kd.R_set h.last h.blk (by decide) 2 _, Kd.R_nil _ _ _ _ _, h.ne,
    ⟨h.ok.len, h.ok.pos, h.ok.small, (fun p hp => by simp at hp), h.ok.left0, h.ok.left1⟩⟩
end
theorem infoS : (Try.prog.info? 9).map (fun i => (i.zero, i.size, i.bytes)) = some (some (.string ⟨#[]⟩), 1, 16) := by kernel_rfl
section
variable {W : World} {b g : Nat} {F : Nat → Prop} {D : Dev}

set_option maxHeartbeats 8000000 in
set_option maxRecDepth 100000 in
theorem Flush_calls (h : IsDev W b F g D) (hb : b ≤ W.heap.size) : Calls Try.prog 32 #[.pointer (some ⟨g, 0, none⟩)] W fun e W' => e = .returned (.int .i64 (rflush D).1) ∧ Moved W W' b F g (rflush D).2 := by
  have HD := Aside0.mk h
  have h4 : W.cell? ⟨g, 4, none⟩ = some (.bool D.down) := by
    obtain ⟨g1, c1, g2, c2, v3, h⟩ := h
    exact h.cell4
  clear h
  by_cases hd : D.down = true
  · have hx : rflush D = (8, D) := by unfold rflush; rw [if_pos hd]
    rw [hx]
    clear hx
    rw [hd] at h4
    clear hd
    go_enter Try.func32, Try.ntmps32
    go_wp2
    go_ret
    exact ⟨rfl, Moved.same (HD.out.step (by intros; rfl)) (by repeat (first | exact Mv.refl _ _ | apply Mv.drewN | apply Mv.drew))⟩
  · have hd1 := Bool.eq_false_iff.mpr hd
    rw [hd1] at h4
    by_cases hq : D.spend.1 = 0
    · have hx : rflush D = (0, { D.spend.2 with last := D.now, pend := [] }) := by unfold rflush; rw [if_neg hd, if_pos hq]
      rw [hx, ← spend_now D]
      clear hx hd hd1
      have HC := Aside0.mk (count_calls HD.out)
      rw [decide_eq_true hq] at HC
      clear hq
      generalize D.spend.2 = D1 at HC ⊢
      go_enter Try.func32, Try.ntmps32
      go_wp2_with (first | (go_at_call 44; refine HC.out.mono ?_; rintro e w1 ⟨rfl, F1, ⟨g1, c1, g2, c2, v3, h1⟩, hF1, hM1⟩; have ltg := blk_lt h1.blk; have e0 := h1.cell0; have e1 := h1.cell1; have f1 := h1.frz 1; have HI := Aside0.mk (h1.mono (F' := fun k => F1 k ∨ w1.heap.size ≤ k) (fun _ hk => .inl hk)); have HM1 := Aside0.mk hM1; have HF1 := Aside0.mk hF1; clear h1 hM1 hF1) | ((with_reducible refine gate_builtin (b := .append) (xs := #[.tmp 13, .tmp 17]) rfl ?_); at_builtin; refine Kd.R_append_row Value.string ByteArray.empty (h1 := fun _ => rfl) (w0 := w1) w1.heap.size rfl (.tmp 13) (.tmp 17) 53 9 (.string ⟨#[]⟩) 16 rfl Try.underlying53 infoS rfl (by decide) (.slice (some ⟨w1.heap.size, 0, none⟩) 0 0) [] D1.now (some ⟨g1, 0, none⟩) D1.now.length c1 (fun k => w1.heap.size ≤ k) rfl rfl (fun k hk => Nat.le_trans (by simp) hk) (empty_R (Nat.le_refl _) (Nat.le_refl _) (heap_alloc_new w1 _)) (Kd.R_reads' (HI.out.below (below_alloc (Below.refl _ _) _)).now).2.2 (below_alloc (Below.refl _ _) _) (by simp) (by have := HI.out.ok.small; simp; omega) ?_; intro v1 w2 ho hB2 _ _; rw [List.nil_append] at ho; obtain ⟨g5, c5, rfl, _⟩ := Kd.R_form ho HI.out.ok.pos; have HO := Aside0.mk ho; have HB2 := Aside0.mk hB2; have hI := HI.out.below hB2; have e3 := hI.cell1; have f3 := hI.frz 1; have f4 := hI.frz 2; have e4 := hI.cell2; clear ho hB2 hI))
      go_ret
      have hmap : ∀ k, (F1 k ∨ w1.heap.size ≤ k) → F k ∨ W.heap.size ≤ k := fun k hk => hk.elim (fun h1 => HF1.out k h1) (fun h1 => .inr (Nat.le_trans HM1.out.size h1))
      have hO := (HI.out.setLast HB2.out HO.out (fun k hk => .inr hk) (Nat.le_trans hb HM1.out.size) rfl).noPend
      exact ⟨rfl, _, hO.is, hmap, ((HM1.out.trans (Mv.of_below HB2.out (fun _ => False)) (fun _ h => h.elim)).setCell (hmap _ HI.out.mem) _).setCell (hmap _ HI.out.mem) _⟩
    · have hx : rflush D = (8, D.spend.2) := by
        unfold rflush
        rw [if_neg hd, if_neg hq]
        have h8 : D.spend.1 = 8 := by unfold Dev.spend at hq ⊢; split; rfl; split <;> simp_all
        rw [← h8]
      rw [hx]
      clear hx hd hd1
      have HC := Aside0.mk (count_calls HD.out)
      rw [decide_eq_false hq] at HC
      clear hq
      go_enter Try.func32, Try.ntmps32
      go_wp2_with (first | (go_at_call 44; refine HC.out.mono ?_; rintro e w1 ⟨rfl, hM1⟩; have HM1 := Aside0.mk hM1; clear hM1))
      go_ret
      exact ⟨rfl, HM1.out⟩
end


theorem odd_tmod (x : Int) : odd x = (Int.tmod x 2 != 0) := by
  have h1 : (BitVec.ofInt 64 x &&& BitVec.ofInt 64 1).toNat = (x % 2).toNat := by
    rw [BitVec.toNat_and, BitVec.toNat_ofInt, BitVec.toNat_ofInt]
    have e : ((1 : Int) % ((2 ^ 64 : Nat) : Int)).toNat = 1 := by decide
    rw [e, Nat.and_one_is_mod]
    omega
  unfold odd Go.bits
  show decide (0 < IntKind.i64.wrap ((BitVec.ofInt 64 x &&& BitVec.ofInt 64 1).toNat : Int)) = _
  rw [h1, Go.IntKind.wrap_i64]
  rcases (show x % 2 = 0 ∨ x % 2 = 1 by omega) with h | h
  · have : Int.tmod x 2 = 0 := Int.tmod_eq_zero_of_dvd (by omega)
    rw [h, this]; decide
  · have : Int.tmod x 2 ≠ 0 := fun e => by have := Int.dvd_of_tmod_eq_zero e; omega
    rw [h, bne_iff_ne.mpr this]; decide

theorem keptOf_cut : ∀ (ps : List (Int × ByteArray)) (ks : List Int) (j : Nat), j ≤ ks.length → (j = ps.length ∨ j = ks.length) → keptOf (ps.take j) (ks.take j) = keptOf ps ks
  | [], ks, j, _, _ => by simp [keptOf]
  | p :: ps, [], j, _, _ => by simp [keptOf]
  | p :: ps, k :: ks, 0, _, h => by simp at h
  | p :: ps, k :: ks, j + 1, hj, h => by
    have ih := keptOf_cut ps ks j (by simpa using hj) (by simpa using h)
    simp only [List.take_succ_cons, keptOf, ih]
section
variable {W : World} {b g : Nat} {F : Nat → Prop} {D : Dev}
set_option maxHeartbeats 8000000 in
set_option maxRecDepth 100000 in
theorem Power_calls (h : IsDev W b F g D) (hb : b ≤ W.heap.size) (hp : D.pend.length ≤ 1000000) (K : Option Addr) (keep : List Int) (ck : Nat) (hk : ∀ W', Mv W W' F → (Kd.int .i64).C W' K keep.length keep) :
    Calls Try.prog 34 #[.pointer (some ⟨g, 0, none⟩), .slice K keep.length ck] W fun e W' => e = .returned (.tuple #[]) ∧ Moved W W' b F g (D.power keep) := by
  obtain ⟨g1, c1, g2, c2, v3, h⟩ := h
  obtain ⟨A, c, rfl⟩ := Kd.R_slice h.pend
  have HF0 := Aside0.mk h.ok
  have HI0 := Aside0.mk h
  have HK := Aside0.mk hk
  have HP := Aside0.mk hp
  clear h hk hp
  go_enter Try.func34, Try.ntmps34
  go_wp2
  go_loopw [4] (fun v4 wr => ∃ j : Nat, v4 = .int .i64 (j : Int) ∧ j ≤ D.pend.length ∧ j ≤ keep.length ∧ Aside0 (Op wr b F g { D with last := laid D.last (keptOf (D.pend.take j) (keep.take j)) } g1 c1 g2 c2 (.slice A D.pend.length c)) ∧ Aside0 (Mv W wr F)) (fun v4 _ => D.pend.length - (intOf v4).toNat)
  case atStart => exact ⟨0, rfl, Nat.zero_le _, Nat.zero_le _, ⟨by simpa [laid, keptOf] using HI0.out⟩, ⟨Mv.refl _ _⟩⟩
  case round =>
    clear HI0
    obtain ⟨j, rfl, hj, hjk, HI, HM⟩ := hrel
    have e2 := HI.out.cell2
    by_cases hlt : j < D.pend.length
    · have HLT := Aside0.mk hlt
      have hjb : j ≤ 1000000 := by have := HP.out; omega
      have hlt1 := decide_eq_true (show (j : Int) < (D.pend.length : Int) by omega)
      by_cases hkl : j < keep.length
      · have HKL := Aside0.mk hkl
        have hkl1 := decide_eq_true (show (j : Int) < (keep.length : Int) by omega)
        have hkl2 := eq_true (show (j : Int) < (keep.length : Int) by omega)
        obtain ⟨adk, hKe, hkc⟩ := Kd.at_int (HK.out _ HM.out) (j : Int) (by omega) (by omega)
        subst hKe
        simp only [Int.toNat_natCast] at hkc
        have hrd : rd keep (j : Int) = keep.getD j 0 := rfl
        rw [hrd] at hkc
        have hY := keptOf_yes D.pend keep j hlt
        have hN := keptOf_no D.pend keep j
        by_cases ho : odd (keep.getD j 0) = true
        · have HY := Aside0.mk (hY hkl ho)
          clear hY hN
          rw [odd_tmod] at ho
          obtain ⟨ad, hAe, hx0, hx1⟩ := at_W (Kd.R_reads' HI.out.pend).2.2 (j : Int) (by omega) (by show (j : Int) < (D.pend.length : Nat); omega)
          subst hAe
          simp only [Int.toNat_natCast] at hx0 hx1
          have hm : D.pend.getD j (0, ⟨#[]⟩) ∈ D.pend := by simp [List.getD, hlt]
          have hk := HF0.out.at_ _ hm
          generalize D.pend.getD j (0, ⟨#[]⟩) = x at HY hx0 hx1 hk
          generalize keep.getD j 0 = kv at ho hkc
          have hk0 := eq_true hk.1
          have HK0 := Aside0.mk hk
          have hk1 := eq_true (show x.1 < (D.last.length : Int) by have := hk.2; have := HF0.out.len; omega)
          have hk2 := decide_eq_true hk.1
          have hk3 := decide_eq_true (show x.1 < (D.last.length : Int) by have := hk.2; have := HF0.out.len; omega)
          clear hm hk
          have e1 := HI.out.cell1
          obtain ⟨ea, ef⟩ := HI.out.at2 x.1 HK0.out.1 (by show x.1 < ((laid D.last _).length : Int); rw [laid_length]; exact of_eq_true hk1)
          simp only [laid_length] at e1
          have HI2 := HI
          have HM2 := HM
          clear HI HM
          go_wp2
          go_region
          go_wp2
          go_roundw
          case rel =>
            refine ⟨j + 1, by go_num, by have := HLT.out; omega, by have := HKL.out; omega, ⟨?_⟩, ⟨?_⟩⟩
            · have hO := (HI2.out.lastAt x.1 x.2).drew
              rw [HY.out, laid_append]
              exact hO
            · exact (HM2.out.setCell (.inl HI2.out.F2) _).drew
          case measure => have := HLT.out; simp [intOf]; omega
        · have HY := Aside0.mk (hN (fun _ => by simpa using ho))
          clear hY hN
          rw [odd_tmod] at ho
          have ho1 := Bool.eq_false_iff.mpr ho
          generalize keep.getD j 0 = kv at ho1 hkc
          clear ho
          go_wp2
          go_roundw
          case rel =>
            refine ⟨j + 1, by go_num, by have := HLT.out; omega, by have := HKL.out; omega, ⟨?_⟩, ⟨HM.out⟩⟩
            rw [HY.out]
            exact HI.out
          case measure => have := HLT.out; simp [intOf]; omega
      · obtain rfl : j = keep.length := by omega
        have hkl1 := decide_eq_false hkl
        have HX := Aside0.mk (keptOf_cut D.pend keep keep.length (Nat.le_refl _) (.inr rfl))
        rw [HX.out] at HI
        have HI1 := Aside0.mk (HI.out.mono (F' := fun k => F k ∨ wr.heap.size ≤ k) (fun _ hk => .inl hk))
        have hLl : (laid D.last (keptOf D.pend keep)).length = D.last.length := laid_length _ _
        have HPW := Aside0.mk (show D.power keep = { now := laid D.last (keptOf D.pend keep), last := laid D.last (keptOf D.pend keep), pend := [], left := -1, down := false } from rfl)
        have e1 := HI.out.cell1
        simp only [laid_length] at e1
        have HLN := Aside0.mk HF0.out.len
        have HPO := Aside0.mk HF0.out.pos
        have HSM := Aside0.mk HF0.out.small
        have ltg := blk_lt HI.out.blk
        have HC2 := Aside0.mk (fun V (hV : Below wr.heap.size wr V) => show Kd.string.C V (some ⟨g2, 0, none⟩) D.last.length (laid D.last (keptOf D.pend keep)) from by rw [← hLl]; exact (Kd.R_reads' (HI.out.below hV).last).2.2)
        generalize laid D.last (keptOf D.pend keep) = L at HI HI1 hLl HPW HC2
        have HLL := Aside0.mk hLl
        clear HI hLl
        go_wp2_with (first | ((with_reducible refine gate_builtin (b := .append) (xs := #[.tmp 48, .tmp 52]) rfl ?_); at_builtin; refine Kd.R_append_row Value.string ByteArray.empty (h1 := fun _ => rfl) (w0 := wr) wr.heap.size rfl (.tmp 48) (.tmp 52) 53 9 (.string ⟨#[]⟩) 16 rfl Try.underlying53 infoS rfl (by decide) (.slice (some ⟨wr.heap.size, 0, none⟩) 0 0) [] L (some ⟨g2, 0, none⟩) D.last.length c2 (fun k => wr.heap.size ≤ k) rfl rfl (fun k hk => Nat.le_trans (by simp) hk) (empty_R (Nat.le_refl _) (Nat.le_refl _) (heap_alloc_new wr _)) (HC2.out _ (below_alloc (Below.refl _ _) _)) (below_alloc (Below.refl _ _) _) (by simp) (by have := HSM.out; have := HLN.out; simp; omega) ?_; intro v1 w2 ho hB2 _ _; rw [List.nil_append] at ho; obtain ⟨g5, c5, rfl, _⟩ := Kd.R_form ho (by rw [HLL.out, HLN.out]; exact HPO.out); have HO := Aside0.mk ho; have HB2 := Aside0.mk hB2; have hI := HI1.out.below hB2; have q0 := hI.cell0; have q2 := hI.cell2; have q3 := hI.cell3; have q4 := hI.cell4; have f0 := hI.frz 0; have f2 := hI.frz 2; have f3 := hI.frz 3; have f4 := hI.frz 4; clear ho hB2 hI))
        first | go_end0 | ((try simp only [Exit.inBlock, Exit.then]); refine bodyPost_ret (results_none rfl _ _ _) rfl ?_)
        have hmap : ∀ k, (F k ∨ wr.heap.size ≤ k) → F k ∨ W.heap.size ≤ k := fun k hk => hk.elim .inl (fun h1 => .inr (Nat.le_trans HM.out.size h1))
        have hO := (((HI1.out.setNow HB2.out HO.out (fun k hk => .inr hk) (Nat.le_trans hb HM.out.size) (HLL.out.trans HLN.out)).noPend.left (-1) (by omega) (by omega)).power false).is
        rw [HPW.out]
        exact ⟨rfl, _, hO, hmap, (((HM.out.trans (Mv.of_below HB2.out (fun _ => False)) (fun _ h => h.elim)).setCell (hmap _ HI1.out.mem) _).setCell (hmap _ HI1.out.mem) _ |>.setCell (hmap _ HI1.out.mem) _).setCell (hmap _ HI1.out.mem) _⟩
    · obtain rfl : j = D.pend.length := by omega
      have hlt1 := decide_eq_false hlt
      have HX := Aside0.mk (keptOf_cut D.pend keep D.pend.length hjk (.inl rfl))
      rw [HX.out] at HI
      have HI1 := Aside0.mk (HI.out.mono (F' := fun k => F k ∨ wr.heap.size ≤ k) (fun _ hk => .inl hk))
      have hLl : (laid D.last (keptOf D.pend keep)).length = D.last.length := laid_length _ _
      have HPW := Aside0.mk (show D.power keep = { now := laid D.last (keptOf D.pend keep), last := laid D.last (keptOf D.pend keep), pend := [], left := -1, down := false } from rfl)
      have e1 := HI.out.cell1
      simp only [laid_length] at e1
      have HLN := Aside0.mk HF0.out.len
      have HPO := Aside0.mk HF0.out.pos
      have HSM := Aside0.mk HF0.out.small
      have ltg := blk_lt HI.out.blk
      have HC2 := Aside0.mk (fun V (hV : Below wr.heap.size wr V) => show Kd.string.C V (some ⟨g2, 0, none⟩) D.last.length (laid D.last (keptOf D.pend keep)) from by rw [← hLl]; exact (Kd.R_reads' (HI.out.below hV).last).2.2)
      generalize laid D.last (keptOf D.pend keep) = L at HI HI1 hLl HPW HC2
      have HLL := Aside0.mk hLl
      clear HI hLl
      go_wp2_with (first | ((with_reducible refine gate_builtin (b := .append) (xs := #[.tmp 48, .tmp 52]) rfl ?_); at_builtin; refine Kd.R_append_row Value.string ByteArray.empty (h1 := fun _ => rfl) (w0 := wr) wr.heap.size rfl (.tmp 48) (.tmp 52) 53 9 (.string ⟨#[]⟩) 16 rfl Try.underlying53 infoS rfl (by decide) (.slice (some ⟨wr.heap.size, 0, none⟩) 0 0) [] L (some ⟨g2, 0, none⟩) D.last.length c2 (fun k => wr.heap.size ≤ k) rfl rfl (fun k hk => Nat.le_trans (by simp) hk) (empty_R (Nat.le_refl _) (Nat.le_refl _) (heap_alloc_new wr _)) (HC2.out _ (below_alloc (Below.refl _ _) _)) (below_alloc (Below.refl _ _) _) (by simp) (by have := HSM.out; have := HLN.out; simp; omega) ?_; intro v1 w2 ho hB2 _ _; rw [List.nil_append] at ho; obtain ⟨g5, c5, rfl, _⟩ := Kd.R_form ho (by rw [HLL.out, HLN.out]; exact HPO.out); have HO := Aside0.mk ho; have HB2 := Aside0.mk hB2; have hI := HI1.out.below hB2; have q0 := hI.cell0; have q2 := hI.cell2; have q3 := hI.cell3; have q4 := hI.cell4; have f0 := hI.frz 0; have f2 := hI.frz 2; have f3 := hI.frz 3; have f4 := hI.frz 4; clear ho hB2 hI))
      first | go_end0 | ((try simp only [Exit.inBlock, Exit.then]); refine bodyPost_ret (results_none rfl _ _ _) rfl ?_)
      have hmap : ∀ k, (F k ∨ wr.heap.size ≤ k) → F k ∨ W.heap.size ≤ k := fun k hk => hk.elim .inl (fun h1 => .inr (Nat.le_trans HM.out.size h1))
      have hO := (((HI1.out.setNow HB2.out HO.out (fun k hk => .inr hk) (Nat.le_trans hb HM.out.size) (HLL.out.trans HLN.out)).noPend.left (-1) (by omega) (by omega)).power false).is
      rw [HPW.out]
      exact ⟨rfl, _, hO, hmap, (((HM.out.trans (Mv.of_below HB2.out (fun _ => False)) (fun _ h => h.elim)).setCell (hmap _ HI1.out.mem) _).setCell (hmap _ HI1.out.mem) _ |>.setCell (hmap _ HI1.out.mem) _).setCell (hmap _ HI1.out.mem) _⟩
end

end Go.Proofs.Ytakpedenoocmpaa.Rf
