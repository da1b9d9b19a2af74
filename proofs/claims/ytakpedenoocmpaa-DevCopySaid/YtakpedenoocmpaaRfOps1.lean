import Derived.Test.YtakpedenoocmpaaRfBase
/-! The reference's small functions, walked. -/
namespace Go.Proofs.Ytakpedenoocmpaa.Rf
open Go.RowKit Go.Proofs.YtakpedenoocmpaaW.PrintWords Go.Proofs.YtakpedenoocmpaaW.PrintLast Go.Proofs.YtakpedenoocmpaaW.PrintMore
open Go.Proofs.Ytakpedenoocmpaa.Dv (Dev kW kW_E kW_sz kW_mk kW_open Mv wrong_ok spend_now spend_last spend_pend)
attribute [local go_sem] max2_int min2_int max_two min_two max_three min_three max_four min_four
set_option linter.unusedVariables false
set_option linter.unusedSimpArgs false

section
variable {W : World} {b g : Nat} {F : Nat → Prop} {D : Dev}

set_option maxHeartbeats 8000000 in
set_option maxRecDepth 100000 in
theorem count_calls (h : IsDev W b F g D) : Calls Try.prog 44 #[.pointer (some ⟨g, 0, none⟩)] W fun e W' => e = .returned (.bool (decide (D.spend.1 = 0))) ∧ Moved W W' b F g D.spend.2 := by
  obtain ⟨g1, c1, g2, c2, v3, h⟩ := h
  have h3 := h.cell3
  have f3 := h.frz 3
  have f4 := h.frz 4
  have h4 := h.cell4
  have HI := Aside0.mk h
  have hl0 := h.ok.left0
  have hl1 := h.ok.left1
  clear h
  by_cases hd : D.left = 0
  · have hw : D.spend = (8, { D with down := true }) := by unfold Dev.spend; rw [if_pos hd]
    rw [hw]
    clear hw
    rw [hd] at h3
    clear hd
    go_enter Try.func44, Try.ntmps44
    go_wp2
    go_ret
    exact ⟨rfl, Moved.same (by repeat (first | exact HI.out.is | apply Op.is | apply Op.power | apply Op.drew | apply Op.drewN | exact HI.out)) (by repeat (first | exact Mv.refl _ _ | apply Mv.drewN | apply Mv.drew | (apply Mv.setCell _ (.inl HI.out.mem))))⟩
  · have hd1 := beq_eq_false_iff_ne.mpr hd
    by_cases hp : 0 < D.left
    · have hw : D.spend = (0, { D with left := D.left - 1 }) := by unfold Dev.spend; rw [if_neg hd, if_pos hp]
      rw [hw]
      clear hw
      have hp1 := decide_eq_true hp
      go_enter Try.func44, Try.ntmps44
      go_wp2
      go_ret
      exact ⟨rfl, Moved.same (by repeat (first | exact (HI.out.left (D.left - 1) (by omega) (by omega)).is | exact (HI.out.drew.left (D.left - 1) (by omega) (by omega)).is)) (by repeat (first | exact Mv.refl _ _ | apply Mv.drewN | apply Mv.drew | (apply Mv.setCell _ (.inl HI.out.mem))))⟩
    · have hw : D.spend = (0, D) := by unfold Dev.spend; rw [if_neg hd, if_neg hp]
      rw [hw]
      clear hw
      have hp1 := decide_eq_false hp
      go_enter Try.func44, Try.ntmps44
      go_wp2
      go_ret
      exact ⟨rfl, Moved.same (by repeat (first | exact HI.out.is | apply Op.is | apply Op.drew | apply Op.drewN | exact HI.out)) (by repeat (first | exact Mv.refl _ _ | apply Mv.drewN | apply Mv.drew))⟩

set_option maxHeartbeats 8000000 in
set_option maxRecDepth 100000 in
theorem Arm_calls (h : IsDev W b F g D) (n : Int) (hn : n < 9223372036854775808) : Calls Try.prog 33 #[.pointer (some ⟨g, 0, none⟩), .int .i64 n] W fun e W' => e = .returned (.tuple #[]) ∧ Moved W W' b F g (D.arm n) := by
  obtain ⟨g1, c1, g2, c2, v3, h⟩ := h
  have h3 := h.cell3
  have f3 := h.frz 3
  have HI := Aside0.mk h
  clear h
  by_cases hx : n < -1
  · have ha : D.arm n = { D with left := -1 } := by unfold Dev.arm; rw [if_pos hx]
    rw [ha]
    clear ha
    have hx1 := eq_true hx
    go_enter Try.func33, Try.ntmps33
    go_wp2
    first | go_end0 | ((try simp only [Exit.inBlock, Exit.then]); refine bodyPost_ret (results_none rfl _ _ _) rfl ?_)
    exact ⟨rfl, Moved.same (HI.out.left (-1) (by omega) (by omega)).is (by repeat (first | exact Mv.refl _ _ | apply Mv.drewN | apply Mv.drew | (apply Mv.setCell _ (.inl HI.out.mem))))⟩
  · have ha : D.arm n = { D with left := n } := by unfold Dev.arm; rw [if_neg hx]
    rw [ha]
    clear ha
    have hx1 := eq_false hx
    go_enter Try.func33, Try.ntmps33
    go_wp2
    first | go_end0 | ((try simp only [Exit.inBlock, Exit.then]); refine bodyPost_ret (results_none rfl _ _ _) rfl ?_)
    exact ⟨rfl, Moved.same (HI.out.left n (by omega) (by omega)).is (by repeat (first | exact Mv.refl _ _ | apply Mv.drewN | apply Mv.drew | (apply Mv.setCell _ (.inl HI.out.mem))))⟩

set_option maxHeartbeats 8000000 in
set_option maxRecDepth 100000 in
theorem Read_calls (h : IsDev W b F g D) (i : Int) : Calls Try.prog 37 #[.pointer (some ⟨g, 0, none⟩), .int .i64 i] W fun e W' => e = .returned (.tuple #[.string (if D.wrong i = 0 then rdOf ByteArray.empty D.now i else ⟨#[]⟩), .int .i64 (D.wrong i)]) ∧ Drawn0 W W' := by
  have HD := Aside0.mk h
  obtain ⟨g1, c1, g2, c2, v3, h⟩ := h
  have h0 := h.cell0
  have h4 := h.cell4
  by_cases hd : D.down = true
  · have hw : D.wrong i = 8 := by unfold Dev.wrong; rw [if_pos hd]
    rw [hw, if_neg (by decide)]
    clear hw h
    rw [hd] at h4
    clear hd
    go_enter Try.func37, Try.ntmps37
    go_wp2
    go_ret2
    exact ⟨rfl, by repeat (first | exact Drawn0.refl _ | apply Drawn0.step)⟩
  · have hd1 := Bool.eq_false_iff.mpr hd
    by_cases hi : i < 0
    · have hw : D.wrong i = 11 := by unfold Dev.wrong; rw [if_neg hd, if_pos hi]
      rw [hw, if_neg (by decide)]
      clear hw h hd
      rw [hd1] at h4
      have hi1 := decide_eq_true hi
      clear hi hd1
      go_enter Try.func37, Try.ntmps37
      go_wp2
      go_ret2
      exact ⟨rfl, by repeat (first | exact Drawn0.refl _ | apply Drawn0.step)⟩
    · by_cases hj : (D.now.length : Int) ≤ i
      · have hw : D.wrong i = 11 := by unfold Dev.wrong; rw [if_neg hd, if_neg hi, if_pos hj]
        rw [hw, if_neg (by decide)]
        clear hw h hd
        rw [hd1] at h4
        have hi1 := decide_eq_false hi
        have hj1 := decide_eq_true hj
        clear hi hd1 hj
        go_enter Try.func37, Try.ntmps37
        go_wp2
        go_ret2
        exact ⟨rfl, by repeat (first | exact Drawn0.refl _ | apply Drawn0.step)⟩
      · have hw : D.wrong i = 0 := by unfold Dev.wrong; rw [if_neg hd, if_neg hi, if_neg hj]
        rw [hw, if_pos rfl]
        have hi0 : 0 ≤ i := by omega
        have hj0 : i < (D.now.length : Int) := by omega
        obtain ⟨ha, _⟩ := h.at1 i hi0 hj0
        clear hw h hd
        rw [hd1] at h4
        have hi1 := decide_eq_false hi
        have hj1 := decide_eq_false hj
        have hp0 := eq_true hi0
        have hp1 := eq_true hj0
        have hi2 := decide_eq_true hi0
        have hj2 := decide_eq_true hj0
        clear hi hd1 hj hi0 hj0
        go_enter Try.func37, Try.ntmps37
        go_wp2
        go_ret2
        exact ⟨rfl, by repeat (first | exact Drawn0.refl _ | apply Drawn0.step)⟩
end
end Go.Proofs.Ytakpedenoocmpaa.Rf
