import Derived.Test.YtakpedenoocmpaaDvPure
/-! The device's small functions, walked. -/
namespace Go.Proofs.Ytakpedenoocmpaa.Dv
open Go.RowKit Go.Proofs.YtakpedenoocmpaaW.PrintWords Go.Proofs.YtakpedenoocmpaaW.PrintLast Go.Proofs.YtakpedenoocmpaaW.PrintMore
attribute [local go_sem] max2_int min2_int max_two min_two max_three min_three max_four min_four
set_option linter.unusedVariables false
set_option linter.unusedSimpArgs false

section
variable {W : World} {b g : Nat} {F : Nat → Prop} {D : Dev}

set_option maxHeartbeats 8000000 in
set_option maxRecDepth 100000 in
theorem wrong_calls (h : IsDev W b F g D) (i : Int) : Calls Try.prog 27 #[.pointer (some ⟨g, 0, none⟩), .int .i64 i] W fun e W' => e = .returned (.int .i64 (D.wrong i)) ∧ Drawn0 W W' := by
  obtain ⟨g1, c1, g2, c2, v3, h⟩ := h
  have h0 := h.cell0
  have h4 := h.cell4
  have HI := Aside0.mk h
  clear h
  by_cases hd : D.down = true
  · have hw : D.wrong i = 8 := by unfold Dev.wrong; rw [if_pos hd]
    rw [hw]
    clear hw
    rw [hd] at h4
    clear hd
    go_enter Try.func27, Try.ntmps27
    go_wp2
    go_ret
    exact ⟨rfl, by repeat (first | exact Drawn0.refl _ | apply Drawn0.step)⟩
  · have hw : D.wrong i = if i < 0 then 11 else if (D.now.length : Int) ≤ i then 11 else 0 := by unfold Dev.wrong; rw [if_neg hd]
    rw [hw]
    clear hw
    rw [Bool.eq_false_iff.mpr hd] at h4
    clear hd
    by_cases hi : i < 0
    · rw [if_pos hi]
      have hi1 := decide_eq_true hi
      clear hi
      go_enter Try.func27, Try.ntmps27
      go_wp2
      go_ret
      exact ⟨rfl, by repeat (first | exact Drawn0.refl _ | apply Drawn0.step)⟩
    · rw [if_neg hi]
      have hi1 := decide_eq_false hi
      clear hi
      by_cases hj : (D.now.length : Int) ≤ i
      · rw [if_pos hj]
        have hj1 := decide_eq_true hj
        clear hj
        go_enter Try.func27, Try.ntmps27
        go_wp2
        go_ret
        exact ⟨rfl, by repeat (first | exact Drawn0.refl _ | apply Drawn0.step)⟩
      · rw [if_neg hj]
        have hj1 := decide_eq_false hj
        clear hj
        go_enter Try.func27, Try.ntmps27
        go_wp2
        go_ret
        exact ⟨rfl, by repeat (first | exact Drawn0.refl _ | apply Drawn0.step)⟩

theorem Op.left {g1 c1 g2 c2 : Nat} {v3 : Value} (h : Op W b F g D g1 c1 g2 c2 v3) (x : Int) (h0 : -1 ≤ x) (h1 : x < 9223372036854775808) : Op (W.setCell ⟨g, 3, none⟩ (.int .i64 x)) b F g { D with left := x } g1 c1 g2 c2 v3 :=
  ⟨by simpa using blk_set h.blk 3 (.int .i64 x), h.ge, h.mem,
   Kd.R_set h.now h.blk (by decide) 3 _, Kd.R_set h.last h.blk (by decide) 3 _, Kd.R_set h.pend h.blk (by decide) 3 _, h.ne, ⟨h.ok.len, h.ok.pos, h.ok.small, h.ok.at_, h0, h1⟩⟩
theorem Op.power {g1 c1 g2 c2 : Nat} {v3 : Value} (h : Op W b F g D g1 c1 g2 c2 v3) (x : Bool) : Op (W.setCell ⟨g, 4, none⟩ (.bool x)) b F g { D with down := x } g1 c1 g2 c2 v3 :=
  ⟨by simpa using blk_set h.blk 4 (.bool x), h.ge, h.mem,
   Kd.R_set h.now h.blk (by decide) 4 _, Kd.R_set h.last h.blk (by decide) 4 _, Kd.R_set h.pend h.blk (by decide) 4 _, h.ne, ⟨h.ok.len, h.ok.pos, h.ok.small, h.ok.at_, h.ok.left0, h.ok.left1⟩⟩
theorem Op.drewN {g1 c1 g2 c2 : Nat} {v3 : Value} (h : Op W b F g D g1 c1 g2 c2 v3) (n : Nat) : Op (W.drewN n) b F g D g1 c1 g2 c2 v3 := h.step (fun _ _ _ => rfl)
theorem Op.drew {g1 c1 g2 c2 : Nat} {v3 : Value} (h : Op W b F g D g1 c1 g2 c2 v3) : Op W.drew b F g D g1 c1 g2 c2 v3 := h.step (fun _ _ _ => rfl)
theorem Mv.drew {W1 : World} (h : Mv W W1 F) : Mv W W1.drew F := ⟨h.os, h.tape, h.output, h.size, h.block⟩
theorem Op.is {W : World} {b g : Nat} {F : Nat → Prop} {D : Dev} {g1 c1 g2 c2 : Nat} {v3 : Value} (h : Op W b F g D g1 c1 g2 c2 v3) : IsDev W b F g D := ⟨g1, c1, g2, c2, v3, h⟩

set_option maxHeartbeats 8000000 in
set_option maxRecDepth 100000 in
theorem spend_calls (h : IsDev W b F g D) : Calls Try.prog 28 #[.pointer (some ⟨g, 0, none⟩)] W fun e W' => e = .returned (.int .i64 D.spend.1) ∧ Moved W W' b F g D.spend.2 := by
  obtain ⟨g1, c1, g2, c2, v3, h⟩ := h
  have h3 := h.cell3
  have f3 := h.frz 3
  have f4 := h.frz 4
  have h4 := h.cell4
  have HI := Aside0.mk h
  have hl0 := h.ok.left0
  have hl1 := h.ok.left1
  clear h
  by_cases hd : D.left = 0
  · have hw : D.spend = (8, { D with down := true }) := by unfold Dev.spend; rw [if_pos hd]
    rw [hw]
    clear hw
    rw [hd] at h3
    clear hd
    go_enter Try.func28, Try.ntmps28
    go_wp2
    go_ret
    exact ⟨rfl, Moved.same (by repeat (first | exact HI.out.is | apply Op.is | apply Op.power | apply Op.drew | apply Op.drewN | exact HI.out)) (by repeat (first | exact Mv.refl _ _ | apply Mv.drewN | apply Mv.drew | (apply Mv.setCell _ (.inl HI.out.mem))))⟩
  · have hd1 := beq_eq_false_iff_ne.mpr hd
    by_cases hp : 0 < D.left
    · have hw : D.spend = (0, { D with left := D.left - 1 }) := by unfold Dev.spend; rw [if_neg hd, if_pos hp]
      rw [hw]
      clear hw
      have hp1 := decide_eq_true hp

      go_enter Try.func28, Try.ntmps28
      go_wp2
      go_ret
      exact ⟨rfl, Moved.same (HI.out.left (D.left - 1) (by omega) (by omega)).is (by repeat (first | exact Mv.refl _ _ | apply Mv.drewN | apply Mv.drew | (apply Mv.setCell _ (.inl HI.out.mem))))⟩
    · have hw : D.spend = (0, D) := by unfold Dev.spend; rw [if_neg hd, if_neg hp]
      rw [hw]
      clear hw
      have hp1 := decide_eq_false hp
      go_enter Try.func28, Try.ntmps28
      go_wp2
      go_ret
      exact ⟨rfl, Moved.same (by repeat (first | exact HI.out.is | apply Op.is | apply Op.drew | apply Op.drewN | exact HI.out)) (by repeat (first | exact Mv.refl _ _ | apply Mv.drewN | apply Mv.drew))⟩

set_option maxHeartbeats 8000000 in
set_option maxRecDepth 100000 in
theorem Read_calls (h : IsDev W b F g D) (i : Int) : Calls Try.prog 15 #[.pointer (some ⟨g, 0, none⟩), .int .i64 i] W fun e W' => e = .returned (.tuple #[.string (if D.wrong i = 0 then rdOf ByteArray.empty D.now i else ⟨#[]⟩), .int .i64 (D.wrong i)]) ∧ Drawn0 W W' := by
  have HD := Aside0.mk h
  obtain ⟨g1, c1, g2, c2, v3, h⟩ := h
  have h0 := h.cell0
  have h4 := h.cell4
  by_cases hw : D.wrong i = 0
  · obtain ⟨_, hi0, hi1⟩ := wrong_ok hw
    obtain ⟨ha, _⟩ := h.at1 i hi0 hi1
    rw [if_pos hw]
    have hp0 := eq_true hi0
    have hp1 := eq_true hi1
    have hj1 := decide_eq_true hi0
    have hj2 := decide_eq_true hi1
    clear h hi0 hi1
    have hw1 := Aside0.mk hw
    rw [hw]
    clear hw
    go_enter Try.func15, Try.ntmps15
    go_wp2_with (first | (go_at_call 27; refine (wrong_calls HD.out i).mono ?_; rw [hw1.out]; rintro e w1 ⟨rfl, ⟨nd, rfl⟩⟩))
    go_ret2
    exact ⟨rfl, by repeat (first | exact Drawn0.refl _ | apply Drawn0.step)⟩
  · rw [if_neg hw]
    have hj1 := bne_iff_ne.mpr hw
    clear h
    go_enter Try.func15, Try.ntmps15
    go_wp2_with (first | (go_at_call 27; refine (wrong_calls HD.out i).mono ?_; rintro e w1 ⟨rfl, ⟨nd, rfl⟩⟩))
    go_ret2
    exact ⟨rfl, by repeat (first | exact Drawn0.refl _ | apply Drawn0.step)⟩

set_option maxHeartbeats 8000000 in
set_option maxRecDepth 100000 in
theorem Arm_calls (h : IsDev W b F g D) (n : Int) (hn : n < 9223372036854775808) : Calls Try.prog 17 #[.pointer (some ⟨g, 0, none⟩), .int .i64 n] W fun e W' => e = .returned (.tuple #[]) ∧ Moved W W' b F g (D.arm n) := by
  obtain ⟨g1, c1, g2, c2, v3, h⟩ := h
  have h3 := h.cell3
  have f3 := h.frz 3
  have HI := Aside0.mk h
  clear h
  by_cases hx : n < -1
  · have ha : D.arm n = { D with left := -1 } := by unfold Dev.arm; rw [if_pos hx]
    rw [ha]
    clear ha
    have hx1 := eq_true hx
    go_enter Try.func17, Try.ntmps17
    go_wp2
    first | go_end0 | ((try simp only [Exit.inBlock, Exit.then]); refine bodyPost_ret (results_none rfl _ _ _) rfl ?_)
    exact ⟨rfl, Moved.same (HI.out.left (-1) (by omega) (by omega)).is (by repeat (first | exact Mv.refl _ _ | apply Mv.drewN | apply Mv.drew | (apply Mv.setCell _ (.inl HI.out.mem))))⟩
  · have ha : D.arm n = { D with left := n } := by unfold Dev.arm; rw [if_neg hx]
    rw [ha]
    clear ha
    have hx1 := eq_false hx
    go_enter Try.func17, Try.ntmps17
    go_wp2
    first | go_end0 | ((try simp only [Exit.inBlock, Exit.then]); refine bodyPost_ret (results_none rfl _ _ _) rfl ?_)
    exact ⟨rfl, Moved.same (HI.out.left n (by omega) (by omega)).is (by repeat (first | exact Mv.refl _ _ | apply Mv.drewN | apply Mv.drew | (apply Mv.setCell _ (.inl HI.out.mem))))⟩

set_option maxHeartbeats 8000000 in
set_option maxRecDepth 100000 in
theorem Down_calls (h : IsDev W b F g D) : Calls Try.prog 18 #[.pointer (some ⟨g, 0, none⟩)] W fun e W' => e = .returned (.bool D.down) ∧ Drawn0 W W' := by
  obtain ⟨g1, c1, g2, c2, v3, h⟩ := h
  have h4 := h.cell4
  clear h
  go_enter Try.func18, Try.ntmps18
  go_wp2
  go_ret
  exact ⟨rfl, by repeat (first | exact Drawn0.refl _ | apply Drawn0.step)⟩

set_option maxHeartbeats 8000000 in
set_option maxRecDepth 100000 in
theorem Pending_calls (h : IsDev W b F g D) : Calls Try.prog 19 #[.pointer (some ⟨g, 0, none⟩)] W fun e W' => e = .returned (.int .i64 D.pend.length) ∧ Drawn0 W W' := by
  obtain ⟨g1, c1, g2, c2, v3, h⟩ := h
  have h2 := h.cell2
  obtain ⟨A, c, hv⟩ := Kd.R_slice h.pend
  rw [hv] at h2
  clear h hv
  go_enter Try.func19, Try.ntmps19
  go_wp2
  go_ret
  exact ⟨rfl, by repeat (first | exact Drawn0.refl _ | apply Drawn0.step)⟩

end
end Go.Proofs.Ytakpedenoocmpaa.Dv
