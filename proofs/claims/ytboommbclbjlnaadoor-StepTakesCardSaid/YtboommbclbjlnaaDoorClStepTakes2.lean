-- Packed by pack.py, a program of this session, out of texts of this claim.
import Derived.Test.YtboommbclbjlnaaDoorClStepTakes1
import Derived.Test.YtboommbclbjlnaaDoorLfRange
import Derived.RangeFuncBound
import Derived.RangeFuncLeaves
import Derived.Shelf.Abstract
import Derived.OwnWalkIn
import Derived.TacticsInMore
import Derived.Sort.LoopGhostIn
import Derived.Deep.RegionHeld3
import Derived.Lib.Hide
section
-- Written by printx.py, a program of this session over the kit's print: each Go function as a plain Lean function, and that the Go code computes it.

namespace Go.Proofs.YtboommbclbjlnaaDoor.Fn
open Go.RowKit Go.Proofs.YtboommbclbjlnaaDoorW.PrintWords Go.Proofs.YtboommbclbjlnaaDoorW.PrintLast Go.Proofs.YtboommbclbjlnaaDoorW.PrintMore Go.Proofs.YtboommbclbjlnaaDoor.Lf
attribute [local go_sem] max2_int min2_int max_two min_two max_three min_three max_four min_four   -- for this text's walks alone
set_option linter.unusedVariables false
set_option linter.unusedSimpArgs false

/-! ### seal_Take: function 56 -/
def seal_Take.f (a0 : ByteArray) : Option (ByteArray × Int) := if (wrap64 ((a0.size : Int) - 4)) < 0 then (some ((⟨#[]⟩ : ByteArray), 10)) else (if 0 ≤ (wrap64 ((a0.size : Int) - 4)) then (if (wrap64 ((a0.size : Int) - 4)) ≤ (a0.size : Int) then ((le_Get.f (a0.extract ((wrap64 ((a0.size : Int) - 4)) : Int).toNat a0.size)).bind fun t129 => ((seal_Sum.f (a0.extract 0 ((wrap64 ((a0.size : Int) - 4)) : Int).toNat)).bind fun t130 => (if t129 = (IntKind.u64.wrap (t130)) then (some (a0.extract 0 ((wrap64 ((a0.size : Int) - 4)) : Int).toNat, 0)) else (some ((⟨#[]⟩ : ByteArray), 9))))) else (none)) else (none))
def seal_Take.T4 : Bool × List (List Nat × List Nat) := (true, [([], []), ([], []), ([0, 1], [0, 1]), ([2], [2]), ([], []), ([], []), ([4, 5], [4, 5]), ([6, 3], [6]), ([7], [7]), ([3, 8], [3, 8]), ([9, 7], [9])])
def seal_Take.B4 : List Nat := [0, 0, 3, 7, 0, 0, 48, 127, 255, 511, 1023]
theorem seal_Take.tab4 : rtab .any (opsOf Tryd.f56 4) = seal_Take.T4 := by kernel_rfl
theorem seal_Take.bits4 : waitsOk seal_Take.T4.2 seal_Take.B4 = true := by kernel_rfl
set_option maxHeartbeats 8000000 in
set_option maxRecDepth 100000 in
theorem seal_Take.calls (a0 : ByteArray) (r1 : ByteArray) (r2 : Int) (w : World) (h : seal_Take.f a0 = some (r1, r2)) :
  Calls Tryd.prog 56 #[.string a0] w fun e w' => e = .returned (.tuple #[.string r1, .int .i64 r2]) ∧ Below w.heap.size w w' := by
 have HB := Aside0.mk (Below.refl w.heap.size w)
 have H : (if (wrap64 ((a0.size : Int) - 4)) < 0 then (some ((⟨#[]⟩ : ByteArray), 10)) else (if 0 ≤ (wrap64 ((a0.size : Int) - 4)) then (if (wrap64 ((a0.size : Int) - 4)) ≤ (a0.size : Int) then ((le_Get.f (a0.extract ((wrap64 ((a0.size : Int) - 4)) : Int).toNat a0.size)).bind fun t129 => ((seal_Sum.f (a0.extract 0 ((wrap64 ((a0.size : Int) - 4)) : Int).toNat)).bind fun t130 => (if t129 = (IntKind.u64.wrap (t130)) then (some (a0.extract 0 ((wrap64 ((a0.size : Int) - 4)) : Int).toNat, 0)) else (some ((⟨#[]⟩ : ByteArray), 9))))) else (none)) else (none))) = some (r1, r2) := h
 clear h
 by_cases c2 : (wrap64 ((a0.size : Int) - 4)) < 0
 ·rw [if_pos c2] at H
  have c2b0 : decide ((wrap64 ((a0.size : Int) - 4)) < 0) = true := decide_eq_true c2
  clear c2
  simp only [Option.some.injEq, Prod.mk.injEq] at H
  obtain ⟨rfl, rfl⟩ := H
  go_enter Tryd.func56, Tryd.ntmps56
  go_wp2
  go_ret2
  exact ⟨by first | rfl | (simp [errW_none, errW_some] <;> rfl) | (simp [*, errW_none, errW_some] <;> rfl), by repeat (first | (with_reducible first | exact HB.out | apply below_alloc | apply pw_below_drewN | apply below_drew1) | exact HB.out)⟩
 ·rw [if_neg c2] at H
  have c2b0 : decide ((wrap64 ((a0.size : Int) - 4)) < 0) = false := decide_eq_false c2
  clear c2
  obtain ⟨ji3, hji3⟩ : ∃ j_ : Int, (wrap64 ((a0.size : Int) - 4)) = j_ := ⟨_, rfl⟩
  replace H : (if 0 ≤ (ji3) then (if (ji3) ≤ (a0.size : Int) then ((le_Get.f (a0.extract ((ji3) : Int).toNat a0.size)).bind fun t129 => ((seal_Sum.f (a0.extract 0 ((ji3) : Int).toNat)).bind fun t130 => (if t129 = (IntKind.u64.wrap (t130)) then (some (a0.extract 0 ((ji3) : Int).toNat, 0)) else (some ((⟨#[]⟩ : ByteArray), 9))))) else (none)) else (none)) = some (r1, r2) := by first | (rw [hji3] at H; exact H) | (simp only [hji3] at H ⊢; exact H)
  (try rw [hji3] at c2b0)
  have hji3w : (IntKind.i64.wrap ((a0.size : Int) - 4)) = ji3 := (i64_w _).trans hji3
  by_cases c4 : 0 ≤ (ji3)
  ·rw [if_pos c4] at H
   have c4b0 := eq_true c4
   have c4b1 : decide (0 ≤ (ji3)) = true := decide_eq_true c4
   clear c4
   by_cases c5 : (ji3) ≤ (a0.size : Int)
   ·rw [if_pos c5] at H
    have c5b0 := eq_true c5
    have c5b1 : decide ((ji3) ≤ (a0.size : Int)) = true := decide_eq_true c5
    clear c5
    replace H := Option.bind_eq_some_iff.mp H
    obtain ⟨t129, A60, H⟩ := H
    replace H : ((seal_Sum.f (a0.extract 0 ((ji3) : Int).toNat)).bind fun t130 => (if t129 = (IntKind.u64.wrap (t130)) then (some (a0.extract 0 ((ji3) : Int).toNat, 0)) else (some ((⟨#[]⟩ : ByteArray), 9)))) = some (r1, r2) := H
    have A6 := Aside0.mk A60
    clear A60
    have c7b0 := eq_true (of_decide_eq_true (by first | (with_reducible assumption) | assumption) : 0 ≤ (ji3))
    have c8b0 := eq_true (of_decide_eq_true (by first | (with_reducible assumption) | assumption) : (ji3) ≤ (a0.size : Int))
    replace H := Option.bind_eq_some_iff.mp H
    obtain ⟨t130, A90, H⟩ := H
    replace H : (if t129 = (IntKind.u64.wrap (t130)) then (some (a0.extract 0 ((ji3) : Int).toNat, 0)) else (some ((⟨#[]⟩ : ByteArray), 9))) = some (r1, r2) := H
    have A9 := Aside0.mk A90
    clear A90
    by_cases c10 : t129 = (IntKind.u64.wrap (t130))
    ·rw [if_pos c10] at H
     have c10b0 : (t129 == (IntKind.u64.wrap (t130))) = true := beq_iff_eq.mpr c10
     have c10b1 : (t129 != (IntKind.u64.wrap (t130))) = false := bne_eq_false_iff_eq.mpr c10
     clear c10
     have c11b0 := eq_true (of_decide_eq_true (by first | (with_reducible assumption) | assumption) : 0 ≤ (ji3))
     have c12b0 := eq_true (of_decide_eq_true (by first | (with_reducible assumption) | assumption) : (ji3) ≤ (a0.size : Int))
     simp only [Option.some.injEq, Prod.mk.injEq] at H
     obtain ⟨rfl, rfl⟩ := H
     go_enter Tryd.func56, Tryd.ntmps56
     try go_wp2
     have n0_ := Aside0.mk (below_drew1 HB.out)
     clear HB
     have HB := n0_
     clear n0_
     refine start_ (n := 11) (S := fun w' => True) (ds := []) #[false, false, false, false, false, false, false, false, false, false, false] (by kernel_rfl) rfl rfl trivial (fun hHeld => ?_); refine with_tabW seal_Take.tab4 seal_Take.bits4 (fun HT_ HW_ => ?_)
     generalize w.drew = w13 at HB hHeld ⊢
     refine pure_ (i := 0) (N := some 12) (v := ?_) (a' := ?_) #[true, false, false, false, false, false, false, false, false, false, false] rfl rfl (any_of HT_.out (by kernel_rfl)) (fun _ _ _ h => h) (Or.inl ⟨by rfl, ?_⟩) ?_ ?_
     rotate_left
     ·intro w'
      go_simp
      with_reducible rfl
     rotate_left
     ·simp only [Act.put, List.setIfInBounds_toArray, List.set_cons_zero, List.set_cons_succ, i64_w, i32_w]
      rfl
     refine pure_ (i := 1) (N := some 13) (v := ?_) (a' := ?_) #[true, true, false, false, false, false, false, false, false, false, false] rfl rfl (any_of HT_.out (by kernel_rfl)) (fun _ _ _ h => h) (Or.inl ⟨by rfl, ?_⟩) ?_ ?_
     rotate_left
     ·intro w'
      go_simp
      with_reducible rfl
     rotate_left
     ·simp only [Act.put, List.setIfInBounds_toArray, List.set_cons_zero, List.set_cons_succ, i64_w, i32_w]
      rfl
     refine pure_ (i := 2) (N := some 14) (v := ?_) (a' := ?_) #[true, true, true, false, false, false, false, false, false, false, false] rfl rfl (any_of HT_.out (by kernel_rfl)) (fun _ _ _ h => h) (Or.inl ⟨by rfl, ?_⟩) ?_ ?_
     rotate_left
     ·intro w'
      go_simp
      with_reducible rfl
     rotate_left
     ·simp only [Act.put, List.setIfInBounds_toArray, List.set_cons_zero, List.set_cons_succ, i64_w, i32_w]
      rfl
     refine pure_ (i := 4) (N := some 16) (v := ?_) (a' := ?_) #[true, true, true, false, true, false, false, false, false, false, false] rfl rfl (any_of HT_.out (by kernel_rfl)) (fun _ _ _ h => h) (Or.inl ⟨by rfl, ?_⟩) ?_ ?_
     rotate_left
     ·intro w'
      go_simp
      with_reducible rfl
     rotate_left
     ·simp only [Act.put, List.setIfInBounds_toArray, List.set_cons_zero, List.set_cons_succ, i64_w, i32_w]
      rfl
     refine pure_ (i := 5) (N := some 17) (v := ?_) (a' := ?_) #[true, true, true, false, true, true, false, false, false, false, false] rfl rfl (any_of HT_.out (by kernel_rfl)) (fun _ _ _ h => h) (Or.inl ⟨by rfl, ?_⟩) ?_ ?_
     rotate_left
     ·intro w'
      go_simp
      with_reducible rfl
     rotate_left
     ·simp only [Act.put, List.setIfInBounds_toArray, List.set_cons_zero, List.set_cons_succ, i64_w, i32_w]
      rfl
     refine pure_ (i := 6) (N := some 18) (v := ?_) (a' := ?_) #[true, true, true, false, true, true, true, false, false, false, false] rfl rfl (any_of HT_.out (by kernel_rfl)) (fun _ _ _ h => h) (Or.inl ⟨by rfl, ?_⟩) ?_ ?_
     rotate_left
     ·intro w'
      go_simp
      with_reducible rfl
     rotate_left
     ·simp only [Act.put, List.setIfInBounds_toArray, List.set_cons_zero, List.set_cons_succ, i64_w, i32_w]
      rfl
     refine one_ (i := 3) (N := some 15) #[true, true, true, true, true, true, true, false, false, false, false] rfl rfl (one_of HT_.out (by kernel_rfl)) (by decide) (fun K hK => ?_)
     refine goes_ Tryd.func72 (by kernel_rfl) rfl #[.string (a0.extract ((ji3) : Int).toNat a0.size)] (by rfl) rfl rfl (by (try simp only [List.map_toArray, List.map_cons, List.map_nil]); first | done | (simp only [hji3]; rfl) | rfl | (simp only [List.length_drop, List.length_take]; rfl) | (rw [wrap_sum2 (by assumption)]; rfl)) ?_
     with_reducible refine (le_Get.calls (a0.extract ((ji3) : Int).toNat a0.size) t129 _ A6.out).mono ?_
     rintro e w14 ⟨rfl, hb⟩
     refine ⟨_, rfl, ?_⟩
     have n0_ := Aside0.mk (below_step (by repeat (first | (with_reducible first | exact HB.out | apply below_alloc | apply pw_below_drewN | apply below_drew1) | exact HB.out)) hb)
     clear HB
     have HB := n0_
     clear n0_
     (try clear hb)
     (try clear hb2)
     (try clear hk)
     (try clear hi)
     refine hK.out _ _ trivial (fun hHeld => ?_)
     clear hK K
     refine norm_ (a' := ?_) ?_ ?_
     rotate_left
     ·show Act.put _ (some 15) _ = _
      simp only [Act.put, List.setIfInBounds_toArray, List.set_cons_zero, List.set_cons_succ, i64_w, i32_w]
      rfl
     refine one_ (i := 7) (N := some 19) #[true, true, true, true, true, true, true, true, false, false, false] rfl rfl (one_of HT_.out (by kernel_rfl)) (by decide) (fun K hK => ?_)
     refine goes_ Tryd.func66 (by kernel_rfl) rfl #[.string (a0.extract 0 ((ji3) : Int).toNat)] (by rfl) rfl rfl (by (try simp only [List.map_toArray, List.map_cons, List.map_nil]); first | done | (simp only [hji3]; rfl) | rfl | (simp only [List.length_drop, List.length_take]; rfl) | (rw [wrap_sum2 (by assumption)]; rfl)) ?_
     with_reducible refine (seal_Sum.calls (a0.extract 0 ((ji3) : Int).toNat) t130 _ A9.out).mono ?_
     rintro e w15 ⟨rfl, hb⟩
     refine ⟨_, rfl, ?_⟩
     have n0_ := Aside0.mk (below_step (by repeat (first | (with_reducible first | exact HB.out | apply below_alloc | apply pw_below_drewN | apply below_drew1) | exact HB.out)) hb)
     clear HB
     have HB := n0_
     clear n0_
     (try clear hb)
     (try clear hb2)
     (try clear hk)
     (try clear hi)
     refine hK.out _ _ trivial (fun hHeld => ?_)
     clear hK K
     refine norm_ (a' := ?_) ?_ ?_
     rotate_left
     ·show Act.put _ (some 19) _ = _
      simp only [Act.put, List.setIfInBounds_toArray, List.set_cons_zero, List.set_cons_succ, i64_w, i32_w]
      rfl
     refine pure_ (i := 8) (N := some 20) (v := ?_) (a' := ?_) #[true, true, true, true, true, true, true, true, true, false, false] rfl rfl (any_of HT_.out (by kernel_rfl)) (fun _ _ _ h => h) (Or.inl ⟨by rfl, ?_⟩) ?_ ?_
     rotate_left
     ·intro w'
      go_simp
      with_reducible rfl
     rotate_left
     ·simp only [Act.put, List.setIfInBounds_toArray, List.set_cons_zero, List.set_cons_succ, i64_w, i32_w]
      rfl
     refine pure_ (i := 9) (N := some 21) (v := ?_) (a' := ?_) #[true, true, true, true, true, true, true, true, true, true, false] rfl rfl (any_of HT_.out (by kernel_rfl)) (fun _ _ _ h => h) (Or.inl ⟨by rfl, ?_⟩) ?_ ?_
     rotate_left
     ·intro w'
      go_simp
      with_reducible rfl
     rotate_left
     ·simp only [Act.put, List.setIfInBounds_toArray, List.set_cons_zero, List.set_cons_succ, i64_w, i32_w]
      rfl
     refine pure_ (i := 10) (N := some 11) (v := ?_) (a' := ?_) #[true, true, true, true, true, true, true, true, true, true, true] rfl rfl (any_of HT_.out (by kernel_rfl)) (fun _ _ _ h => h) (Or.inl ⟨by rfl, ?_⟩) ?_ ?_
     rotate_left
     ·intro w'
      go_simp
      with_reducible rfl
     rotate_left
     ·simp only [Act.put, List.setIfInBounds_toArray, List.set_cons_zero, List.set_cons_succ, i64_w, i32_w]
      rfl
     refine done_ (done_of HT_.out (by kernel_rfl)) ?_
     try go_wp2
     go_ret2
     exact ⟨by first | rfl | (simp [errW_none, errW_some] <;> rfl) | (simp only [← hji3]; first | rfl | (simp [errW_none, errW_some] <;> rfl)) | (simp [*, errW_none, errW_some] <;> rfl), by repeat (first | (with_reducible first | exact HB.out | apply below_alloc | apply pw_below_drewN | apply below_drew1) | exact HB.out)⟩
    ·rw [if_neg c10] at H
     have c10b0 : (t129 == (IntKind.u64.wrap (t130))) = false := beq_eq_false_iff_ne.mpr c10
     have c10b1 : (t129 != (IntKind.u64.wrap (t130))) = true := bne_iff_ne.mpr c10
     simp only [Option.some.injEq, Prod.mk.injEq] at H
     obtain ⟨rfl, rfl⟩ := H
     go_enter Tryd.func56, Tryd.ntmps56
     try go_wp2
     have n0_ := Aside0.mk (below_drew1 HB.out)
     clear HB
     have HB := n0_
     clear n0_
     refine start_ (n := 11) (S := fun w' => True) (ds := []) #[false, false, false, false, false, false, false, false, false, false, false] (by kernel_rfl) rfl rfl trivial (fun hHeld => ?_); refine with_tabW seal_Take.tab4 seal_Take.bits4 (fun HT_ HW_ => ?_)
     generalize w.drew = w16 at HB hHeld ⊢
     refine pure_ (i := 0) (N := some 12) (v := ?_) (a' := ?_) #[true, false, false, false, false, false, false, false, false, false, false] rfl rfl (any_of HT_.out (by kernel_rfl)) (fun _ _ _ h => h) (Or.inl ⟨by rfl, ?_⟩) ?_ ?_
     rotate_left
     ·intro w'
      go_simp
      with_reducible rfl
     rotate_left
     ·simp only [Act.put, List.setIfInBounds_toArray, List.set_cons_zero, List.set_cons_succ, i64_w, i32_w]
      rfl
     refine pure_ (i := 1) (N := some 13) (v := ?_) (a' := ?_) #[true, true, false, false, false, false, false, false, false, false, false] rfl rfl (any_of HT_.out (by kernel_rfl)) (fun _ _ _ h => h) (Or.inl ⟨by rfl, ?_⟩) ?_ ?_
     rotate_left
     ·intro w'
      go_simp
      with_reducible rfl
     rotate_left
     ·simp only [Act.put, List.setIfInBounds_toArray, List.set_cons_zero, List.set_cons_succ, i64_w, i32_w]
      rfl
     refine pure_ (i := 2) (N := some 14) (v := ?_) (a' := ?_) #[true, true, true, false, false, false, false, false, false, false, false] rfl rfl (any_of HT_.out (by kernel_rfl)) (fun _ _ _ h => h) (Or.inl ⟨by rfl, ?_⟩) ?_ ?_
     rotate_left
     ·intro w'
      go_simp
      with_reducible rfl
     rotate_left
     ·simp only [Act.put, List.setIfInBounds_toArray, List.set_cons_zero, List.set_cons_succ, i64_w, i32_w]
      rfl
     refine pure_ (i := 4) (N := some 16) (v := ?_) (a' := ?_) #[true, true, true, false, true, false, false, false, false, false, false] rfl rfl (any_of HT_.out (by kernel_rfl)) (fun _ _ _ h => h) (Or.inl ⟨by rfl, ?_⟩) ?_ ?_
     rotate_left
     ·intro w'
      go_simp
      with_reducible rfl
     rotate_left
     ·simp only [Act.put, List.setIfInBounds_toArray, List.set_cons_zero, List.set_cons_succ, i64_w, i32_w]
      rfl
     refine pure_ (i := 5) (N := some 17) (v := ?_) (a' := ?_) #[true, true, true, false, true, true, false, false, false, false, false] rfl rfl (any_of HT_.out (by kernel_rfl)) (fun _ _ _ h => h) (Or.inl ⟨by rfl, ?_⟩) ?_ ?_
     rotate_left
     ·intro w'
      go_simp
      with_reducible rfl
     rotate_left
     ·simp only [Act.put, List.setIfInBounds_toArray, List.set_cons_zero, List.set_cons_succ, i64_w, i32_w]
      rfl
     refine pure_ (i := 6) (N := some 18) (v := ?_) (a' := ?_) #[true, true, true, false, true, true, true, false, false, false, false] rfl rfl (any_of HT_.out (by kernel_rfl)) (fun _ _ _ h => h) (Or.inl ⟨by rfl, ?_⟩) ?_ ?_
     rotate_left
     ·intro w'
      go_simp
      with_reducible rfl
     rotate_left
     ·simp only [Act.put, List.setIfInBounds_toArray, List.set_cons_zero, List.set_cons_succ, i64_w, i32_w]
      rfl
     refine one_ (i := 3) (N := some 15) #[true, true, true, true, true, true, true, false, false, false, false] rfl rfl (one_of HT_.out (by kernel_rfl)) (by decide) (fun K hK => ?_)
     refine goes_ Tryd.func72 (by kernel_rfl) rfl #[.string (a0.extract ((ji3) : Int).toNat a0.size)] (by rfl) rfl rfl (by (try simp only [List.map_toArray, List.map_cons, List.map_nil]); first | done | (simp only [hji3]; rfl) | rfl | (simp only [List.length_drop, List.length_take]; rfl) | (rw [wrap_sum2 (by assumption)]; rfl)) ?_
     with_reducible refine (le_Get.calls (a0.extract ((ji3) : Int).toNat a0.size) t129 _ A6.out).mono ?_
     rintro e w17 ⟨rfl, hb⟩
     refine ⟨_, rfl, ?_⟩
     have n0_ := Aside0.mk (below_step (by repeat (first | (with_reducible first | exact HB.out | apply below_alloc | apply pw_below_drewN | apply below_drew1) | exact HB.out)) hb)
     clear HB
     have HB := n0_
     clear n0_
     (try clear hb)
     (try clear hb2)
     (try clear hk)
     (try clear hi)
     refine hK.out _ _ trivial (fun hHeld => ?_)
     clear hK K
     refine norm_ (a' := ?_) ?_ ?_
     rotate_left
     ·show Act.put _ (some 15) _ = _
      simp only [Act.put, List.setIfInBounds_toArray, List.set_cons_zero, List.set_cons_succ, i64_w, i32_w]
      rfl
     refine one_ (i := 7) (N := some 19) #[true, true, true, true, true, true, true, true, false, false, false] rfl rfl (one_of HT_.out (by kernel_rfl)) (by decide) (fun K hK => ?_)
     refine goes_ Tryd.func66 (by kernel_rfl) rfl #[.string (a0.extract 0 ((ji3) : Int).toNat)] (by rfl) rfl rfl (by (try simp only [List.map_toArray, List.map_cons, List.map_nil]); first | done | (simp only [hji3]; rfl) | rfl | (simp only [List.length_drop, List.length_take]; rfl) | (rw [wrap_sum2 (by assumption)]; rfl)) ?_
     with_reducible refine (seal_Sum.calls (a0.extract 0 ((ji3) : Int).toNat) t130 _ A9.out).mono ?_
     rintro e w18 ⟨rfl, hb⟩
     refine ⟨_, rfl, ?_⟩
     have n0_ := Aside0.mk (below_step (by repeat (first | (with_reducible first | exact HB.out | apply below_alloc | apply pw_below_drewN | apply below_drew1) | exact HB.out)) hb)
     clear HB
     have HB := n0_
     clear n0_
     (try clear hb)
     (try clear hb2)
     (try clear hk)
     (try clear hi)
     refine hK.out _ _ trivial (fun hHeld => ?_)
     clear hK K
     refine norm_ (a' := ?_) ?_ ?_
     rotate_left
     ·show Act.put _ (some 19) _ = _
      simp only [Act.put, List.setIfInBounds_toArray, List.set_cons_zero, List.set_cons_succ, i64_w, i32_w]
      rfl
     refine pure_ (i := 8) (N := some 20) (v := ?_) (a' := ?_) #[true, true, true, true, true, true, true, true, true, false, false] rfl rfl (any_of HT_.out (by kernel_rfl)) (fun _ _ _ h => h) (Or.inl ⟨by rfl, ?_⟩) ?_ ?_
     rotate_left
     ·intro w'
      go_simp
      with_reducible rfl
     rotate_left
     ·simp only [Act.put, List.setIfInBounds_toArray, List.set_cons_zero, List.set_cons_succ, i64_w, i32_w]
      rfl
     refine pure_ (i := 9) (N := some 21) (v := ?_) (a' := ?_) #[true, true, true, true, true, true, true, true, true, true, false] rfl rfl (any_of HT_.out (by kernel_rfl)) (fun _ _ _ h => h) (Or.inl ⟨by rfl, ?_⟩) ?_ ?_
     rotate_left
     ·intro w'
      go_simp
      with_reducible rfl
     rotate_left
     ·simp only [Act.put, List.setIfInBounds_toArray, List.set_cons_zero, List.set_cons_succ, i64_w, i32_w]
      rfl
     refine pure_ (i := 10) (N := some 11) (v := ?_) (a' := ?_) #[true, true, true, true, true, true, true, true, true, true, true] rfl rfl (any_of HT_.out (by kernel_rfl)) (fun _ _ _ h => h) (Or.inl ⟨by rfl, ?_⟩) ?_ ?_
     rotate_left
     ·intro w'
      go_simp
      with_reducible rfl
     rotate_left
     ·simp only [Act.put, List.setIfInBounds_toArray, List.set_cons_zero, List.set_cons_succ, i64_w, i32_w]
      rfl
     refine done_ (done_of HT_.out (by kernel_rfl)) ?_
     try go_wp2
     go_ret2
     exact ⟨by first | rfl | (simp [errW_none, errW_some] <;> rfl) | (simp only [← hji3]; first | rfl | (simp [errW_none, errW_some] <;> rfl)) | (simp [*, errW_none, errW_some] <;> rfl), by repeat (first | (with_reducible first | exact HB.out | apply below_alloc | apply pw_below_drewN | apply below_drew1) | exact HB.out)⟩
   ·rw [if_neg c5] at H
    exact absurd H (by simp)
  ·rw [if_neg c4] at H
   exact absurd H (by simp)

end Go.Proofs.YtboommbclbjlnaaDoor.Fn
end
section
-- Written by printx.py, a program of this session over the kit's print: each Go function as a plain Lean function, and that the Go code computes it.

namespace Go.Proofs.YtboommbclbjlnaaDoor.Fn
open Go.RowKit Go.Proofs.YtboommbclbjlnaaDoorW.PrintWords Go.Proofs.YtboommbclbjlnaaDoorW.PrintLast Go.Proofs.YtboommbclbjlnaaDoorW.PrintMore Go.Proofs.YtboommbclbjlnaaDoor.Lf
attribute [local go_sem] max2_int min2_int max_two min_two max_three min_three max_four min_four   -- for this text's walks alone
set_option linter.unusedVariables false
set_option linter.unusedSimpArgs false

/-- A state of type 96 at block g of W; what its slices lead to came in by w0. -/
def IsS96 (w0 W : World) (g : Nat) (f0 : ByteArray) (f1 : Bool) : Prop := W.heap[g]? = some (.cells #[.string f0, .bool f1] 96 (0, 0)) ∧ w0.heap.size ≤ g
theorem IsS96.grown {w0 W : World} {g : Nat} {f0 : ByteArray} {f1 : Bool} {W1 : World} {row : Option Nat} (h : IsS96 w0 W g f0 f1) (hw : W.grownBy W1 row) (hne : some g ≠ row) : IsS96 w0 W1 g f0 f1 := by
 obtain ⟨hb, hg⟩ := h
 exact ⟨blk_grown hb hw hne, hg⟩
theorem IsS96.own_neN {w0 W : World} {g : Nat} {f0 : ByteArray} {f1 : Bool} {α : Type} {d : Kd α} {e : Nat} {base : Nat} {ok : Nat → Prop} {v : Value} {xs : List α} (h : IsS96 w0 W g f0 f1) (ho : Kd.N d e W base ok v xs) (ht : e ≠ 96) : some g ≠ v.ownBlock := by
 obtain ⟨hb, hg⟩ := h
 exact Kd.N_ne ho hb ht
theorem IsS96.fresh {w0 W : World} {g : Nat} {f0 : ByteArray} {f1 : Bool} (h : IsS96 w0 W g f0 f1) : ∀ k, W.heap.size ≤ k → k ≠ g := by
 obtain ⟨hb, hg⟩ := h
 exact Kd.freshB hb
theorem IsS96.kept {w0 W : World} {g : Nat} {f0 : ByteArray} {f1 : Bool} {W1 : World} {S : Nat → Prop} (h : IsS96 w0 W g f0 f1) (hk : Kept W W1 S) (hne : ¬ S g) : IsS96 w0 W1 g f0 f1 := by
 obtain ⟨hb, hg⟩ := h
 exact ⟨blk_kept hb hk hne, hg⟩
theorem IsS96.below {w0 W : World} {g : Nat} {f0 : ByteArray} {f1 : Bool} {W1 : World} (h : IsS96 w0 W g f0 f1) (hw : Below W.heap.size W W1) : IsS96 w0 W1 g f0 f1 := h.grown (grown_of_below hw none) (by simp)
theorem IsS96.alloc {w0 W : World} {g : Nat} {f0 : ByteArray} {f1 : Bool} (h : IsS96 w0 W g f0 f1) (o : Obj) : IsS96 w0 (W.alloc o) g f0 f1 := h.below (below_alloc (Below.refl _ _) o)
theorem IsS96.drewN {w0 W : World} {g : Nat} {f0 : ByteArray} {f1 : Bool} (h : IsS96 w0 W g f0 f1) (m : Nat) : IsS96 w0 (W.drewN m) g f0 f1 := h
theorem IsS96.drew {w0 W : World} {g : Nat} {f0 : ByteArray} {f1 : Bool} (h : IsS96 w0 W g f0 f1) : IsS96 w0 W.drew g f0 f1 := h
theorem IsS96.at_ {w0 W : World} {g : Nat} {f0 : ByteArray} {f1 : Bool} {w' : World} {m : Nat} (hq : W.drewN m = w') (h : IsS96 w0 W g f0 f1) : IsS96 w0 w' g f0 f1 := by subst hq; exact IsS96.drewN h m
theorem IsS96.apart {w0 W : World} {g : Nat} {f0 : ByteArray} {f1 : Bool} {α : Type} {d : Kd α} {e : Nat} {base : Nat} {ok : Nat → Prop} {v : Value} {xs : List α} (h : IsS96 w0 W g f0 f1) (ho : d.R e W base ok v xs) (ht : ∀ q, q ∈ e :: d.E → q ≠ 96) : d.R e W base (fun k => ok k ∧ k ≠ g) v xs := by
 obtain ⟨hb, hg⟩ := h
 exact Kd.R_types ho hb ht
theorem IsS96.own_ne {w0 W : World} {g : Nat} {f0 : ByteArray} {f1 : Bool} {α : Type} {d : Kd α} {e : Nat} {base : Nat} {ok : Nat → Prop} {v : Value} {xs : List α} (h : IsS96 w0 W g f0 f1) (ho : d.R e W base ok v xs) (ht : e ≠ 96) : some g ≠ v.ownBlock := by
 obtain ⟨hb, hg⟩ := h
 exact Kd.R_ne ho hb ht
theorem IsS96.apartQ {w0 W : World} {g : Nat} {f0 : ByteArray} {f1 : Bool} {α : Type} {d : Kd α} {e : Nat} {base : Nat} {ok : Nat → Prop} {v : Value} {xs : List α} (h : IsS96 w0 W g f0 f1) (ho : d.Q e W base ok v xs) (ht : ∀ q, q ∈ e :: d.E → q ≠ 96) : d.Q e W base (fun k => ok k ∧ k ≠ g) v xs := by
 obtain ⟨hb, hg⟩ := h
 exact Kd.Q_types ho hb ht
theorem IsS96.own_neQ {w0 W : World} {g : Nat} {f0 : ByteArray} {f1 : Bool} {α : Type} {d : Kd α} {e : Nat} {base : Nat} {ok : Nat → Prop} {v : Value} {xs : List α} (h : IsS96 w0 W g f0 f1) (ho : d.Q e W base ok v xs) (ht : e ≠ 96) : some g ≠ v.ownBlock := by
 obtain ⟨hb, hg⟩ := h
 exact Kd.Q_ne ho hb ht
theorem IsS96.apartS {w0 W : World} {g : Nat} {f0 : ByteArray} {f1 : Bool} {α : Type} {d : Kd α} {e : Nat} {base : Nat} {ok : Nat → Prop} {v : Value} {xs : List α} (h : IsS96 w0 W g f0 f1) (ho : d.S e W base ok v xs) (ht : ∀ q, q ∈ e :: d.E → q ≠ 96) : d.S e W base (fun k => ok k ∧ k ≠ g) v xs := by
 obtain ⟨hb, hg⟩ := h
 exact Kd.S_types ho hb ht
theorem IsS96.own_neS {w0 W : World} {g : Nat} {f0 : ByteArray} {f1 : Bool} {α : Type} {d : Kd α} {e : Nat} {base : Nat} {ok : Nat → Prop} {v : Value} {xs : List α} (h : IsS96 w0 W g f0 f1) (ho : d.S e W base ok v xs) (ht : e ≠ 96) : some g ≠ v.ownBlock := by
 obtain ⟨hb, hg⟩ := h
 exact Kd.S_ne ho hb ht
theorem IsS96.lt {w0 W : World} {g : Nat} {f0 : ByteArray} {f1 : Bool} (h : IsS96 w0 W g f0 f1) : g < W.heap.size := by
 obtain ⟨hb, hg⟩ := h
 exact blk_lt hb
theorem IsS96.ge {w0 W : World} {g : Nat} {f0 : ByteArray} {f1 : Bool} (h : IsS96 w0 W g f0 f1) : w0.heap.size ≤ g := by
 obtain ⟨hb, hg⟩ := h
 exact hg
theorem IsS96.ne_blk {w0 W : World} {g : Nat} {f0 : ByteArray} {f1 : Bool} {a : Nat} {cs : Array Value} {t : TypeId} {fr : Nat × Nat} (h : IsS96 w0 W g f0 f1) (hb2 : W.heap[a]? = some (.cells cs t fr)) (ht : t ≠ 96) : g ≠ a := by
 obtain ⟨hb, hg⟩ := h
 rintro rfl
 rw [hb] at hb2
 injection hb2 with hb2
 injection hb2 with _ ht2
 exact ht ht2.symm
theorem IsS96.far {w0 W : World} {g : Nat} {f0 : ByteArray} {f1 : Bool} {p : Addr} (h : IsS96 w0 W g f0 f1) (hne : g ≠ p.block) (u : Value) : IsS96 w0 (W.setCell p u) g f0 f1 := by
 obtain ⟨hb, hg⟩ := h
 exact ⟨blk_far hb hne u, hg⟩
theorem cellS96_0 {W : World} {g : Nat} {f0 : ByteArray} {f1 : Bool} (h : W.heap[g]? = some (.cells #[.string f0, .bool f1] 96 (0, 0))) : W.cell? ⟨g, 0, none⟩ = some (.string f0) := (blk_cell h 0).trans rfl
theorem IsS96.set_0 {w0 W : World} {g : Nat} {f0 : ByteArray} {f1 : Bool} (h : IsS96 w0 W g f0 f1) (x : ByteArray) : IsS96 w0 (W.setCell ⟨g, 0, none⟩ (.string x)) g x f1 := by
 obtain ⟨hb, hg⟩ := h
 exact ⟨by simpa using blk_set hb 0 (.string x), hg⟩
theorem cellS96_1 {W : World} {g : Nat} {f0 : ByteArray} {f1 : Bool} (h : W.heap[g]? = some (.cells #[.string f0, .bool f1] 96 (0, 0))) : W.cell? ⟨g, 1, none⟩ = some (.bool f1) := (blk_cell h 1).trans rfl
theorem IsS96.set_1 {w0 W : World} {g : Nat} {f0 : ByteArray} {f1 : Bool} (h : IsS96 w0 W g f0 f1) (x : Bool) : IsS96 w0 (W.setCell ⟨g, 1, none⟩ (.bool x)) g f0 x := by
 obtain ⟨hb, hg⟩ := h
 exact ⟨by simpa using blk_set hb 1 (.bool x), hg⟩
theorem IsS96.new (w0 W : World) (f0 : ByteArray) (f1 : Bool) (hB : Below w0.heap.size w0 W) : IsS96 w0 (W.alloc (.cells #[.string f0, .bool f1] 96)) W.heap.size f0 f1 := ⟨by simpa using heap_alloc_new W _, hB.size⟩

/-! ### le_Reader_Text: function 54 -/
def le_Reader_Text.f (s0_0 : ByteArray) (s0_1 : Bool) (a1 : Int) : Option (ByteArray × ByteArray × Bool) := if s0_1 = true then (some ((⟨#[]⟩ : ByteArray), s0_0, true)) else (if a1 < 0 then (some ((⟨#[]⟩ : ByteArray), s0_0, true)) else (if a1 > (s0_0.size : Int) then (some ((⟨#[]⟩ : ByteArray), s0_0, decide (a1 > (s0_0.size : Int)))) else (if 0 ≤ a1 then (if a1 ≤ (s0_0.size : Int) then (some (s0_0.extract 0 (a1 : Int).toNat, s0_0.extract (a1 : Int).toNat s0_0.size, decide (a1 > (s0_0.size : Int)))) else (none)) else (none))))
set_option maxHeartbeats 8000000 in
set_option maxRecDepth 100000 in
theorem le_Reader_Text.calls (g : Nat) (s0_0 : ByteArray) (s0_1 : Bool) (a1 : Int) (r1 : ByteArray) (r2 : ByteArray) (r3 : Bool) (w0 w : World) (hI : IsS96 w0 w g s0_0 s0_1) (hB : Below w0.heap.size w0 w) (h : le_Reader_Text.f s0_0 s0_1 a1 = some (r1, r2, r3)) :
  Calls Tryd.prog 54 #[.pointer (some ⟨g, 0, none⟩), .int .i64 a1] w fun e w' => e = .returned (.string r1) ∧ IsS96 w0 w' g r2 r3 ∧ Below w0.heap.size w0 w' ∧ KeepBut w w' g none := by
 have HI0 := Aside0.mk hI
 have HK := Aside0.mk (KeepBut.refl w g none)
 have HL := Aside0.mk hB.size
 clear hI
 have HW0 := Aside0.mk hB.size
 have HB := Aside0.mk hB
 clear hB
 have H : (if s0_1 = true then (some ((⟨#[]⟩ : ByteArray), s0_0, true)) else (if a1 < 0 then (some ((⟨#[]⟩ : ByteArray), s0_0, true)) else (if a1 > (s0_0.size : Int) then (some ((⟨#[]⟩ : ByteArray), s0_0, decide (a1 > (s0_0.size : Int)))) else (if 0 ≤ a1 then (if a1 ≤ (s0_0.size : Int) then (some (s0_0.extract 0 (a1 : Int).toNat, s0_0.extract (a1 : Int).toNat s0_0.size, decide (a1 > (s0_0.size : Int)))) else (none)) else (none))))) = some (r1, r2, r3) := h
 clear h
 by_cases c3 : s0_1 = true
 ·subst c3
  have H1 : (some ((⟨#[]⟩ : ByteArray), s0_0, true)) = some (r1, r2, r3) := by rw [if_pos rfl] at H; exact H
  clear H
  have H := H1
  clear H1
  simp only [Option.some.injEq, Prod.mk.injEq] at H
  obtain ⟨rfl, rfl, rfl⟩ := H
  obtain ⟨HGz4, hgz4⟩ := HI0.out
  have hcz4_0 := cellS96_0 HGz4
  have hcz4_1 := cellS96_1 HGz4
  have hfz4_0 := blk_frozen HGz4 0
  have hfz4_1 := blk_frozen HGz4 1
  clear HGz4 hgz4
  go_enter Tryd.func54, Tryd.ntmps54
  go_wp2
  go_ret
  exact ⟨by first | rfl | (simp [errW_none, errW_some] <;> rfl) | (simp [*, errW_none, errW_some] <;> rfl), by repeat (first | (with_reducible first | exact HI0.out | apply IsS96.alloc | apply IsS96.drewN | apply IsS96.drew | apply IsS96.set_0 | apply IsS96.set_1) | exact HI0.out), by repeat (first | (with_reducible first | exact HB.out | apply below_alloc | apply pw_below_drewN | apply below_drew1 | refine below_set ?_ (IsS96.ge HI0.out)) | exact HB.out), by repeat (first | (with_reducible first | exact HK.out | apply KeepBut.set_ | apply keep_drewN | apply keep_drew | apply keep_alloc) | exact HK.out)⟩
 ·replace c3 := Bool.eq_false_iff.mpr c3
  subst c3
  have H1 : (if a1 < 0 then (some ((⟨#[]⟩ : ByteArray), s0_0, true)) else (if a1 > (s0_0.size : Int) then (some ((⟨#[]⟩ : ByteArray), s0_0, decide (a1 > (s0_0.size : Int)))) else (if 0 ≤ a1 then (if a1 ≤ (s0_0.size : Int) then (some (s0_0.extract 0 (a1 : Int).toNat, s0_0.extract (a1 : Int).toNat s0_0.size, decide (a1 > (s0_0.size : Int)))) else (none)) else (none)))) = some (r1, r2, r3) := by rw [if_neg (show ¬ (false = true) by decide)] at H; exact H
  clear H
  have H := H1
  clear H1
  by_cases c5 : a1 < 0
  ·rw [if_pos c5] at H
   (try rw [decide_eq_true c5] at H)
   have c5b0 : decide (a1 < 0) = true := decide_eq_true c5
   clear c5
   simp only [Option.some.injEq, Prod.mk.injEq] at H
   obtain ⟨rfl, rfl, rfl⟩ := H
   obtain ⟨HGz6, hgz6⟩ := HI0.out
   have hcz6_0 := cellS96_0 HGz6
   have hcz6_1 := cellS96_1 HGz6
   have hfz6_0 := blk_frozen HGz6 0
   have hfz6_1 := blk_frozen HGz6 1
   clear HGz6 hgz6
   go_enter Tryd.func54, Tryd.ntmps54
   go_wp2
   go_ret
   exact ⟨by first | rfl | (simp [errW_none, errW_some] <;> rfl) | (simp [*, errW_none, errW_some] <;> rfl), by repeat (first | (with_reducible first | exact HI0.out | apply IsS96.alloc | apply IsS96.drewN | apply IsS96.drew | apply IsS96.set_0 | apply IsS96.set_1) | exact HI0.out), by repeat (first | (with_reducible first | exact HB.out | apply below_alloc | apply pw_below_drewN | apply below_drew1 | refine below_set ?_ (IsS96.ge HI0.out)) | exact HB.out), by repeat (first | (with_reducible first | exact HK.out | apply KeepBut.set_ | apply keep_drewN | apply keep_drew | apply keep_alloc) | exact HK.out)⟩
  ·rw [if_neg c5] at H
   (try rw [decide_eq_false c5] at H)
   have c5b0 : decide (a1 < 0) = false := decide_eq_false c5
   clear c5
   by_cases c7 : a1 > (s0_0.size : Int)
   ·rw [if_pos c7] at H
    (try rw [decide_eq_true c7] at H)
    have c7b0 : decide ((s0_0.size : Int) < a1) = true := decide_eq_true c7
    clear c7
    simp only [Option.some.injEq, Prod.mk.injEq] at H
    obtain ⟨rfl, rfl, rfl⟩ := H
    obtain ⟨HGz8, hgz8⟩ := HI0.out
    have hcz8_0 := cellS96_0 HGz8
    have hcz8_1 := cellS96_1 HGz8
    have hfz8_0 := blk_frozen HGz8 0
    have hfz8_1 := blk_frozen HGz8 1
    clear HGz8 hgz8
    go_enter Tryd.func54, Tryd.ntmps54
    go_wp2
    go_ret
    exact ⟨by first | rfl | (simp [errW_none, errW_some] <;> rfl) | (simp [*, errW_none, errW_some] <;> rfl), by repeat (first | (with_reducible first | exact HI0.out | apply IsS96.alloc | apply IsS96.drewN | apply IsS96.drew | apply IsS96.set_0 | apply IsS96.set_1) | exact HI0.out), by repeat (first | (with_reducible first | exact HB.out | apply below_alloc | apply pw_below_drewN | apply below_drew1 | refine below_set ?_ (IsS96.ge HI0.out)) | exact HB.out), by repeat (first | (with_reducible first | exact HK.out | apply KeepBut.set_ | apply keep_drewN | apply keep_drew | apply keep_alloc) | exact HK.out)⟩
   ·rw [if_neg c7] at H
    (try rw [decide_eq_false c7] at H)
    have c7b0 : decide ((s0_0.size : Int) < a1) = false := decide_eq_false c7
    clear c7
    by_cases c9 : 0 ≤ a1
    ·rw [if_pos c9] at H
     (try rw [decide_eq_true c9] at H)
     have c9b0 := eq_true c9
     have c9b1 : decide (0 ≤ a1) = true := decide_eq_true c9
     clear c9
     by_cases c10 : a1 ≤ (s0_0.size : Int)
     ·rw [if_pos c10] at H
      (try rw [decide_eq_true c10] at H)
      have c10b0 := eq_true c10
      have c10b1 : decide (a1 ≤ (s0_0.size : Int)) = true := decide_eq_true c10
      clear c10
      have c11b0 := eq_true (of_decide_eq_true (by first | (with_reducible assumption) | assumption) : 0 ≤ a1)
      have c12b0 := eq_true (of_decide_eq_true (by first | (with_reducible assumption) | assumption) : a1 ≤ (s0_0.size : Int))
      simp only [Option.some.injEq, Prod.mk.injEq] at H
      obtain ⟨rfl, rfl, rfl⟩ := H
      obtain ⟨HGz13, hgz13⟩ := HI0.out
      have hcz13_0 := cellS96_0 HGz13
      have hcz13_1 := cellS96_1 HGz13
      have hfz13_0 := blk_frozen HGz13 0
      have hfz13_1 := blk_frozen HGz13 1
      clear HGz13 hgz13
      go_enter Tryd.func54, Tryd.ntmps54
      go_wp2
      go_ret
      exact ⟨by first | rfl | (simp [errW_none, errW_some] <;> rfl) | (simp [*, errW_none, errW_some] <;> rfl), by repeat (first | (with_reducible first | exact HI0.out | apply IsS96.alloc | apply IsS96.drewN | apply IsS96.drew | apply IsS96.set_0 | apply IsS96.set_1) | exact HI0.out), by repeat (first | (with_reducible first | exact HB.out | apply below_alloc | apply pw_below_drewN | apply below_drew1 | refine below_set ?_ (IsS96.ge HI0.out)) | exact HB.out), by repeat (first | (with_reducible first | exact HK.out | apply KeepBut.set_ | apply keep_drewN | apply keep_drew | apply keep_alloc) | exact HK.out)⟩
     ·rw [if_neg c10] at H
      (try rw [decide_eq_false c10] at H)
      exact absurd H (by simp)
    ·rw [if_neg c9] at H
     (try rw [decide_eq_false c9] at H)
     exact absurd H (by simp)

end Go.Proofs.YtboommbclbjlnaaDoor.Fn
end
section
-- Written by printx.py, a program of this session over the kit's print: each Go function as a plain Lean function, and that the Go code computes it.


namespace Go.Proofs.YtboommbclbjlnaaDoor.Fn
open Go.RowKit Go.Proofs.YtboommbclbjlnaaDoorW.PrintWords Go.Proofs.YtboommbclbjlnaaDoorW.PrintLast Go.Proofs.YtboommbclbjlnaaDoorW.PrintMore Go.Proofs.YtboommbclbjlnaaDoor.Lf
attribute [local go_sem] max2_int min2_int max_two min_two max_three min_three max_four min_four   -- for this text's walks alone
set_option linter.unusedVariables false
set_option linter.unusedSimpArgs false

/-! ### le_Reader_Number: function 55 -/
def le_Reader_Number.f (s0_0 : ByteArray) (s0_1 : Bool) (a1 : Int) : Option (Int × ByteArray × Bool) := if a1 > 8 then ((le_Reader_Text.f s0_0 s0_1 (-1)).bind fun bt121 => ((le_Get.f bt121.1).bind fun t124 => (some (t124, bt121.2.1, bt121.2.2)))) else ((le_Reader_Text.f s0_0 s0_1 a1).bind fun bt125 => ((le_Get.f bt125.1).bind fun t128 => (some (t128, bt125.2.1, bt125.2.2))))
set_option maxHeartbeats 8000000 in
set_option maxRecDepth 100000 in
theorem le_Reader_Number.calls (g : Nat) (s0_0 : ByteArray) (s0_1 : Bool) (a1 : Int) (r1 : Int) (r2 : ByteArray) (r3 : Bool) (w0 w : World) (hI : IsS96 w0 w g s0_0 s0_1) (hB : Below w0.heap.size w0 w) (h : le_Reader_Number.f s0_0 s0_1 a1 = some (r1, r2, r3)) :
  Calls Tryd.prog 55 #[.pointer (some ⟨g, 0, none⟩), .int .i64 a1] w fun e w' => e = .returned (.int .u64 r1) ∧ IsS96 w0 w' g r2 r3 ∧ Below w0.heap.size w0 w' ∧ KeepBut w w' g none := by
 have HI0 := Aside0.mk hI
 have HK := Aside0.mk (KeepBut.refl w g none)
 have HL := Aside0.mk hB.size
 clear hI
 have HW0 := Aside0.mk hB.size
 have HB := Aside0.mk hB
 clear hB
 have H : (if a1 > 8 then ((le_Reader_Text.f s0_0 s0_1 (-1)).bind fun bt121 => ((le_Get.f bt121.1).bind fun t124 => (some (t124, bt121.2.1, bt121.2.2)))) else ((le_Reader_Text.f s0_0 s0_1 a1).bind fun bt125 => ((le_Get.f bt125.1).bind fun t128 => (some (t128, bt125.2.1, bt125.2.2))))) = some (r1, r2, r3) := h
 clear h
 by_cases c3 : a1 > 8
 ·rw [if_pos c3] at H
  have c3b0 : decide (8 < a1) = true := decide_eq_true c3
  clear c3
  replace H := Option.bind_eq_some_iff.mp H
  obtain ⟨⟨t121, t122, t123⟩, A40, H⟩ := H
  replace H : ((le_Get.f t121).bind fun t124 => (some (t124, t122, t123))) = some (r1, r2, r3) := H
  have A4 := Aside0.mk A40
  clear A40
  replace H := Option.bind_eq_some_iff.mp H
  obtain ⟨t124, A50, H⟩ := H
  replace H : (some (t124, t122, t123)) = some (r1, r2, r3) := H
  have A5 := Aside0.mk A50
  clear A50
  simp only [Option.some.injEq, Prod.mk.injEq] at H
  obtain ⟨rfl, rfl, rfl⟩ := H
  go_enter Tryd.func55, Tryd.ntmps55
  go_wp2_with (first | ((with_reducible refine gate_callee (f := 54) rfl ?_); refine goesL_ (some 9) rfl rfl Tryd.func54 (by kernel_rfl) rfl #[.pointer (some ⟨g, 0, none⟩), .int .i64 (-1)] rfl (by (try simp only [List.map_toArray, List.map_cons, List.map_nil]); first | done | rfl | (simp only [List.length_drop, List.length_take]; rfl) | (rw [wrap_sum2 (by assumption)]; rfl)) ?_; (with_reducible refine (le_Reader_Text.calls g s0_0 s0_1 (-1) t121 t122 t123 w0 _ ?side1 ?side2 A4.out).mono ?_); (case side1 => repeat (first | (with_reducible first | exact HI0.out | apply IsS96.alloc | apply IsS96.drewN | apply IsS96.drew | apply IsS96.set_0 | apply IsS96.set_1) | exact HI0.out)); (case side2 => repeat (first | (with_reducible first | exact HB.out | apply below_alloc | apply pw_below_drewN | apply below_drew1 | refine below_set ?_ (IsS96.ge HI0.out)) | exact HB.out)); rintro e w6 ⟨rfl, hi, hb, hk⟩; refine ⟨_, rfl, ?_⟩; have n0_ := Aside0.mk (KeepBut.trans (by repeat (first | (with_reducible first | exact HK.out | apply KeepBut.set_ | apply keep_drewN | apply keep_drew | apply keep_alloc) | exact HK.out)) hk (.inl rfl)); have n1_ := Aside0.mk (hb); have n2_ := Aside0.mk (hi); clear HK; clear HB; clear HI0; have HK := n0_; have HB := n1_; have HI0 := n2_; clear n0_ n1_ n2_; (try clear hb); (try clear hb2); (try clear hk); (try clear hi)) | ((with_reducible refine gate_callee (f := 72) rfl ?_); refine goesL_ (some 10) rfl rfl Tryd.func72 (by kernel_rfl) rfl #[.string t121] rfl (by (try simp only [List.map_toArray, List.map_cons, List.map_nil]); first | done | rfl | (simp only [List.length_drop, List.length_take]; rfl) | (rw [wrap_sum2 (by assumption)]; rfl)) ?_; (with_reducible refine (le_Get.calls t121 t124 _ A5.out).mono ?_); rintro e w7 ⟨rfl, hb⟩; refine ⟨_, rfl, ?_⟩; have n0_ := Aside0.mk (IsS96.below (by repeat (first | (with_reducible first | exact HI0.out | apply IsS96.alloc | apply IsS96.drewN | apply IsS96.drew | apply IsS96.set_0 | apply IsS96.set_1) | exact HI0.out)) hb); have n1_ := Aside0.mk (KeepBut.trans (by repeat (first | (with_reducible first | exact HK.out | apply KeepBut.set_ | apply keep_drewN | apply keep_drew | apply keep_alloc) | exact HK.out)) (KeepBut.of_below hb g none) (.inl rfl)); have n2_ := Aside0.mk (below_step (by repeat (first | (with_reducible first | exact HB.out | apply below_alloc | apply pw_below_drewN | apply below_drew1 | refine below_set ?_ (IsS96.ge HI0.out)) | exact HB.out)) hb); clear HI0; clear HK; clear HB; have HI0 := n0_; have HK := n1_; have HB := n2_; clear n0_ n1_ n2_; (try clear hb); (try clear hb2); (try clear hk); (try clear hi)))
  go_ret
  exact ⟨by first | rfl | (simp [errW_none, errW_some] <;> rfl) | (simp [*, errW_none, errW_some] <;> rfl), by repeat (first | (with_reducible first | exact HI0.out | apply IsS96.alloc | apply IsS96.drewN | apply IsS96.drew | apply IsS96.set_0 | apply IsS96.set_1) | exact HI0.out), by repeat (first | (with_reducible first | exact HB.out | apply below_alloc | apply pw_below_drewN | apply below_drew1 | refine below_set ?_ (IsS96.ge HI0.out)) | exact HB.out), by repeat (first | (with_reducible first | exact HK.out | apply KeepBut.set_ | apply keep_drewN | apply keep_drew | apply keep_alloc) | exact HK.out)⟩
 ·rw [if_neg c3] at H
  have c3b0 : decide (8 < a1) = false := decide_eq_false c3
  clear c3
  replace H := Option.bind_eq_some_iff.mp H
  obtain ⟨⟨t125, t126, t127⟩, A80, H⟩ := H
  replace H : ((le_Get.f t125).bind fun t128 => (some (t128, t126, t127))) = some (r1, r2, r3) := H
  have A8 := Aside0.mk A80
  clear A80
  replace H := Option.bind_eq_some_iff.mp H
  obtain ⟨t128, A90, H⟩ := H
  replace H : (some (t128, t126, t127)) = some (r1, r2, r3) := H
  have A9 := Aside0.mk A90
  clear A90
  simp only [Option.some.injEq, Prod.mk.injEq] at H
  obtain ⟨rfl, rfl, rfl⟩ := H
  go_enter Tryd.func55, Tryd.ntmps55
  go_wp2_with (first | ((with_reducible refine gate_callee (f := 54) rfl ?_); refine goesL_ (some 9) rfl rfl Tryd.func54 (by kernel_rfl) rfl #[.pointer (some ⟨g, 0, none⟩), .int .i64 a1] rfl (by (try simp only [List.map_toArray, List.map_cons, List.map_nil]); first | done | rfl | (simp only [List.length_drop, List.length_take]; rfl) | (rw [wrap_sum2 (by assumption)]; rfl)) ?_; (with_reducible refine (le_Reader_Text.calls g s0_0 s0_1 a1 t125 t126 t127 w0 _ ?side1 ?side2 A8.out).mono ?_); (case side1 => repeat (first | (with_reducible first | exact HI0.out | apply IsS96.alloc | apply IsS96.drewN | apply IsS96.drew | apply IsS96.set_0 | apply IsS96.set_1) | exact HI0.out)); (case side2 => repeat (first | (with_reducible first | exact HB.out | apply below_alloc | apply pw_below_drewN | apply below_drew1 | refine below_set ?_ (IsS96.ge HI0.out)) | exact HB.out)); rintro e w10 ⟨rfl, hi, hb, hk⟩; refine ⟨_, rfl, ?_⟩; have n0_ := Aside0.mk (KeepBut.trans (by repeat (first | (with_reducible first | exact HK.out | apply KeepBut.set_ | apply keep_drewN | apply keep_drew | apply keep_alloc) | exact HK.out)) hk (.inl rfl)); have n1_ := Aside0.mk (hb); have n2_ := Aside0.mk (hi); clear HK; clear HB; clear HI0; have HK := n0_; have HB := n1_; have HI0 := n2_; clear n0_ n1_ n2_; (try clear hb); (try clear hb2); (try clear hk); (try clear hi)) | ((with_reducible refine gate_callee (f := 72) rfl ?_); refine goesL_ (some 10) rfl rfl Tryd.func72 (by kernel_rfl) rfl #[.string t125] rfl (by (try simp only [List.map_toArray, List.map_cons, List.map_nil]); first | done | rfl | (simp only [List.length_drop, List.length_take]; rfl) | (rw [wrap_sum2 (by assumption)]; rfl)) ?_; (with_reducible refine (le_Get.calls t125 t128 _ A9.out).mono ?_); rintro e w11 ⟨rfl, hb⟩; refine ⟨_, rfl, ?_⟩; have n0_ := Aside0.mk (IsS96.below (by repeat (first | (with_reducible first | exact HI0.out | apply IsS96.alloc | apply IsS96.drewN | apply IsS96.drew | apply IsS96.set_0 | apply IsS96.set_1) | exact HI0.out)) hb); have n1_ := Aside0.mk (KeepBut.trans (by repeat (first | (with_reducible first | exact HK.out | apply KeepBut.set_ | apply keep_drewN | apply keep_drew | apply keep_alloc) | exact HK.out)) (KeepBut.of_below hb g none) (.inl rfl)); have n2_ := Aside0.mk (below_step (by repeat (first | (with_reducible first | exact HB.out | apply below_alloc | apply pw_below_drewN | apply below_drew1 | refine below_set ?_ (IsS96.ge HI0.out)) | exact HB.out)) hb); clear HI0; clear HK; clear HB; have HI0 := n0_; have HK := n1_; have HB := n2_; clear n0_ n1_ n2_; (try clear hb); (try clear hb2); (try clear hk); (try clear hi)))
  go_ret
  exact ⟨by first | rfl | (simp [errW_none, errW_some] <;> rfl) | (simp [*, errW_none, errW_some] <;> rfl), by repeat (first | (with_reducible first | exact HI0.out | apply IsS96.alloc | apply IsS96.drewN | apply IsS96.drew | apply IsS96.set_0 | apply IsS96.set_1) | exact HI0.out), by repeat (first | (with_reducible first | exact HB.out | apply below_alloc | apply pw_below_drewN | apply below_drew1 | refine below_set ?_ (IsS96.ge HI0.out)) | exact HB.out), by repeat (first | (with_reducible first | exact HK.out | apply KeepBut.set_ | apply keep_drewN | apply keep_drew | apply keep_alloc) | exact HK.out)⟩

end Go.Proofs.YtboommbclbjlnaaDoor.Fn
end
section
-- Written by printx.py, a program of this session over the kit's print: each Go function as a plain Lean function, and that the Go code computes it.





namespace Go.Proofs.YtboommbclbjlnaaDoor.Fn
open Go.RowKit Go.Proofs.YtboommbclbjlnaaDoorW.PrintWords Go.Proofs.YtboommbclbjlnaaDoorW.PrintLast Go.Proofs.YtboommbclbjlnaaDoorW.PrintMore Go.Proofs.YtboommbclbjlnaaDoor.Lf
attribute [local go_sem] max2_int min2_int max_two min_two max_three min_three max_four min_four   -- for this text's walks alone
set_option linter.unusedVariables false
set_option linter.unusedSimpArgs false

/-! ### step_Take: function 27 -/
def step_Take.f (k : Nat) (a0 : ByteArray) : Option (Int × Int × Int × Int × ByteArray × ByteArray × Int) :=
 (le_Reader_Number.f a0 false 2).bind fun n1 => (le_Reader_Text.f n1.2.1 n1.2.2 (wrap64 n1.1)).bind fun t1 =>
 if t1.2.2 = true then some (0, 0, 0, 0, ⟨#[]⟩, ⟨#[]⟩, 10) else (seal_Take.f t1.1).bind fun s1 =>
 if s1.2 = 0 then (le_Reader_Number.f s1.1 false 1).bind fun q1 => (le_Reader_Number.f q1.2.1 q1.2.2 4).bind fun q2 => (le_Reader_Number.f q2.2.1 q2.2.2 4).bind fun q3 =>
  (le_Reader_Number.f q3.2.1 q3.2.2 8).bind fun q4 => (le_Reader_Text.f q4.2.1 q4.2.2 (q4.2.1.size : Int)).bind fun x =>
  if x.2.2 = true then some (0, 0, 0, 0, ⟨#[]⟩, ⟨#[]⟩, 2) else (step_Right.f k (wrap64 q1.1) (wrap64 q2.1) (wrap64 q3.1) q4.1 x.1).bind fun ok =>
  if ok = true then some (wrap64 q1.1, wrap64 q2.1, wrap64 q3.1, q4.1, x.1, t1.2.1, 0) else some (0, 0, 0, 0, ⟨#[]⟩, ⟨#[]⟩, 2)
 else some (0, 0, 0, 0, ⟨#[]⟩, ⟨#[]⟩, s1.2)
theorem step_Take.mono : ∀ a0 k, LeO (step_Take.f k a0) (step_Take.f (k + 1) a0) := by
 intro a0 k
 unfold step_Take.f
 repeat' first
   | (with_reducible exact step_Right.mono _ _ _ _ _ _)
   | (with_reducible exact LeO.refl _)
   | (with_reducible exact LeO.none _)
   | (with_reducible refine LeO.ite ?_ ?_)
   | (with_reducible refine LeO.bind ?_ (fun _ => ?_))
   | exact LeO.none _
   | refine LeO.ite ?_ ?_
   | refine LeO.bind ?_ (fun _ => ?_)
def step_Take.T13 : Bool × List (List Nat × List Nat) := (true, [([], []), ([], []), ([1], [1]), ([2], [2]), ([3], [3]), ([0, 0], [0]), ([4, 5, 0, 1, 2, 3, 4, 5], [4]), ([6, 0, 1, 2, 3, 4, 5, 6], [])])
def step_Take.B13 : List Nat := [0, 0, 2, 6, 14, 1, 63, 127]
theorem step_Take.tab13 : rtab .any (opsOf Tryd.f27 13) = step_Take.T13 := by kernel_rfl
theorem step_Take.bits13 : waitsOk step_Take.T13.2 step_Take.B13 = true := by kernel_rfl
theorem keep_blk {w w1 : World} {g k : Nat} {o : Obj} (hk : KeepBut w w1 g none) (h : w.heap[k]? = some o) (hne : k ≠ g) : w1.heap[k]? = some o := by
 have hlt : k < w.heap.size := (Array.getElem?_eq_some_iff.1 h).1
 rw [hk.2 k hlt hne (by simp)]; exact h
theorem put24 {W : World} {g : Nat} {o0 o1 o2 o3 o4 : Value} (h : W.heap[g]? = some (.cells #[o0, o1, o2, o3, o4] 24 (0, 0))) (v0 v1 v2 v3 v4 : Value) :
  (((((W.setCell ⟨g, 0, none⟩ v0).setCell ⟨g, 1, none⟩ v1).setCell ⟨g, 2, none⟩ v2).setCell ⟨g, 3, none⟩ v3).setCell ⟨g, 4, none⟩ v4).heap[g]? = some (.cells #[v0, v1, v2, v3, v4] 24 (0, 0)) :=
 blk_put (cs := #[v0, v1, v2, v3, o4]) (blk_put (cs := #[v0, v1, v2, o3, o4]) (blk_put (cs := #[v0, v1, o2, o3, o4]) (blk_put (cs := #[v0, o1, o2, o3, o4]) (blk_put (cs := #[o0, o1, o2, o3, o4]) h 0 _ rfl) 1 _ rfl) 2 _ rfl) 3 _ rfl) 4 _ rfl
theorem below24 {w W : World} {g : Nat} (h : Below w.heap.size w W) (v0 v1 v2 v3 v4 : Value) (hg : w.heap.size ≤ g := by omega) :
  Below w.heap.size w (((((W.setCell ⟨g, 0, none⟩ v0).setCell ⟨g, 1, none⟩ v1).setCell ⟨g, 2, none⟩ v2).setCell ⟨g, 3, none⟩ v3).setCell ⟨g, 4, none⟩ v4) :=
 below_set (below_set (below_set (below_set (below_set h hg) hg) hg) hg) hg
set_option maxHeartbeats 8000000 in
set_option maxRecDepth 100000 in
theorem step_Take.calls (k : Nat) (a0 : ByteArray) (r1 r2 r3 r4 : Int) (r5 r6 : ByteArray) (r7 : Int) (w : World) (h : step_Take.f k a0 = some (r1, r2, r3, r4, r5, r6, r7)) (HT : Tabs w) :
  Calls Tryd.prog 27 #[.string a0] w fun e w' => e = .returned (.tuple #[.agg #[.int .i64 r1, .int .i64 r2, .int .i64 r3, .int .u64 r4, .string r5], .string r6, .int .i64 r7]) ∧ Below w.heap.size w w' := by
 unfold step_Take.f at h
 obtain ⟨⟨n1, nl, nb⟩, A1, h⟩ := Option.bind_eq_some_iff.1 h
 obtain ⟨⟨t1, tl, tb⟩, A2, h⟩ := Option.bind_eq_some_iff.1 h
 replace A1 := Aside0.mk A1
 replace A2 := Aside0.mk A2
 have H := Aside0.mk h
 clear h
 rename _ = _ => hjunk
 clear hjunk
 rename _ = _ => hjunk
 clear hjunk
 have HW := Aside0.mk HT
 clear HT
 go_enter Tryd.func27, Tryd.ntmps27
 go_wp2_with (first | (go_at_call 55; fail) | (go_at_call 54; fail))
 have BK0 : (w.alloc (Obj.cells #[Value.int IntKind.i64 0, Value.int IntKind.i64 0, Value.int IntKind.i64 0, Value.int IntKind.u64 0, Value.string { data := #[] }] 24)).heap[w.heap.size]? = some (Obj.cells #[Value.int IntKind.i64 0, Value.int IntKind.i64 0, Value.int IntKind.i64 0, Value.int IntKind.u64 0, Value.string { data := #[] }] 24 (0, 0)) := heap_alloc_new w _
 have BK0' := blk_alloc BK0 (Obj.cells #[Value.string a0, Value.bool false] 96)
 refine (le_Reader_Number.calls _ a0 false 2 n1 nl nb w _ (by rw [show w.heap.size + 1 = (w.alloc (Obj.cells #[Value.int IntKind.i64 0, Value.int IntKind.i64 0, Value.int IntKind.i64 0, Value.int IntKind.u64 0, Value.string { data := #[] }] 24)).heap.size by simp]; exact IsS96.new w _ a0 false (below_alloc (Below.refl _ _) _)) (below_alloc (below_alloc (Below.refl _ _) _) _) A1.out).mono ?_
 rintro e w1 ⟨rfl, hI1, hB1, hK1⟩
 have BK1 := keep_blk hK1 BK0' (by omega)
 clear BK0 BK0' hK1
 replace hI1 := Aside0.mk hI1
 replace hB1 := Aside0.mk hB1
 replace BK1 := Aside0.mk BK1
 go_wp2_with (first | (go_at_call 55; fail) | (go_at_call 54; fail))
 refine (le_Reader_Text.calls _ nl nb (wrap64 n1) t1 tl tb w w1 hI1.out hB1.out A2.out).mono ?_
 rintro e w2 ⟨rfl, hI2, hB2, hK2⟩
 have BK2 := keep_blk hK2 BK1.out (by omega)
 clear BK1 hI1 hB1 hK2 A1 A2
 have hc1 := cellS96_1 hI2.1
 replace hI2 := Aside0.mk hI2
 replace hB2 := Aside0.mk hB2
 cases tb with
 | true =>
  have H1 := H.out
  rw [if_pos rfl] at H1
  cases H1
  have b0 := (blk_cell BK2 0).trans rfl
  have b1 := (blk_cell BK2 1).trans rfl
  have b2 := (blk_cell BK2 2).trans rfl
  have b3 := (blk_cell BK2 3).trans rfl
  have b4 := (blk_cell BK2 4).trans rfl
  have z0 := blk_frozen BK2 0
  have z1 := blk_frozen BK2 1
  have z2 := blk_frozen BK2 2
  have z3 := blk_frozen BK2 3
  have z4 := blk_frozen BK2 4
  replace BK2 := Aside0.mk BK2
  go_wp2
  refine bodyPost_ret (results_ctt rfl _ _ w.heap.size 24 #[.int .i64 0, .int .i64 0, .int .i64 0, .int .u64 0, .string (⟨#[]⟩ : ByteArray)] (0, 0) _ rfl (put24 BK2.out _ _ _ _ _) Tryd.underlying24 rfl (by kernel_rfl)) rfl ?_
  exact ⟨rfl, below24 hB2.out _ _ _ _ _⟩
 | false =>
  have H1 := H.out
  rw [if_neg (by decide)] at H1
  obtain ⟨⟨s1, s2⟩, A3, H2⟩ := Option.bind_eq_some_iff.1 H1
  clear H H1
  replace A3 := Aside0.mk A3
  have H := Aside0.mk H2
  clear H2
  replace BK2 := Aside0.mk BK2
  go_wp2_with (first | (go_at_call 56; fail))
  refine (seal_Take.calls t1 s1 s2 _ A3.out).mono ?_
  rintro e w3 ⟨rfl, hb3⟩
  have hI3 := hI2.out.below hb3
  have hB3 := below_step hB2.out hb3
  have BK3 := blk_below BK2.out hb3
  clear A3 hI2 hB2 BK2 hc1 hb3
  have b0 := (blk_cell BK3 0).trans rfl
  have b1 := (blk_cell BK3 1).trans rfl
  have b2 := (blk_cell BK3 2).trans rfl
  have b3 := (blk_cell BK3 3).trans rfl
  have b4 := (blk_cell BK3 4).trans rfl
  have z0 := blk_frozen BK3 0
  have z1 := blk_frozen BK3 1
  have z2 := blk_frozen BK3 2
  have z3 := blk_frozen BK3 3
  have z4 := blk_frozen BK3 4
  replace hI3 := Aside0.mk hI3
  replace hB3 := Aside0.mk hB3
  replace BK3 := Aside0.mk BK3
  by_cases hs : s2 = 0
  ·subst hs
   have H1 := H.out
   rw [if_pos rfl] at H1
   obtain ⟨⟨n1_, l1_, d1_⟩, B1, H1⟩ := Option.bind_eq_some_iff.1 H1
   obtain ⟨⟨n2_, l2_, d2_⟩, B2, H1⟩ := Option.bind_eq_some_iff.1 H1
   obtain ⟨⟨n3_, l3_, d3_⟩, B3, H1⟩ := Option.bind_eq_some_iff.1 H1
   obtain ⟨⟨n4_, l4_, d4_⟩, B4, H1⟩ := Option.bind_eq_some_iff.1 H1
   obtain ⟨⟨x_, l5_, d5_⟩, B5, H1⟩ := Option.bind_eq_some_iff.1 H1
   clear H
   have H := Aside0.mk H1
   clear H1
   replace B1 := Aside0.mk B1
   replace B2 := Aside0.mk B2
   replace B3 := Aside0.mk B3
   replace B4 := Aside0.mk B4
   replace B5 := Aside0.mk B5
   clear b0 b1 b2 b3 b4 z0 z1 z2 z3 z4
   go_wp2_with (first | (go_at_call 55; fail))
   have hlt : w.heap.size + 1 < w3.heap.size := hI3.out.lt
   have J0 := IsS96.new w w3 s1 false hB3.out
   have R0 := hI3.out.alloc (Obj.cells #[Value.string s1, Value.bool false] 96)
   have K0 := blk_alloc BK3.out (Obj.cells #[Value.string s1, Value.bool false] 96)
   have D0 := below_alloc hB3.out (Obj.cells #[Value.string s1, Value.bool false] 96)
   clear hI3 hB3 BK3
   generalize w3.alloc (Obj.cells #[Value.string s1, Value.bool false] 96) = v0 at J0 R0 K0 D0 ⊢
   generalize w3.heap.size = gq at hlt J0 ⊢
   have HQ := Aside0.mk hlt
   replace J0 := Aside0.mk J0
   replace R0 := Aside0.mk R0
   replace K0 := Aside0.mk K0
   replace D0 := Aside0.mk D0
   clear hlt
   refine (le_Reader_Number.calls gq s1 false 1 n1_ l1_ d1_ w _ J0.out D0.out B1.out).mono ?_
   rintro e v1 ⟨rfl, hJ, hD, hK⟩
   have hne := HQ.out
   have J1 := Aside0.mk hJ
   have D1 := Aside0.mk hD
   have R1 := Aside0.mk (show IsS96 w v1 (w.heap.size + 1) tl false from ⟨keep_blk hK R0.out.1 (by omega), R0.out.2⟩)
   have K1 := Aside0.mk (keep_blk hK K0.out (by omega))
   clear hJ hD hK hne J0 D0 R0 K0
   go_wp2_with (first | (go_at_call 55; fail))
   refine (le_Reader_Number.calls gq l1_ d1_ 4 n2_ l2_ d2_ w _ J1.out D1.out B2.out).mono ?_
   rintro e v2 ⟨rfl, hJ, hD, hK⟩
   have hne := HQ.out
   have J2 := Aside0.mk hJ
   have D2 := Aside0.mk hD
   have R2 := Aside0.mk (show IsS96 w v2 (w.heap.size + 1) tl false from ⟨keep_blk hK R1.out.1 (by omega), R1.out.2⟩)
   have K2 := Aside0.mk (keep_blk hK K1.out (by omega))
   clear hJ hD hK hne J1 D1 R1 K1
   go_wp2_with (first | (go_at_call 55; fail))
   refine (le_Reader_Number.calls gq l2_ d2_ 4 n3_ l3_ d3_ w _ J2.out D2.out B3.out).mono ?_
   rintro e v3 ⟨rfl, hJ, hD, hK⟩
   have hne := HQ.out
   have J3 := Aside0.mk hJ
   have D3 := Aside0.mk hD
   have R3 := Aside0.mk (show IsS96 w v3 (w.heap.size + 1) tl false from ⟨keep_blk hK R2.out.1 (by omega), R2.out.2⟩)
   have K3 := Aside0.mk (keep_blk hK K2.out (by omega))
   clear hJ hD hK hne J2 D2 R2 K2
   go_wp2_with (first | (go_at_call 55; fail))
   refine (le_Reader_Number.calls gq l3_ d3_ 8 n4_ l4_ d4_ w _ J3.out D3.out B4.out).mono ?_
   rintro e v4 ⟨rfl, hJ, hD, hK⟩
   have hne := HQ.out
   have J4 := Aside0.mk hJ
   have D4 := Aside0.mk hD
   have R4 := Aside0.mk (show IsS96 w v4 (w.heap.size + 1) tl false from ⟨keep_blk hK R3.out.1 (by omega), R3.out.2⟩)
   have K4 := Aside0.mk (keep_blk hK K3.out (by omega))
   clear hJ hD hK hne J3 D3 R3 K3
   have hc := fun o => cellS96_0 (J4.out.alloc o).1
   go_wp2_with (first | (go_at_call 54; fail))
   clear hc
   have hlt : gq < v4.heap.size := J4.out.lt
   have X0 := heap_alloc_new v4 (Obj.cells #[Value.int IntKind.i64 (wrap64 n1_), Value.int IntKind.i64 (wrap64 n2_), Value.int IntKind.i64 (wrap64 n3_), Value.int IntKind.u64 n4_, Value.string { data := #[] }] 24)
   have J5 := J4.out.alloc (Obj.cells #[Value.int IntKind.i64 (wrap64 n1_), Value.int IntKind.i64 (wrap64 n2_), Value.int IntKind.i64 (wrap64 n3_), Value.int IntKind.u64 n4_, Value.string { data := #[] }] 24)
   have R5 := R4.out.alloc (Obj.cells #[Value.int IntKind.i64 (wrap64 n1_), Value.int IntKind.i64 (wrap64 n2_), Value.int IntKind.i64 (wrap64 n3_), Value.int IntKind.u64 n4_, Value.string { data := #[] }] 24)
   have K5 := blk_alloc K4.out (Obj.cells #[Value.int IntKind.i64 (wrap64 n1_), Value.int IntKind.i64 (wrap64 n2_), Value.int IntKind.i64 (wrap64 n3_), Value.int IntKind.u64 n4_, Value.string { data := #[] }] 24)
   have D5 := below_alloc D4.out (Obj.cells #[Value.int IntKind.i64 (wrap64 n1_), Value.int IntKind.i64 (wrap64 n2_), Value.int IntKind.i64 (wrap64 n3_), Value.int IntKind.u64 n4_, Value.string { data := #[] }] 24)
   clear J4 R4 K4 D4
   generalize v4.alloc (Obj.cells #[Value.int IntKind.i64 (wrap64 n1_), Value.int IntKind.i64 (wrap64 n2_), Value.int IntKind.i64 (wrap64 n3_), Value.int IntKind.u64 n4_, Value.string { data := #[] }] 24) = v5 at X0 J5 R5 K5 D5 ⊢
   generalize v4.heap.size = gx at hlt X0 ⊢
   have HX := Aside0.mk hlt
   clear hlt
   refine (le_Reader_Text.calls gq l4_ d4_ (l4_.size : Int) x_ l5_ d5_ w _ J5 D5 B5.out).mono ?_
   rintro e v6 ⟨rfl, hJ, hD, hK⟩
   have hne := HQ.out
   have hnx := HX.out
   have J6 := Aside0.mk hJ
   have D6 := Aside0.mk hD
   have R6 := Aside0.mk (show IsS96 w v6 (w.heap.size + 1) tl false from ⟨keep_blk hK R5.1 (by omega), R5.2⟩)
   have K6 := Aside0.mk (keep_blk hK K5 (by omega))
   have X6 := keep_blk hK X0 (by omega)
   clear hJ hD hK hne hnx J5 D5 R5 K5 X0
   have x0 := (blk_cell X6 0).trans rfl
   have x1 := (blk_cell X6 1).trans rfl
   have x2 := (blk_cell X6 2).trans rfl
   have x3 := (blk_cell X6 3).trans rfl
   have x4 := (blk_cell X6 4).trans rfl
   have z4 := blk_frozen X6 4
   replace X6 := Aside0.mk X6
   have q1 := cellS96_1 J6.out.1
   cases d5_ with
   | true =>
    have H1 := H.out
    rw [if_pos rfl] at H1
    cases H1
    have hgx : w.heap.size ≠ gx := by have h1 := HQ.out; have h2 := HX.out; omega
    have K7 : (v6.setCell { block := gx, off := 4 } (Value.string x_)).heap[w.heap.size]? = some (Obj.cells #[Value.int IntKind.i64 0, Value.int IntKind.i64 0, Value.int IntKind.i64 0, Value.int IntKind.u64 0, Value.string { data := #[] }] 24 (0, 0)) := blk_far K6.out hgx _
    have D7 : Below w.heap.size w (v6.setCell { block := gx, off := 4 } (Value.string x_)) := below_set D6.out (by have h1 := HQ.out; have h2 := HX.out; show w.heap.size ≤ gx; omega)
    have b0 := (blk_cell K7 0).trans rfl
    have b1 := (blk_cell K7 1).trans rfl
    have b2 := (blk_cell K7 2).trans rfl
    have b3 := (blk_cell K7 3).trans rfl
    have b4 := (blk_cell K7 4).trans rfl
    have y0 := blk_frozen K7 0
    have y1 := blk_frozen K7 1
    have y2 := blk_frozen K7 2
    have y3 := blk_frozen K7 3
    have y4 := blk_frozen K7 4
    replace K7 := Aside0.mk K7
    replace D7 := Aside0.mk D7
    go_wp2
    refine bodyPost_ret (results_ctt rfl _ _ w.heap.size 24 #[.int .i64 0, .int .i64 0, .int .i64 0, .int .u64 0, .string (⟨#[]⟩ : ByteArray)] (0, 0) _ rfl (put24 K7.out _ _ _ _ _) Tryd.underlying24 rfl (by kernel_rfl)) rfl ?_
    exact ⟨rfl, below24 D7.out _ _ _ _ _⟩
   | false =>
    have H1 := H.out
    rw [if_neg (by decide)] at H1
    obtain ⟨ok, A9, H2⟩ := Option.bind_eq_some_iff.1 H1
    clear H H1
    have H := Aside0.mk H2
    have A9 := Aside0.mk A9
    clear H2
    go_wp2_with (first | (go_at_call 21; fail))
    have hgx : w.heap.size ≠ gx := by have h1 := HQ.out; have h2 := HX.out; omega
    have K7 : (v6.setCell { block := gx, off := 4 } (Value.string x_)).heap[w.heap.size]? = some (Obj.cells #[Value.int IntKind.i64 0, Value.int IntKind.i64 0, Value.int IntKind.i64 0, Value.int IntKind.u64 0, Value.string { data := #[] }] 24 (0, 0)) := blk_far K6.out hgx _
    have D7 : Below w.heap.size w (v6.setCell { block := gx, off := 4 } (Value.string x_)) := below_set D6.out (by have h1 := HQ.out; have h2 := HX.out; show w.heap.size ≤ gx; omega)
    have X7 : (v6.setCell { block := gx, off := 4 } (Value.string x_)).heap[gx]? = some (Obj.cells #[Value.int IntKind.i64 (wrap64 n1_), Value.int IntKind.i64 (wrap64 n2_), Value.int IntKind.i64 (wrap64 n3_), Value.int IntKind.u64 n4_, Value.string x_] 24 (0, 0)) := blk_put (cs := #[Value.int IntKind.i64 (wrap64 n1_), Value.int IntKind.i64 (wrap64 n2_), Value.int IntKind.i64 (wrap64 n3_), Value.int IntKind.u64 n4_, Value.string { data := #[] }]) X6.out 4 _ rfl
    have R7 : (v6.setCell { block := gx, off := 4 } (Value.string x_)).heap[w.heap.size + 1]? = some (Obj.cells #[Value.string tl, Value.bool false] 96 (0, 0)) := blk_far R6.out.1 (by have h1 := HQ.out; have h2 := HX.out; show w.heap.size + 1 ≠ gx; omega) _
    clear K6 D6 X6 R6 J6 q1 x0 x1 x2 x3 x4 z4
    generalize v6.setCell { block := gx, off := 4 } (Value.string x_) = v7 at K7 D7 X7 R7 ⊢
    refine (step_Right.calls k (wrap64 n1_) (wrap64 n2_) (wrap64 n3_) n4_ x_ ok _ A9.out (HW.out.below D7)).mono ?_
    rintro e v8 ⟨rfl, hb8⟩
    have K8 := blk_below K7 hb8
    have D8 := Aside0.mk (below_step D7 hb8)
    have X8 := blk_below X7 hb8
    have R8 := blk_below R7 hb8
    clear K7 D7 X7 R7 hb8
    cases ok with
    | false =>
     have H1 := H.out
     rw [if_neg (by decide)] at H1
     cases H1
     have b0 := (blk_cell K8 0).trans rfl
     have y0 := blk_frozen K8 0
     have b1 := (blk_cell K8 1).trans rfl
     have y1 := blk_frozen K8 1
     have b2 := (blk_cell K8 2).trans rfl
     have y2 := blk_frozen K8 2
     have b3 := (blk_cell K8 3).trans rfl
     have y3 := blk_frozen K8 3
     have b4 := (blk_cell K8 4).trans rfl
     have y4 := blk_frozen K8 4
     replace K8 := Aside0.mk K8
     replace X8 := Aside0.mk X8
     replace R8 := Aside0.mk R8
     go_wp2
     refine bodyPost_ret (results_ctt rfl _ _ w.heap.size 24 #[.int .i64 0, .int .i64 0, .int .i64 0, .int .u64 0, .string (⟨#[]⟩ : ByteArray)] (0, 0) _ rfl (put24 K8.out _ _ _ _ _) Tryd.underlying24 rfl (by kernel_rfl)) rfl ?_
     exact ⟨rfl, below24 D8.out _ _ _ _ _⟩
    | true =>
     have H1 := H.out
     rw [if_pos rfl] at H1
     cases H1
     have b0 := (blk_cell K8 0).trans rfl
     have y0 := blk_frozen K8 0
     have b1 := (blk_cell K8 1).trans rfl
     have y1 := blk_frozen K8 1
     have b2 := (blk_cell K8 2).trans rfl
     have y2 := blk_frozen K8 2
     have b3 := (blk_cell K8 3).trans rfl
     have y3 := blk_frozen K8 3
     have b4 := (blk_cell K8 4).trans rfl
     have y4 := blk_frozen K8 4
     have x0 := (blk_cell X8 0).trans rfl
     have x1 := (blk_cell X8 1).trans rfl
     have x2 := (blk_cell X8 2).trans rfl
     have x3 := (blk_cell X8 3).trans rfl
     have x4 := (blk_cell X8 4).trans rfl
     have q0 := cellS96_0 R8
     replace K8 := Aside0.mk K8
     replace X8 := Aside0.mk X8
     replace R8 := Aside0.mk R8
     go_wp2
     have hgx' : gx ≠ w.heap.size := fun h => hgx h.symm
     have hg1 : w.heap.size + 1 ≠ w.heap.size := by omega
     refine start_ (n := 8) (S := fun w' => w'.cell? ⟨gx, 0, none⟩ = some (.int .i64 (wrap64 n1_)) ∧ w'.cell? ⟨gx, 1, none⟩ = some (.int .i64 (wrap64 n2_)) ∧ w'.cell? ⟨gx, 2, none⟩ = some (.int .i64 (wrap64 n3_)) ∧ w'.cell? ⟨gx, 3, none⟩ = some (.int .u64 r4) ∧ w'.cell? ⟨gx, 4, none⟩ = some (.string r5) ∧ w'.cell? ⟨w.heap.size + 1, 0, none⟩ = some (.string r6)) (ds := []) #[false, false, false, false, false, false, false, false] (by kernel_rfl) rfl rfl ⟨x0, x1, x2, x3, x4, q0⟩ (fun hHeld => ?_)
     refine with_tabW step_Take.tab13 step_Take.bits13 (fun HT_ HW_ => ?_)
     have K9 := blk_drew K8.out
     have D9 := below_drew1 D8.out
     clear b0 b1 b2 b3 b4 y0 y1 y2 y3 y4 x0 x1 x2 x3 x4 q0
     generalize v8.drew = v9 at K9 D9 hHeld ⊢
     clear K8 D8 X8 R8
     refine pure_ (i := 1) (N := some 67) (v := ?_) (a' := ?_) #[false, true, false, false, false, false, false, false] rfl rfl (any_of HT_.out (by kernel_rfl)) (fun _ _ _ h => h) (Or.inl ⟨by rfl, ?_⟩) ?_ ?_
     rotate_left
     ·intro w'
      go_simp
      with_reducible rfl
     rotate_left
     ·simp only [Act.put, List.setIfInBounds_toArray, List.set_cons_zero, List.set_cons_succ, i64_w, i32_w]
      rfl
     refine pure_ (i := 2) (N := some 68) (v := ?_) (a' := ?_) #[false, true, true, false, false, false, false, false] rfl rfl (any_of HT_.out (by kernel_rfl)) (fun _ _ _ h => h) (Or.inl ⟨by rfl, ?_⟩) ?_ ?_
     rotate_left
     ·intro w'
      go_simp
      with_reducible rfl
     rotate_left
     ·simp only [Act.put, List.setIfInBounds_toArray, List.set_cons_zero, List.set_cons_succ, i64_w, i32_w]
      rfl
     refine pure_ (i := 3) (N := some 69) (v := ?_) (a' := ?_) #[false, true, true, true, false, false, false, false] rfl rfl (any_of HT_.out (by kernel_rfl)) (fun _ _ _ h => h) (Or.inl ⟨by rfl, ?_⟩) ?_ ?_
     rotate_left
     ·intro w'
      go_simp
      with_reducible rfl
     rotate_left
     ·simp only [Act.put, List.setIfInBounds_toArray, List.set_cons_zero, List.set_cons_succ, i64_w, i32_w]
      rfl
     refine take_ (i := 4) (N := some 70) (v := ?_) (a' := ?_) #[false, true, true, true, true, false, false, false] rfl rfl (take_ofW HT_.out HW_.out (by kernel_rfl)) (fun _ _ _ h => h) (Or.inl ⟨by rfl, ?_⟩) hHeld ?_ ?_
     rotate_left
     ·rintro w' ⟨s0, s1, s2, s3, s4, s5⟩
      go_simp
      with_reducible rfl
     rotate_left
     ·simp only [Act.put, List.setIfInBounds_toArray, List.set_cons_zero, List.set_cons_succ, i64_w, i32_w]
      rfl
     refine take_ (i := 0) (N := some 66) (v := ?_) (a' := ?_) #[true, true, true, true, true, false, false, false] rfl rfl (take_ofW HT_.out HW_.out (by kernel_rfl)) (fun _ _ _ h => h) (Or.inl ⟨by rfl, ?_⟩) hHeld ?_ ?_
     rotate_left
     ·rintro w' ⟨s0, s1, s2, s3, s4, s5⟩
      go_simp
      with_reducible rfl
     rotate_left
     ·simp only [Act.put, List.setIfInBounds_toArray, List.set_cons_zero, List.set_cons_succ, i64_w, i32_w]
      rfl
     refine one_ (i := 5) (N := none) #[true, true, true, true, true, true, false, false] rfl rfl (one_of HT_.out (by kernel_rfl)) (by decide) (fun K hK => ?_)
     have b0 := (blk_cell K9 0).trans rfl
     have b1 := (blk_cell K9 1).trans rfl
     have b2 := (blk_cell K9 2).trans rfl
     have b3 := (blk_cell K9 3).trans rfl
     have b4 := (blk_cell K9 4).trans rfl
     have y0 := blk_frozen K9 0
     have y1 := blk_frozen K9 1
     have y2 := blk_frozen K9 2
     have y3 := blk_frozen K9 3
     have y4 := blk_frozen K9 4
     have K8 := Aside0.mk K9
     have D8 := Aside0.mk D9
     clear K9 D9
     refine skip_ (w1 := ?_) (by rfl) rfl ?_ ?_
     rotate_left
     ·go_simp
      rfl
     refine hK.out _ _ ⟨((cell_far (p := ⟨w.heap.size, _, none⟩) hgx' _).trans ((cell_far (p := ⟨w.heap.size, _, none⟩) hgx' _).trans ((cell_far (p := ⟨w.heap.size, _, none⟩) hgx' _).trans ((cell_far (p := ⟨w.heap.size, _, none⟩) hgx' _).trans ((cell_far (p := ⟨w.heap.size, _, none⟩) hgx' _).trans hHeld.1))))), ((cell_far (p := ⟨w.heap.size, _, none⟩) hgx' _).trans ((cell_far (p := ⟨w.heap.size, _, none⟩) hgx' _).trans ((cell_far (p := ⟨w.heap.size, _, none⟩) hgx' _).trans ((cell_far (p := ⟨w.heap.size, _, none⟩) hgx' _).trans ((cell_far (p := ⟨w.heap.size, _, none⟩) hgx' _).trans hHeld.2.1))))), ((cell_far (p := ⟨w.heap.size, _, none⟩) hgx' _).trans ((cell_far (p := ⟨w.heap.size, _, none⟩) hgx' _).trans ((cell_far (p := ⟨w.heap.size, _, none⟩) hgx' _).trans ((cell_far (p := ⟨w.heap.size, _, none⟩) hgx' _).trans ((cell_far (p := ⟨w.heap.size, _, none⟩) hgx' _).trans hHeld.2.2.1))))), ((cell_far (p := ⟨w.heap.size, _, none⟩) hgx' _).trans ((cell_far (p := ⟨w.heap.size, _, none⟩) hgx' _).trans ((cell_far (p := ⟨w.heap.size, _, none⟩) hgx' _).trans ((cell_far (p := ⟨w.heap.size, _, none⟩) hgx' _).trans ((cell_far (p := ⟨w.heap.size, _, none⟩) hgx' _).trans hHeld.2.2.2.1))))), ((cell_far (p := ⟨w.heap.size, _, none⟩) hgx' _).trans ((cell_far (p := ⟨w.heap.size, _, none⟩) hgx' _).trans ((cell_far (p := ⟨w.heap.size, _, none⟩) hgx' _).trans ((cell_far (p := ⟨w.heap.size, _, none⟩) hgx' _).trans ((cell_far (p := ⟨w.heap.size, _, none⟩) hgx' _).trans hHeld.2.2.2.2.1))))), ((cell_far (p := ⟨w.heap.size, _, none⟩) hg1 _).trans ((cell_far (p := ⟨w.heap.size, _, none⟩) hg1 _).trans ((cell_far (p := ⟨w.heap.size, _, none⟩) hg1 _).trans ((cell_far (p := ⟨w.heap.size, _, none⟩) hg1 _).trans ((cell_far (p := ⟨w.heap.size, _, none⟩) hg1 _).trans hHeld.2.2.2.2.2)))))⟩ (fun hHeld => ?_)
     clear hK K
     refine pure_ (i := 6) (N := some 3) (v := ?_) (a' := ?_) #[true, true, true, true, true, true, true, false] rfl rfl (any_of HT_.out (by kernel_rfl)) (fun _ _ _ h => h) (Or.inl ⟨by rfl, ?_⟩) ?_ ?_
     rotate_left
     ·intro w'
      go_simp
      with_reducible rfl
     rotate_left
     ·simp only [Act.put, List.setIfInBounds_toArray, List.set_cons_zero, List.set_cons_succ, i64_w, i32_w]
      rfl
     refine pure_ (i := 7) (N := some 4) (v := ?_) (a' := ?_) #[true, true, true, true, true, true, true, true] rfl rfl (any_of HT_.out (by kernel_rfl)) (fun _ _ _ h => h) (Or.inl ⟨by rfl, ?_⟩) ?_ ?_
     rotate_left
     ·intro w'
      go_simp
      with_reducible rfl
     rotate_left
     ·simp only [Act.put, List.setIfInBounds_toArray, List.set_cons_zero, List.set_cons_succ, i64_w, i32_w]
      rfl
     refine done_ (done_of HT_.out (by kernel_rfl)) ?_
     try go_wp2
     refine bodyPost_ret (results_ctt rfl _ _ w.heap.size 24 #[.int .i64 (wrap64 n1_), .int .i64 (wrap64 n2_), .int .i64 (wrap64 n3_), .int .u64 r4, .string r5] (0, 0) _ rfl (put24 K8.out _ _ _ _ _) Tryd.underlying24 rfl (by kernel_rfl)) rfl ?_
     exact ⟨rfl, below24 D8.out _ _ _ _ _⟩
  ·have H1 := H.out
   rw [if_neg hs] at H1
   cases H1
   have c1 : (r7 == 0) = false := beq_eq_false_iff_ne.mpr hs
   have c2 : (r7 != 0) = true := bne_iff_ne.mpr hs
   clear hs
   go_wp2
   refine bodyPost_ret (results_ctt rfl _ _ w.heap.size 24 #[.int .i64 0, .int .i64 0, .int .i64 0, .int .u64 0, .string (⟨#[]⟩ : ByteArray)] (0, 0) _ rfl (put24 BK3.out _ _ _ _ _) Tryd.underlying24 rfl (by kernel_rfl)) rfl ?_
   exact ⟨rfl, below24 hB3.out _ _ _ _ _⟩

end Go.Proofs.YtboommbclbjlnaaDoor.Fn
end
section
-- Written by printx.py, a program of this session over the kit's print: each Go function as a plain Lean function, and that the Go code computes it.

namespace Go.Proofs.YtboommbclbjlnaaDoor.Fn
open Go.RowKit Go.Proofs.YtboommbclbjlnaaDoorW.PrintWords Go.Proofs.YtboommbclbjlnaaDoorW.PrintLast Go.Proofs.YtboommbclbjlnaaDoorW.PrintMore Go.Proofs.YtboommbclbjlnaaDoor.Lf
attribute [local go_sem] max2_int min2_int max_two min_two max_three min_three max_four min_four   -- for this text's walks alone
set_option linter.unusedVariables false
set_option linter.unusedSimpArgs false

/-! ### rootcellarref2_Get: function 57 -/
def rootcellarref2_Get.l0 : Nat → ByteArray → Int → Int → Option (Int)
 | 0, _, _, _ => none
 | k + 1, x0, x3, x4 => if x4 ≥ 0 then (if 0 ≤ x4 then (if x4 < (x0.size : Int) then (rootcellarref2_Get.l0 k x0 (IntKind.u64.wrap ((IntKind.u64.wrap (x3 * 256)) + (IntKind.u64.wrap (bt x0 x4)))) (wrap64 (x4 - 1))) else (none)) else (none)) else (some x3)
def rootcellarref2_Get.f (k : Nat) (a0 : ByteArray) : Option (Int) := rootcellarref2_Get.l0 k a0 0 ((mn (a0.size : Int) 8) - 1)
theorem rootcellarref2_Get.mono_l : ∀ k, (∀ y0 y1 y2, LeO (rootcellarref2_Get.l0 k y0 y1 y2) (rootcellarref2_Get.l0 (k + 1) y0 y1 y2))
 | 0 => fun _ _ _ r h => by simp [rootcellarref2_Get.l0] at h
 | k + 1 => by
  have ih0 := rootcellarref2_Get.mono_l k
  ·intro y0 y1 y2
   unfold rootcellarref2_Get.l0
   repeat' first
   | (with_reducible exact ih0 _ _ _)
   | (with_reducible exact LeO.refl _)
   | (with_reducible exact LeO.none _)
   | (with_reducible refine LeO.ite ?_ ?_)
   | (with_reducible refine LeO.bind ?_ (fun _ => ?_))
   | exact ih0 _ _ _
   | exact LeO.none _
   | refine LeO.ite ?_ ?_
   | refine LeO.bind ?_ (fun _ => ?_)
theorem rootcellarref2_Get.mono : ∀ a0 k, LeO (rootcellarref2_Get.f k a0) (rootcellarref2_Get.f (k + 1) a0) := by
 intro a0 k
 have ih0 := rootcellarref2_Get.mono_l k
 unfold rootcellarref2_Get.f
 repeat' first
   | (with_reducible exact ih0 _ _ _)
   | (with_reducible exact LeO.refl _)
   | (with_reducible exact LeO.none _)
   | (with_reducible refine LeO.ite ?_ ?_)
   | (with_reducible refine LeO.bind ?_ (fun _ => ?_))
   | exact ih0 _ _ _
   | exact LeO.none _
   | refine LeO.ite ?_ ?_
   | refine LeO.bind ?_ (fun _ => ?_)
set_option maxHeartbeats 8000000 in
set_option maxRecDepth 100000 in
theorem rootcellarref2_Get.calls (k : Nat) (a0 : ByteArray) (r : Int) (w : World) (h : rootcellarref2_Get.f k a0 = some r) :
  Calls Tryd.prog 57 #[.string a0] w fun e w' => e = .returned (.int .u64 r) ∧ Below w.heap.size w w' := by
 have HB := Aside0.mk (Below.refl w.heap.size w)
 have H : (rootcellarref2_Get.l0 k a0 0 ((mn (a0.size : Int) 8) - 1)) = some r := h
 clear h
 obtain ⟨ji2, hji2⟩ : ∃ j_ : Int, (mn (a0.size : Int) 8) = j_ := ⟨_, rfl⟩
 replace H : (rootcellarref2_Get.l0 k a0 0 ((ji2) - 1)) = some r := by first | (rw [hji2] at H; exact H) | (simp only [hji2] at H ⊢; exact H)
 (try (have hji2h : ji2 ≤ 8 := by (rw [← hji2]; unfold mn; (repeat' split) <;> omega)))
 (try (have hji2g : ji2 ≤ 64 := by omega))
 (try (have hji2l : 0 ≤ ji2 := by (rw [← hji2]; unfold mn; (repeat' split) <;> omega)))
 (try (have hji2m : 0 ≤ ji2 := by omega))
 have hji2_ : (if 8 < (a0.size : Int) then 8 else (a0.size : Int)) = ji2 := hji2
 have H' := Aside0.mk H
 clear H
 go_enter Tryd.func57, Tryd.ntmps57
 go_wp2
 go_loopg [3, 4] k (fun kq v3 v4 w' => ∃ (x3_1 : Int) (x4_1 : Int), v3 = .int .u64 x3_1 ∧ v4 = .int .i64 x4_1 ∧ Aside0 (rootcellarref2_Get.l0 kq a0 x3_1 x4_1 = some r) ∧ Aside0 (kq ≤ k) ∧ Aside0 (Below w.heap.size w w'))
 case atStart => exact ⟨(0), ((ji2) - 1), (by first | rfl | (simp; done) | (simp [*]; done)), (by first | rfl | (simp; done) | (simp only [← hji2] <;> (first | rfl | simp)) | (simp [*]; done)), H', ⟨Nat.le_refl _⟩, ⟨by repeat (first | (with_reducible first | exact HB.out | apply below_alloc | apply pw_below_drewN | apply below_drew1) | exact HB.out)⟩⟩
 case round =>
  clear H'
  try clear p2
  obtain ⟨x3_1, x4_1, rfl, rfl, HA, HK1, HB⟩ := hrel
  cases gk with
  | zero => exact absurd HA.out (by simp [rootcellarref2_Get.l0])
  | succ k1 =>
   have H := HA.out
   clear HA
   simp only [rootcellarref2_Get.l0] at H
   by_cases c3 : x4_1 ≥ 0
   ·rw [if_pos c3] at H
    have c3b0 : decide (0 ≤ x4_1) = true := decide_eq_true c3
    clear c3
    by_cases c4 : 0 ≤ x4_1
    ·rw [if_pos c4] at H
     have c4b0 : decide (0 ≤ x4_1) = true := decide_eq_true c4
     clear c4
     by_cases c5 : x4_1 < (a0.size : Int)
     ·rw [if_pos c5] at H
      have c5b0 : decide (x4_1 < (a0.size : Int)) = true := decide_eq_true c5
      clear c5
      have H' := Aside0.mk H
      clear H
      have p6 : 0 ≤ (x4_1 : Int) := of_decide_eq_true (by first | (with_reducible assumption) | assumption)
      have q6 : x4_1 < (a0.size : Int) := of_decide_eq_true (by first | (with_reducible assumption) | assumption)
      have hx6 := bt_at a0 x4_1
      replace p6 := eq_true p6
      replace q6 := eq_true q6
      go_wp2
      go_roundg k1
      case measure => have := HK1.out; omega
      case rel => exact ⟨(IntKind.u64.wrap ((IntKind.u64.wrap (x3_1 * 256)) + (IntKind.u64.wrap (bt a0 x4_1)))), (wrap64 (x4_1 - 1)), (by first | rfl | (simp; done) | (simp [*]; done)), (by first | rfl | (simp; done) | (simp [*]; done)), H', ⟨by have := HK1.out; omega⟩, ⟨by repeat (first | (with_reducible first | exact HB.out | apply below_alloc | apply pw_below_drewN | apply below_drew1) | exact HB.out)⟩⟩
     ·rw [if_neg c5] at H
      exact absurd H (by simp)
    ·rw [if_neg c4] at H
     exact absurd H (by simp)
   ·rw [if_neg c3] at H
    have c3b0 : decide (0 ≤ x4_1) = false := decide_eq_false c3
    clear c3
    obtain rfl := Option.some.inj H
    go_wp2
    go_ret
    exact ⟨by first | rfl | (simp [errW_none, errW_some] <;> rfl) | (simp only [← hji2]; first | rfl | (simp [errW_none, errW_some] <;> rfl)) | (simp [*, errW_none, errW_some] <;> rfl), by repeat (first | (with_reducible first | exact HB.out | apply below_alloc | apply pw_below_drewN | apply below_drew1) | exact HB.out)⟩

end Go.Proofs.YtboommbclbjlnaaDoor.Fn
end
section
-- Written by printx.py, a program of this session over the kit's print: each Go function as a plain Lean function, and that the Go code computes it.


namespace Go.Proofs.YtboommbclbjlnaaDoor.Fn
open Go.RowKit Go.Proofs.YtboommbclbjlnaaDoorW.PrintWords Go.Proofs.YtboommbclbjlnaaDoorW.PrintLast Go.Proofs.YtboommbclbjlnaaDoorW.PrintMore Go.Proofs.YtboommbclbjlnaaDoor.Lf
attribute [local go_sem] max2_int min2_int max_two min_two max_three min_three max_four min_four   -- for this text's walks alone
set_option linter.unusedVariables false
set_option linter.unusedSimpArgs false

/-! ### rootcellarref3_Take: function 58 -/
def rootcellarref3_Take.f (k : Nat) (a0 : ByteArray) : Option (ByteArray × Int) := if (a0.size : Int) < 4 then (some ((⟨#[]⟩ : ByteArray), 10)) else (if 0 ≤ (wrap64 ((a0.size : Int) - 4)) then (if (wrap64 ((a0.size : Int) - 4)) ≤ (a0.size : Int) then ((rootcellarref3_Put.f k (a0.extract 0 ((wrap64 ((a0.size : Int) - 4)) : Int).toNat)).bind fun t158 => (if t158.toList = a0.toList then (some (a0.extract 0 ((wrap64 ((a0.size : Int) - 4)) : Int).toNat, 0)) else (some ((⟨#[]⟩ : ByteArray), 9)))) else (none)) else (none))
theorem rootcellarref3_Take.mono : ∀ a0 k, LeO (rootcellarref3_Take.f k a0) (rootcellarref3_Take.f (k + 1) a0) := by
 intro a0 k
 unfold rootcellarref3_Take.f
 repeat' first
   | (with_reducible exact rootcellarref3_Put.mono _ _)
   | (with_reducible exact LeO.refl _)
   | (with_reducible exact LeO.none _)
   | (with_reducible refine LeO.ite ?_ ?_)
   | (with_reducible refine LeO.bind ?_ (fun _ => ?_))
   | exact rootcellarref3_Put.mono _ _
   | exact LeO.none _
   | refine LeO.ite ?_ ?_
   | refine LeO.bind ?_ (fun _ => ?_)
set_option maxHeartbeats 8000000 in
set_option maxRecDepth 100000 in
theorem rootcellarref3_Take.calls (k : Nat) (a0 : ByteArray) (r1 : ByteArray) (r2 : Int) (w : World) (h : rootcellarref3_Take.f k a0 = some (r1, r2)) :
  Calls Tryd.prog 58 #[.string a0] w fun e w' => e = .returned (.tuple #[.string r1, .int .i64 r2]) ∧ Below w.heap.size w w' := by
 have HB := Aside0.mk (Below.refl w.heap.size w)
 have H : (if (a0.size : Int) < 4 then (some ((⟨#[]⟩ : ByteArray), 10)) else (if 0 ≤ (wrap64 ((a0.size : Int) - 4)) then (if (wrap64 ((a0.size : Int) - 4)) ≤ (a0.size : Int) then ((rootcellarref3_Put.f k (a0.extract 0 ((wrap64 ((a0.size : Int) - 4)) : Int).toNat)).bind fun t158 => (if t158.toList = a0.toList then (some (a0.extract 0 ((wrap64 ((a0.size : Int) - 4)) : Int).toNat, 0)) else (some ((⟨#[]⟩ : ByteArray), 9)))) else (none)) else (none))) = some (r1, r2) := h
 clear h
 by_cases c2 : (a0.size : Int) < 4
 ·rw [if_pos c2] at H
  have c2b0 : decide ((a0.size : Int) < 4) = true := decide_eq_true c2
  have c2b1 : decide (a0.size < 4) = true := decide_eq_true (by omega)
  clear c2
  simp only [Option.some.injEq, Prod.mk.injEq] at H
  obtain ⟨rfl, rfl⟩ := H
  go_enter Tryd.func58, Tryd.ntmps58
  go_wp2
  go_ret2
  exact ⟨by first | rfl | (simp [errW_none, errW_some] <;> rfl) | (simp [*, errW_none, errW_some] <;> rfl), by repeat (first | (with_reducible first | exact HB.out | apply below_alloc | apply pw_below_drewN | apply below_drew1) | exact HB.out)⟩
 ·rw [if_neg c2] at H
  have c2b0 : decide ((a0.size : Int) < 4) = false := decide_eq_false c2
  have c2b1 : decide (a0.size < 4) = false := decide_eq_false (by omega)
  clear c2
  obtain ⟨ji3, hji3⟩ : ∃ j_ : Int, (wrap64 ((a0.size : Int) - 4)) = j_ := ⟨_, rfl⟩
  replace H : (if 0 ≤ (ji3) then (if (ji3) ≤ (a0.size : Int) then ((rootcellarref3_Put.f k (a0.extract 0 ((ji3) : Int).toNat)).bind fun t158 => (if t158.toList = a0.toList then (some (a0.extract 0 ((ji3) : Int).toNat, 0)) else (some ((⟨#[]⟩ : ByteArray), 9)))) else (none)) else (none)) = some (r1, r2) := by first | (rw [hji3] at H; exact H) | (simp only [hji3] at H ⊢; exact H)
  have hji3w : (IntKind.i64.wrap ((a0.size : Int) - 4)) = ji3 := (i64_w _).trans hji3
  by_cases c4 : 0 ≤ (ji3)
  ·rw [if_pos c4] at H
   have c4b0 := eq_true c4
   have c4b1 : decide (0 ≤ (ji3)) = true := decide_eq_true c4
   clear c4
   by_cases c5 : (ji3) ≤ (a0.size : Int)
   ·rw [if_pos c5] at H
    have c5b0 := eq_true c5
    have c5b1 : decide ((ji3) ≤ (a0.size : Int)) = true := decide_eq_true c5
    clear c5
    replace H := Option.bind_eq_some_iff.mp H
    obtain ⟨t158, A60, H⟩ := H
    replace H : (if t158.toList = a0.toList then (some (a0.extract 0 ((ji3) : Int).toNat, 0)) else (some ((⟨#[]⟩ : ByteArray), 9))) = some (r1, r2) := H
    have A6 := Aside0.mk A60
    clear A60
    by_cases c7 : t158.toList = a0.toList
    ·rw [if_pos c7] at H
     have c7b0 : (t158.toList == a0.toList) = true := beq_iff_eq.mpr c7
     have c7b1 : (t158.toList != a0.toList) = false := bne_eq_false_iff_eq.mpr c7
     clear c7
     simp only [Option.some.injEq, Prod.mk.injEq] at H
     obtain ⟨rfl, rfl⟩ := H
     go_enter Tryd.func58, Tryd.ntmps58
     go_wp2_with (first | ((with_reducible refine gate_callee (f := 48) rfl ?_); refine goesL_ (some 14) rfl rfl Tryd.func48 (by kernel_rfl) rfl #[.string (a0.extract 0 ((ji3) : Int).toNat)] rfl (by (try simp only [List.map_toArray, List.map_cons, List.map_nil]); first | done | (simp only [hji3]; rfl) | rfl | (simp only [List.length_drop, List.length_take]; rfl) | (rw [wrap_sum2 (by assumption)]; rfl)) ?_; (with_reducible refine (rootcellarref3_Put.calls k (a0.extract 0 ((ji3) : Int).toNat) t158 _ A6.out).mono ?_); rintro e w8 ⟨rfl, hb⟩; refine ⟨_, rfl, ?_⟩; have n0_ := Aside0.mk (below_step (by repeat (first | (with_reducible first | exact HB.out | apply below_alloc | apply pw_below_drewN | apply below_drew1) | exact HB.out)) hb); clear HB; have HB := n0_; clear n0_; (try clear hb); (try clear hb2); (try clear hk); (try clear hi)))
     go_ret2
     exact ⟨by first | rfl | (simp [errW_none, errW_some] <;> rfl) | (simp only [← hji3]; first | rfl | (simp [errW_none, errW_some] <;> rfl)) | (simp [*, errW_none, errW_some] <;> rfl), by repeat (first | (with_reducible first | exact HB.out | apply below_alloc | apply pw_below_drewN | apply below_drew1) | exact HB.out)⟩
    ·rw [if_neg c7] at H
     have c7b0 : (t158.toList == a0.toList) = false := beq_eq_false_iff_ne.mpr c7
     have c7b1 : (t158.toList != a0.toList) = true := bne_iff_ne.mpr c7
     simp only [Option.some.injEq, Prod.mk.injEq] at H
     obtain ⟨rfl, rfl⟩ := H
     go_enter Tryd.func58, Tryd.ntmps58
     go_wp2_with (first | ((with_reducible refine gate_callee (f := 48) rfl ?_); refine goesL_ (some 14) rfl rfl Tryd.func48 (by kernel_rfl) rfl #[.string (a0.extract 0 ((ji3) : Int).toNat)] rfl (by (try simp only [List.map_toArray, List.map_cons, List.map_nil]); first | done | (simp only [hji3]; rfl) | rfl | (simp only [List.length_drop, List.length_take]; rfl) | (rw [wrap_sum2 (by assumption)]; rfl)) ?_; (with_reducible refine (rootcellarref3_Put.calls k (a0.extract 0 ((ji3) : Int).toNat) t158 _ A6.out).mono ?_); rintro e w9 ⟨rfl, hb⟩; refine ⟨_, rfl, ?_⟩; have n0_ := Aside0.mk (below_step (by repeat (first | (with_reducible first | exact HB.out | apply below_alloc | apply pw_below_drewN | apply below_drew1) | exact HB.out)) hb); clear HB; have HB := n0_; clear n0_; (try clear hb); (try clear hb2); (try clear hk); (try clear hi)))
     go_ret2
     exact ⟨by first | rfl | (simp [errW_none, errW_some] <;> rfl) | (simp only [← hji3]; first | rfl | (simp [errW_none, errW_some] <;> rfl)) | (simp [*, errW_none, errW_some] <;> rfl), by repeat (first | (with_reducible first | exact HB.out | apply below_alloc | apply pw_below_drewN | apply below_drew1) | exact HB.out)⟩
   ·rw [if_neg c5] at H
    exact absurd H (by simp)
  ·rw [if_neg c4] at H
   exact absurd H (by simp)

end Go.Proofs.YtboommbclbjlnaaDoor.Fn
end
section
-- Written by printx.py, a program of this session over the kit's print: each Go function as a plain Lean function, and that the Go code computes it.


namespace Go.Proofs.YtboommbclbjlnaaDoor.Fn
open Go.RowKit Go.Proofs.YtboommbclbjlnaaDoorW.PrintWords Go.Proofs.YtboommbclbjlnaaDoorW.PrintLast Go.Proofs.YtboommbclbjlnaaDoorW.PrintMore Go.Proofs.YtboommbclbjlnaaDoor.Lf
attribute [local go_sem] max2_int min2_int max_two min_two max_three min_three max_four min_four   -- for this text's walks alone
set_option linter.unusedVariables false
set_option linter.unusedSimpArgs false

/-! ### rootcellarlaw12_shown: function 17 -/
def rootcellarlaw12_shown.f (k : Nat)  : Option (Bool) := (step_Put.f k 3 5 0 0 (⟨#[]⟩ : ByteArray)).bind fun bt115 => (if bt115.2 = 0 then (if (bt115.1.size : Int) = 23 then (if 0 ≤ 19 then (if 19 ≤ (bt115.1.size : Int) then (some ((bt115.1.extract 0 19).toList == ([21, 0, 3, 5, 0, 0, 0, 0, 0, 0, 0, 0, 0, 0, 0, 0, 0, 0, 0] : List UInt8))) else (none)) else (none)) else (some false)) else (some false))
theorem rootcellarlaw12_shown.mono : ∀ k, LeO (rootcellarlaw12_shown.f k ) (rootcellarlaw12_shown.f (k + 1) ) := by
 intro  k
 unfold rootcellarlaw12_shown.f
 repeat' first
   | (with_reducible exact step_Put.mono _ _ _ _ _ _)
   | (with_reducible exact LeO.refl _)
   | (with_reducible exact LeO.none _)
   | (with_reducible refine LeO.ite ?_ ?_)
   | (with_reducible refine LeO.bind ?_ (fun _ => ?_))
   | exact step_Put.mono _ _ _ _ _ _
   | exact LeO.none _
   | refine LeO.ite ?_ ?_
   | refine LeO.bind ?_ (fun _ => ?_)
set_option maxHeartbeats 8000000 in
set_option maxRecDepth 100000 in
theorem rootcellarlaw12_shown.calls (k : Nat)  (r : Bool) (w : World) (h : rootcellarlaw12_shown.f k  = some r) (HT : Tabs w) :
  Calls Tryd.prog 17 #[] w fun e w' => e = .returned (.bool r) ∧ Below w.heap.size w w' := by
 have hu24 := Tryd.underlying24
 have HB := Aside0.mk (Below.refl w.heap.size w)
 have H : ((step_Put.f k 3 5 0 0 (⟨#[]⟩ : ByteArray)).bind fun bt115 => (if bt115.2 = 0 then (if (bt115.1.size : Int) = 23 then (if 0 ≤ 19 then (if 19 ≤ (bt115.1.size : Int) then (some ((bt115.1.extract 0 19).toList == ([21, 0, 3, 5, 0, 0, 0, 0, 0, 0, 0, 0, 0, 0, 0, 0, 0, 0, 0] : List UInt8))) else (none)) else (none)) else (some false)) else (some false))) = some r := h
 clear h
 replace H := Option.bind_eq_some_iff.mp H
 obtain ⟨⟨t115, t116⟩, A10, H⟩ := H
 replace H : (if t116 = 0 then (if (t115.size : Int) = 23 then (if 0 ≤ 19 then (if 19 ≤ (t115.size : Int) then (some ((t115.extract 0 19).toList == ([21, 0, 3, 5, 0, 0, 0, 0, 0, 0, 0, 0, 0, 0, 0, 0, 0, 0, 0] : List UInt8))) else (none)) else (none)) else (some false)) else (some false)) = some r := H
 have A1 := Aside0.mk A10
 clear A10
 by_cases c2 : t116 = 0
 ·rw [if_pos c2] at H
  have c2b0 : (t116 == 0) = true := beq_iff_eq.mpr c2
  have c2b1 : (t116 != 0) = false := bne_eq_false_iff_eq.mpr c2
  clear c2
  by_cases c3 : (t115.size : Int) = 23
  ·rw [if_pos c3] at H
   have c3b0 : ((t115.size : Int) == 23) = true := beq_iff_eq.mpr c3
   have c3b1 : ((t115.size : Int) != 23) = false := bne_eq_false_iff_eq.mpr c3
   clear c3
   by_cases c4 : 0 ≤ 19
   ·rw [if_pos c4] at H
    have c4b0 := eq_true c4
    have c4b1 : decide (0 ≤ 19) = true := decide_eq_true c4
    clear c4
    by_cases c5 : 19 ≤ (t115.size : Int)
    ·rw [if_pos c5] at H
     have c5b0 := eq_true c5
     have c5b1 : decide (19 ≤ (t115.size : Int)) = true := decide_eq_true c5
     clear c5
     obtain rfl := Option.some.inj H
     go_enter Tryd.func17, Tryd.ntmps17
     go_wp2_with (first | ((with_reducible refine gate_callee (f := 19) rfl ?_); refine goesL_ (some 5) rfl rfl Tryd.func19 (by kernel_rfl) rfl #[.agg #[.int .i64 3, .int .i64 5, .int .i64 0, .int .u64 0, .string (⟨#[]⟩ : ByteArray)]] rfl (by (try simp only [List.map_toArray, List.map_cons, List.map_nil]); first | done | rfl | (simp only [List.length_drop, List.length_take]; rfl) | (rw [wrap_sum2 (by assumption)]; rfl)) ?_; (with_reducible refine (step_Put.calls k 3 5 0 0 (⟨#[]⟩ : ByteArray) t115 t116 _ A1.out (HT.below (by repeat (first | (with_reducible first | exact HB.out | apply below_alloc | apply pw_below_drewN | apply below_drew1) | exact HB.out)))).mono ?_); rintro e w6 ⟨rfl, hb⟩; refine ⟨_, rfl, ?_⟩; have n0_ := Aside0.mk (below_step (by repeat (first | (with_reducible first | exact HB.out | apply below_alloc | apply pw_below_drewN | apply below_drew1) | exact HB.out)) hb); clear HB; have HB := n0_; clear n0_; (try clear hb); (try clear hb2); (try clear hk); (try clear hi)))
     go_ret
     exact ⟨by first | rfl | (simp [errW_none, errW_some] <;> rfl) | (simp [*, errW_none, errW_some] <;> rfl), by repeat (first | (with_reducible first | exact HB.out | apply below_alloc | apply pw_below_drewN | apply below_drew1) | exact HB.out)⟩
    ·rw [if_neg c5] at H
     exact absurd H (by simp)
   ·rw [if_neg c4] at H
    exact absurd H (by simp)
  ·rw [if_neg c3] at H
   have c3b0 : ((t115.size : Int) == 23) = false := beq_eq_false_iff_ne.mpr c3
   have c3b1 : ((t115.size : Int) != 23) = true := bne_iff_ne.mpr c3
   obtain rfl := Option.some.inj H
   go_enter Tryd.func17, Tryd.ntmps17
   go_wp2_with (first | ((with_reducible refine gate_callee (f := 19) rfl ?_); refine goesL_ (some 5) rfl rfl Tryd.func19 (by kernel_rfl) rfl #[.agg #[.int .i64 3, .int .i64 5, .int .i64 0, .int .u64 0, .string (⟨#[]⟩ : ByteArray)]] rfl (by (try simp only [List.map_toArray, List.map_cons, List.map_nil]); first | done | rfl | (simp only [List.length_drop, List.length_take]; rfl) | (rw [wrap_sum2 (by assumption)]; rfl)) ?_; (with_reducible refine (step_Put.calls k 3 5 0 0 (⟨#[]⟩ : ByteArray) t115 t116 _ A1.out (HT.below (by repeat (first | (with_reducible first | exact HB.out | apply below_alloc | apply pw_below_drewN | apply below_drew1) | exact HB.out)))).mono ?_); rintro e w7 ⟨rfl, hb⟩; refine ⟨_, rfl, ?_⟩; have n0_ := Aside0.mk (below_step (by repeat (first | (with_reducible first | exact HB.out | apply below_alloc | apply pw_below_drewN | apply below_drew1) | exact HB.out)) hb); clear HB; have HB := n0_; clear n0_; (try clear hb); (try clear hb2); (try clear hk); (try clear hi)))
   go_ret
   exact ⟨by first | rfl | (simp [errW_none, errW_some] <;> rfl) | (simp [*, errW_none, errW_some] <;> rfl), by repeat (first | (with_reducible first | exact HB.out | apply below_alloc | apply pw_below_drewN | apply below_drew1) | exact HB.out)⟩
 ·rw [if_neg c2] at H
  have c2b0 : (t116 == 0) = false := beq_eq_false_iff_ne.mpr c2
  have c2b1 : (t116 != 0) = true := bne_iff_ne.mpr c2
  obtain rfl := Option.some.inj H
  go_enter Tryd.func17, Tryd.ntmps17
  go_wp2_with (first | ((with_reducible refine gate_callee (f := 19) rfl ?_); refine goesL_ (some 5) rfl rfl Tryd.func19 (by kernel_rfl) rfl #[.agg #[.int .i64 3, .int .i64 5, .int .i64 0, .int .u64 0, .string (⟨#[]⟩ : ByteArray)]] rfl (by (try simp only [List.map_toArray, List.map_cons, List.map_nil]); first | done | rfl | (simp only [List.length_drop, List.length_take]; rfl) | (rw [wrap_sum2 (by assumption)]; rfl)) ?_; (with_reducible refine (step_Put.calls k 3 5 0 0 (⟨#[]⟩ : ByteArray) t115 t116 _ A1.out (HT.below (by repeat (first | (with_reducible first | exact HB.out | apply below_alloc | apply pw_below_drewN | apply below_drew1) | exact HB.out)))).mono ?_); rintro e w8 ⟨rfl, hb⟩; refine ⟨_, rfl, ?_⟩; have n0_ := Aside0.mk (below_step (by repeat (first | (with_reducible first | exact HB.out | apply below_alloc | apply pw_below_drewN | apply below_drew1) | exact HB.out)) hb); clear HB; have HB := n0_; clear n0_; (try clear hb); (try clear hb2); (try clear hk); (try clear hi)))
  go_ret
  exact ⟨by first | rfl | (simp [errW_none, errW_some] <;> rfl) | (simp [*, errW_none, errW_some] <;> rfl), by repeat (first | (with_reducible first | exact HB.out | apply below_alloc | apply pw_below_drewN | apply below_drew1) | exact HB.out)⟩


end Go.Proofs.YtboommbclbjlnaaDoor.Fn
end
section
-- Written by printx.py, a program of this session over the kit's print: each Go function as a plain Lean function, and that the Go code computes it.

namespace Go.Proofs.YtboommbclbjlnaaDoor.Fn
open Go.RowKit Go.Proofs.YtboommbclbjlnaaDoorW.PrintWords Go.Proofs.YtboommbclbjlnaaDoorW.PrintLast Go.Proofs.YtboommbclbjlnaaDoorW.PrintMore Go.Proofs.YtboommbclbjlnaaDoor.Lf
attribute [local go_sem] max2_int min2_int max_two min_two max_three min_three max_four min_four   -- for this text's walks alone
set_option linter.unusedVariables false
set_option linter.unusedSimpArgs false

/-! ### rootcellarlaw12_steps: function 18 -/
def rootcellarlaw12_steps.l0 : Nat → List (S24) → List (S26) → Int → Option ((List (S26)))
 | 0, _, _, _ => none
 | k + 1, x0, x3, x4 => if x4 < (x0.length : Int) then (if 0 ≤ x4 then (if x3.length < 2932031007402 then (rootcellarlaw12_steps.l0 k x0 (x3 ++ [(⟨(rd_T24 x0 x4).f0, (rd_T24 x0 x4).f1, (rd_T24 x0 x4).f2, (rd_T24 x0 x4).f3, (rd_T24 x0 x4).f4⟩ : S26)]) (wrap64 (x4 + 1))) else (none)) else (none)) else (some x3)
def rootcellarlaw12_steps.f (k : Nat) (l0 : List (S24)) : Option ((List (S26))) := rootcellarlaw12_steps.l0 k l0 ([] : List (S26)) 0
theorem rootcellarlaw12_steps.mono_l : ∀ k, (∀ y0 y1 y2, LeO (rootcellarlaw12_steps.l0 k y0 y1 y2) (rootcellarlaw12_steps.l0 (k + 1) y0 y1 y2))
 | 0 => fun _ _ _ r h => by simp [rootcellarlaw12_steps.l0] at h
 | k + 1 => by
  have ih0 := rootcellarlaw12_steps.mono_l k
  ·intro y0 y1 y2
   unfold rootcellarlaw12_steps.l0
   repeat' first
   | (with_reducible exact ih0 _ _ _)
   | (with_reducible exact LeO.refl _)
   | (with_reducible exact LeO.none _)
   | (with_reducible refine LeO.ite ?_ ?_)
   | (with_reducible refine LeO.bind ?_ (fun _ => ?_))
   | exact ih0 _ _ _
   | exact LeO.none _
   | refine LeO.ite ?_ ?_
   | refine LeO.bind ?_ (fun _ => ?_)
theorem rootcellarlaw12_steps.mono : ∀ a0 k, LeO (rootcellarlaw12_steps.f k a0) (rootcellarlaw12_steps.f (k + 1) a0) := by
 intro a0 k
 have ih0 := rootcellarlaw12_steps.mono_l k
 unfold rootcellarlaw12_steps.f
 repeat' first
   | (with_reducible exact ih0 _ _ _)
   | (with_reducible exact LeO.refl _)
   | (with_reducible exact LeO.none _)
   | (with_reducible refine LeO.ite ?_ ?_)
   | (with_reducible refine LeO.bind ?_ (fun _ => ?_))
   | exact ih0 _ _ _
   | exact LeO.none _
   | refine LeO.ite ?_ ?_
   | refine LeO.bind ?_ (fun _ => ?_)
set_option maxHeartbeats 8000000 in
set_option maxRecDepth 100000 in
theorem rootcellarlaw12_steps.calls (k : Nat) (A0 : Option Addr) (c0 : Nat) (l0 : List (S24)) (r : List (S26)) (w : World) (hr0 : Kd.C k24 w A0 l0.length l0) (hc0 : l0.length ≤ c0) (h : rootcellarlaw12_steps.f k l0 = some r) :
  Calls Tryd.prog 18 #[.slice A0 l0.length c0] w fun e w' => ∃ v0_ : Value, e = .returned (v0_) ∧ Kd.R k26 26 w' w.heap.size (fun _ => True) v0_ r ∧ Below w.heap.size w w' := by
 have hu24 := Tryd.underlying24
 have hu26 := Tryd.underlying26
 have HR0 := Aside0.mk hr0
 have HC0 := Aside0.mk hc0
 clear hr0 hc0
 have HB := Aside0.mk (Below.refl w.heap.size w)
 have H : (rootcellarlaw12_steps.l0 k l0 ([] : List (S26)) 0) = some r := h
 clear h
 have H' := Aside0.mk H
 clear H
 go_enter Tryd.func18, Tryd.ntmps18
 go_wp2
 go_loopg [3, 4] k (fun kq v3 v4 w' => ∃ (x3_1 : List (S26)) (x4_1 : Int), v4 = .int .i64 x4_1 ∧ Aside0 (rootcellarlaw12_steps.l0 kq l0 x3_1 x4_1 = some r) ∧ Aside0 (kq ≤ k) ∧ Aside0 (Kd.R k26 26 w' w.heap.size (fun _ => True) v3 x3_1) ∧ Aside0 (Below w.heap.size w w'))
 case atStart => exact ⟨(([] : List (S26))), (0), (by first | rfl | (simp; done) | (simp [*]; done)), H', ⟨Nat.le_refl _⟩, ⟨by first | exact Kd.R_nil _ _ _ _ _ | exact Kd.N_nil _ _ _ _ _ | exact Kd.V_nil _ _ _ _ _ | exact Kd.Q_nil _ _ _ _ _ | exact Kd.S_nil _ _ _ _ _⟩, ⟨by repeat (first | (with_reducible first | exact HB.out | apply below_alloc | apply pw_below_drewN | apply below_drew1) | exact HB.out)⟩⟩
 case round =>
  clear H'
  try clear c1
  obtain ⟨x3_1, x4_1, rfl, HA, HK1, HO_3, HB⟩ := hrel
  cases gk with
  | zero => exact absurd HA.out (by simp [rootcellarlaw12_steps.l0])
  | succ k1 =>
   have H := HA.out
   clear HA
   simp only [rootcellarlaw12_steps.l0] at H
   by_cases c2 : x4_1 < (l0.length : Int)
   ·rw [if_pos c2] at H
    have c2b0 : decide (x4_1 < (l0.length : Int)) = true := decide_eq_true c2
    clear c2
    by_cases c3 : 0 ≤ x4_1
    ·rw [if_pos c3] at H
     have c3b0 : decide (0 ≤ x4_1) = true := decide_eq_true c3
     clear c3
     by_cases c4 : x3_1.length < 2932031007402
     ·rw [if_pos c4] at H
      have LMc4 := Aside0.mk c4
      clear c4
      obtain ⟨y215, hy215⟩ : ∃ y_ : List (S26), y_ = (x3_1 ++ [(⟨(rd_T24 l0 x4_1).f0, (rd_T24 l0 x4_1).f1, (rd_T24 l0 x4_1).f2, (rd_T24 l0 x4_1).f3, (rd_T24 l0 x4_1).f4⟩ : S26)]) := ⟨_, rfl⟩
      replace H : (rootcellarlaw12_steps.l0 k1 l0 y215 (wrap64 (x4_1 + 1))) = some r := by first | (rw [hy215]; with_reducible exact H) | (have H2_ := (Option.bind_some _ _).symm.trans H; rw [hy215]; with_reducible exact H2_) | (have H2_ := (Option.bind_some _ _).symm.trans H; with_reducible exact H2_) | with_reducible exact H | (rw [hy215]; exact H) | exact H
      have Ny215 := Aside0.mk hy215
      clear hy215
      have H' := Aside0.mk H
      clear H
      have p213 : 0 ≤ (x4_1 : Int) := of_decide_eq_true (by first | (with_reducible assumption) | assumption)
      have q213 : x4_1 < (l0.length : Int) := of_decide_eq_true (by first | (with_reducible assumption) | assumption)
      obtain ⟨ad213, e213, hx213_0, hx213_1, hx213_2, hx213_3, hx213_4⟩ := at_T24 HR0.out x4_1 p213 q213
      cases e213
      replace hx213_0 := (HB.out.cell (World.block_lt_of_cell? w _ hx213_0)).trans hx213_0
      replace hx213_1 := (HB.out.cell (World.block_lt_of_cell? w _ hx213_1)).trans hx213_1
      replace hx213_2 := (HB.out.cell (World.block_lt_of_cell? w _ hx213_2)).trans hx213_2
      replace hx213_3 := (HB.out.cell (World.block_lt_of_cell? w _ hx213_3)).trans hx213_3
      replace hx213_4 := (HB.out.cell (World.block_lt_of_cell? w _ hx213_4)).trans hx213_4
      replace p213 := eq_true p213
      replace q213 := eq_true q213
      go_wp2_with (first | ((with_reducible refine gate_dst (N := 5) rfl ?_); refine box_event ?hg (N := 5) ?hd (cs := #[.int .i64 0, .int .i64 0, .int .i64 0, .int .u64 0, .string (⟨#[]⟩ : ByteArray)]) (t := 24) ?hr ?_; (case hd => rfl); (case hg => rfl); (case hr => first | (go_simp; done) | (go_simp; rfl)); intro gb214 hg w5 hbox hb; have n0_ := Aside0.mk (Kd.R_below (by (with_reducible repeat (first | apply Kd.R_alloc | apply Kd.R_drewN | apply Kd.R_drew)); exact HO_3.out) hb); have n1_ := Aside0.mk (below_step (by repeat (first | (with_reducible first | exact HB.out | apply below_alloc | apply pw_below_drewN | apply below_drew1) | exact HB.out)) hb); have n2_ := Aside0.mk (hbox); have n3_ := Aside0.mk ((by rw [hg]; exact (below_size (by repeat (first | (with_reducible first | exact HB.out | apply below_alloc | apply pw_below_drewN | apply below_drew1) | exact HB.out))) : w.heap.size ≤ gb214)); have n4_ := Aside0.mk ((by rw [hg]; exact (below_size (by repeat (first | (with_reducible first | exact HB.out | apply below_alloc | apply pw_below_drewN | apply below_drew1) | exact HB.out))) : w.heap.size ≤ gb214)); clear HO_3; clear HB; have HO_3 := n0_; have HB := n1_; have BK214 := n2_; have GW214 := n3_; have GE214 := n4_; clear n0_ n1_ n2_ n3_ n4_; clear hb hbox hg; have hcz6_0 : w5.cell? ⟨gb214, 0, none⟩ = some (.int .i64 0) := (blk_cell BK214.out 0).trans rfl; have hcz6_1 : w5.cell? ⟨gb214, 1, none⟩ = some (.int .i64 0) := (blk_cell BK214.out 1).trans rfl; have hcz6_2 : w5.cell? ⟨gb214, 2, none⟩ = some (.int .i64 0) := (blk_cell BK214.out 2).trans rfl; have hcz6_3 : w5.cell? ⟨gb214, 3, none⟩ = some (.int .u64 0) := (blk_cell BK214.out 3).trans rfl; have hcz6_4 : w5.cell? ⟨gb214, 4, none⟩ = some (.string (⟨#[]⟩ : ByteArray)) := (blk_cell BK214.out 4).trans rfl; have hfz6_0 := blk_frozen BK214.out 0; have hfz6_1 := blk_frozen BK214.out 1; have hfz6_2 := blk_frozen BK214.out 2; have hfz6_3 := blk_frozen BK214.out 3; have hfz6_4 := blk_frozen BK214.out 4) | ((with_reducible refine gate_builtin (b := .append) (xs := #[.tmp 16, .tmp 28]) rfl ?_); at_builtin; refine Kd.R_append k26 (w0 := w) w.heap.size rfl (.tmp 16) (.tmp 28) 27 26 (.agg #[(.int .i64 0), (.int .i64 0), (.int .i64 0), (.int .u64 0), (.string ⟨#[]⟩)]) 48 rfl Tryd.underlying27 info26 rfl (by decide) (by omega) u3 x3_1 (⟨(rd_T24 l0 x4_1).f0, (rd_T24 l0 x4_1).f1, (rd_T24 l0 x4_1).f2, (rd_T24 l0 x4_1).f3, (rd_T24 l0 x4_1).f4⟩ : S26) [.int .i64 ((rd_T24 l0 x4_1).f0), .int .i64 ((rd_T24 l0 x4_1).f1), .int .i64 ((rd_T24 l0 x4_1).f2), .int .u64 ((rd_T24 l0 x4_1).f3), .string ((rd_T24 l0 x4_1).f4)] (fun _ => True) (fun _ => False) rfl (by first | (go_simp; done) | (go_simp; rfl)) ?aP (fun _ hk => hk.elim) ?aF ?aO ?aB ?aS ?aL ?_; (case aP => exact k26_mkM _ _ _ (⟨(rd_T24 l0 x4_1).f0, (rd_T24 l0 x4_1).f1, (rd_T24 l0 x4_1).f2, (rd_T24 l0 x4_1).f3, (rd_T24 l0 x4_1).f4⟩ : S26)); (case aB => exact (by repeat (first | (with_reducible first | exact HB.out | apply below_alloc | apply pw_below_drewN | apply below_drew1 | refine below_set ?_ GE214.out) | exact HB.out))); (case aF => exact (fun _ _ => trivial)); (case aO => exact (by (with_reducible repeat (first | apply Kd.R_alloc | apply Kd.R_drewN | apply Kd.R_drew)); exact Kd.R_mono (Kd.R_far (p := ⟨gb214, 4, none⟩) (Kd.R_far (p := ⟨gb214, 3, none⟩) (Kd.R_far (p := ⟨gb214, 2, none⟩) (Kd.R_far (p := ⟨gb214, 1, none⟩) (Kd.R_far (p := ⟨gb214, 0, none⟩) (Kd.R_types HO_3.out BK214.out (by decide)) (fun _ hk => hk.2) (.int .i64 ((rd_T24 l0 x4_1).f0))) (fun _ hk => hk.2) (.int .i64 ((rd_T24 l0 x4_1).f1))) (fun _ hk => hk.2) (.int .i64 ((rd_T24 l0 x4_1).f2))) (fun _ hk => hk.2) (.int .u64 ((rd_T24 l0 x4_1).f3))) (fun _ hk => hk.2) (.string ((rd_T24 l0 x4_1).f4))) (fun _ hk => trivial))); (case aS => exact (below_size (by repeat (first | (with_reducible first | exact HB.out | apply below_alloc | apply pw_below_drewN | apply below_drew1 | refine below_set ?_ GE214.out) | exact HB.out)))); (case aL => have := LMc4.out; omega); intro v216 w7 ho hb hg hat; rw [← Ny215.out] at ho; have n0_ := Aside0.mk (blk_grown (g := gb214) (o := .cells #[.int .i64 ((rd_T24 l0 x4_1).f0), .int .i64 ((rd_T24 l0 x4_1).f1), .int .i64 ((rd_T24 l0 x4_1).f2), .int .u64 ((rd_T24 l0 x4_1).f3), .string ((rd_T24 l0 x4_1).f4)] 24 (0, 0)) (by (with_reducible repeat (first | refine blk_drewN ?_ _ | refine blk_drew ?_ | refine blk_alloc ?_ _)); refine blk_put (cs := #[.int .i64 ((rd_T24 l0 x4_1).f0), .int .i64 ((rd_T24 l0 x4_1).f1), .int .i64 ((rd_T24 l0 x4_1).f2), .int .u64 ((rd_T24 l0 x4_1).f3), .string (⟨#[]⟩ : ByteArray)]) ?_ 4 _ rfl; (with_reducible repeat (first | refine blk_drewN ?_ _ | refine blk_drew ?_ | refine blk_alloc ?_ _)); refine blk_put (cs := #[.int .i64 ((rd_T24 l0 x4_1).f0), .int .i64 ((rd_T24 l0 x4_1).f1), .int .i64 ((rd_T24 l0 x4_1).f2), .int .u64 0, .string (⟨#[]⟩ : ByteArray)]) ?_ 3 _ rfl; (with_reducible repeat (first | refine blk_drewN ?_ _ | refine blk_drew ?_ | refine blk_alloc ?_ _)); refine blk_put (cs := #[.int .i64 ((rd_T24 l0 x4_1).f0), .int .i64 ((rd_T24 l0 x4_1).f1), .int .i64 0, .int .u64 0, .string (⟨#[]⟩ : ByteArray)]) ?_ 2 _ rfl; (with_reducible repeat (first | refine blk_drewN ?_ _ | refine blk_drew ?_ | refine blk_alloc ?_ _)); refine blk_put (cs := #[.int .i64 ((rd_T24 l0 x4_1).f0), .int .i64 0, .int .i64 0, .int .u64 0, .string (⟨#[]⟩ : ByteArray)]) ?_ 1 _ rfl; (with_reducible repeat (first | refine blk_drewN ?_ _ | refine blk_drew ?_ | refine blk_alloc ?_ _)); refine blk_put (cs := #[.int .i64 0, .int .i64 0, .int .i64 0, .int .u64 0, .string (⟨#[]⟩ : ByteArray)]) ?_ 0 _ rfl; (with_reducible repeat (first | refine blk_drewN ?_ _ | refine blk_drew ?_ | refine blk_alloc ?_ _)); exact BK214.out) hg (Kd.R_ne HO_3.out BK214.out (by decide))); have n1_ := Aside0.mk (hb); have n2_ := Aside0.mk (ho); clear BK214; clear HB; clear HO_3; have BK214 := n0_; have HB := n1_; have HO217 := n2_; clear n0_ n1_ n2_; clear ho hb hg hat))
      go_roundg k1
      case measure => have := HK1.out; omega
      case rel => exact ⟨(y215), (wrap64 (x4_1 + 1)), (by first | rfl | (simp; done) | (simp [*]; done)), H', ⟨by have := HK1.out; omega⟩, ⟨by (with_reducible repeat (first | apply Kd.R_alloc | apply Kd.R_drewN | apply Kd.R_drew)); exact HO217.out⟩, ⟨by repeat (first | (with_reducible first | exact HB.out | apply below_alloc | apply pw_below_drewN | apply below_drew1 | refine below_set ?_ GE214.out) | exact HB.out)⟩⟩
     ·rw [if_neg c4] at H
      exact absurd H (by simp)
    ·rw [if_neg c3] at H
     exact absurd H (by simp)
   ·rw [if_neg c2] at H
    have c2b0 : decide (x4_1 < (l0.length : Int)) = false := decide_eq_false c2
    clear c2
    obtain rfl := Option.some.inj H
    go_wp2
    go_ret
    exact ⟨_, by first | rfl | (simp [errW_none, errW_some] <;> rfl) | (simp [*, errW_none, errW_some] <;> rfl), by (with_reducible repeat (first | apply Kd.R_alloc | apply Kd.R_drewN | apply Kd.R_drew)); exact HO_3.out, by repeat (first | (with_reducible first | exact HB.out | apply below_alloc | apply pw_below_drewN | apply below_drew1) | exact HB.out)⟩

end Go.Proofs.YtboommbclbjlnaaDoor.Fn
end
section
-- Written by printx.py, a program of this session over the kit's print: each Go function as a plain Lean function, and that the Go code computes it.











namespace Go.Proofs.YtboommbclbjlnaaDoor.Fn
open Go.RowKit Go.Proofs.YtboommbclbjlnaaDoorW.PrintWords Go.Proofs.YtboommbclbjlnaaDoorW.PrintLast Go.Proofs.YtboommbclbjlnaaDoorW.PrintMore Go.Proofs.YtboommbclbjlnaaDoor.Lf
attribute [local go_sem] max2_int min2_int max_two min_two max_three min_three max_four min_four   -- for this text's walks alone
set_option linter.unusedVariables false
set_option linter.unusedSimpArgs false

/-! ### step_Scan: function 29 -/
attribute [local go_sem] Oper.semAt_some
/-- step.Scan: all records that are whole, and how many bytes they have. -/
def step_Scan.l : Nat → ByteArray → List S24 → Option (List S24 × ByteArray)
 | 0, _, _ => none
 | k + 1, s, acc => (step_Take.f k s).bind fun t => if t.2.2.2.2.2.2 = 0 then (if acc.length ≤ 1000000 then step_Scan.l k t.2.2.2.2.2.1 (acc ++ [⟨t.1, t.2.1, t.2.2.1, t.2.2.2.1, t.2.2.2.2.1⟩]) else none) else some (acc, s)
def step_Scan.f (k : Nat) (a0 : ByteArray) : Option (List S24 × Int) := (step_Scan.l k a0 []).bind fun t => some (t.1, wrap64 ((a0.size : Int) - (t.2.size : Int)))
theorem step_Scan.mono_l : ∀ (k : Nat) (s : ByteArray) (acc : List S24), LeO (step_Scan.l k s acc) (step_Scan.l (k + 1) s acc)
 | 0, s, acc => LeO.none _
 | k + 1, s, acc => by
  unfold step_Scan.l
  refine LeO.bind (step_Take.mono _ _) (fun t => ?_)
  refine LeO.ite ?_ (LeO.refl _)
  exact LeO.ite (step_Scan.mono_l k _ _) (LeO.refl _)
theorem step_Scan.mono : ∀ a0 k, LeO (step_Scan.f k a0) (step_Scan.f (k + 1) a0) := fun a0 k => LeO.bind (step_Scan.mono_l k _ _) (fun _ => LeO.refl _)
set_option maxHeartbeats 4000000 in
set_option maxRecDepth 100000 in
theorem step_Scan.records (s : ByteArray) (w : World) :
  Calls Tryd.prog 59 #[.string s] w fun e w' => e = .returned (.func (.func 73) #[] #[.pointer (some ⟨w.heap.size, 0, none⟩)]) ∧ w' = w.alloc (.cells #[.string s] 9) := by
 go_enter Tryd.func59, Tryd.ntmps59
 go_wp2
 go_ret
 exact ⟨rfl, rfl⟩
def step_Scan.cells (x : S24) : Array Value := #[.int .i64 x.f0, .int .i64 x.f1, .int .i64 x.f2, .int .u64 x.f3, .string x.f4]
theorem step_Scan.set_box {W : World} {g : Nat} {t : TypeId} {v : Value} (h : W.heap[g]? = some (.cells #[v] t (0, 0))) (u : Value) : (W.setCell ⟨g, 0, none⟩ u).heap[g]? = some (.cells #[u] t (0, 0)) := blk_put (cs := #[v]) h 0 _ rfl
set_option maxHeartbeats 8000000 in
set_option maxRecDepth 100000 in
/-- The iterator: J acc s: the caller's own word when acc has come, and s is what is left. -/
theorem step_Scan.iter (m l Sb k : Nat) (J : List S24 → ByteArray → World → Prop) (r : List S24 × ByteArray)
  (hJb : ∀ acc s W W', J acc s W → Below W.heap.size W W' → J acc s W')
  (hJs : ∀ acc s W, J acc s W → ∀ u, J acc s (W.setCell ⟨Sb, 0, none⟩ u))
  (hJT : ∀ acc s W, J acc s W → Tabs W)
  (hY : ∀ acc (x : S24) s rest W v, J acc s W → acc.length ≤ 1000000 → W.heap[Sb]? = some (.cells #[v] 9 (0, 0)) → YieldAt Fence.wide (m - 1) Tryd.prog l #[.agg #[.int .i64 x.f0, .int .i64 x.f1, .int .i64 x.f2, .int .u64 x.f3, .string x.f4], .string rest] W fun e W' =>
   e = .returned (.bool true) ∧ J (acc ++ [x]) rest W' ∧ W'.heap[Sb]? = some (.cells #[v] 9 (0, 0)))
  (s : ByteArray) (acc : List S24) (h : step_Scan.l k s acc = some r) (W : World) (hS : W.heap[Sb]? = some (.cells #[.string s] 9 (0, 0))) (h0 : J acc s W) :
  CallsIn Fence.wide m Tryd.prog 73 #[.func (.yield l) #[] #[], .pointer (some ⟨Sb, 0, none⟩)] W fun e W' => (∃ v, e = .returned v) ∧ J r.1 r.2 W' := by
 have HY := Lib.hid hY
 have HB := Lib.hid hJb
 have HS := Lib.hid hJs
 have HT := Lib.hid hJT
 have H := Aside0.mk h
 have HK := Aside0.mk hS
 have HJ := Aside0.mk h0
 clear hY hJb hJs hJT h hS h0
 refine callsIn_of_wp Tryd.func73 rfl trivial ?_ rfl
 simp only [Tryd.ntmps73, List.size_toArray, List.length_cons, List.length_nil, Nat.reduceAdd, Nat.reduceSub, Array.replicate_succ, Array.replicate_zero, List.push_toArray, List.append_toArray, List.nil_append, List.cons_append]
 gi_wp2
 gi_loopg [3] k (fun kq _ wr => ∃ (s1 : ByteArray) (a1 : List S24), Aside0 (step_Scan.l kq s1 a1 = some r) ∧ Aside0 (wr.heap[Sb]? = some (.cells #[.string s1] 9 (0, 0))) ∧ Aside0 (J a1 s1 wr))
 case atStart => exact ⟨s, acc, H, HK, HJ⟩
 case round =>
  clear H HK HJ
  obtain ⟨s1, a1, H, HK, HJ⟩ := hrel
  cases gk with
  | zero => exact absurd H.out (by simp [step_Scan.l])
  | succ k1 =>
   have hh := H.out
   clear H
   rw [step_Scan.l] at hh
   obtain ⟨⟨t1, t2, t3, t4, t5, t6, t7⟩, ht, hh⟩ := Option.bind_eq_some_iff.1 hh
   have HTk := Aside0.mk ht
   have H := Aside0.mk hh
   clear ht hh
   have hc := (blk_cell HK.out 0).trans rfl
   have hAl : ∀ w1 : World, Below w1.heap.size w1 (w1.alloc (.cells #[.int .i64 t1, .int .i64 t2, .int .i64 t3, .int .u64 t4, .string t5] 24)) := fun w1 => below_alloc (Below.refl _ _) _
   have HA := Lib.hid hAl
   clear hAl
   by_cases h0 : t7 = 0
   ·subst h0
    have hh := H.out
    clear H
    rw [if_pos rfl] at hh
    by_cases hl : a1.length ≤ 1000000
    case neg => rw [if_neg hl] at hh; cases hh
    rw [if_pos hl] at hh
    have H := Aside0.mk hh
    have HL := Aside0.mk hl
    clear hh hl
    gi_wp2_with (
     refine ⟨trivial, fun h => absurd h (by simp [Fence.wide]), ?_⟩
     gi_at_call 27
     refine (callsIn_wide.2 (step_Take.calls k1 s1 t1 t2 t3 t4 t5 t6 0 wr HTk.out (HT.out _ _ _ HJ.out))).mono ?_
     rintro e w1 ⟨rfl, hb1⟩
     have HJ2 := Aside0.mk (HB.out _ _ _ _ (HB.out _ _ _ _ HJ.out hb1) (HA.out w1))
     have HS2 := Aside0.mk (blk_alloc (blk_below HK.out hb1) (.cells #[.int .i64 t1, .int .i64 t2, .int .i64 t3, .int .u64 t4, .string t5] 24))
     clear hc hb1
     obtain ⟨fn, tmps, assign, body, hy, hR⟩ := HY.out a1 ⟨t1, t2, t3, t4, t5⟩ s1 t6 _ _ HJ2.out HL.out HS2.out
     simp only at hy)
    refine ⟨fun h => absurd h (by simp [Fence.wide]), ?_⟩
    refine hR.mono ?_
    rintro e W3 ⟨rfl, hJ3, hS3⟩
    have hc3 := (blk_cell hS3 0).trans rfl
    have hf3 := blk_frozen hS3 0
    have HJ3 := Aside0.mk (HS.out _ _ _ hJ3 (.string t6))
    have HS3 := Aside0.mk (step_Scan.set_box hS3 (.string t6))
    clear hJ3 hS3 hy hR
    gi_wp2
    gi_roundg k1
    case rel => exact ⟨t6, a1 ++ [⟨t1, t2, t3, t4, t5⟩], H, HS3, HJ3⟩
    case measure => omega
   ·have hh := H.out
    rw [if_neg h0] at hh
    cases hh
    have c1 : (t7 == 0) = false := beq_eq_false_iff_ne.mpr h0
    have c2 : (t7 != 0) = true := bne_iff_ne.mpr h0
    clear h0 H
    gi_wp2_with (
     refine ⟨trivial, fun h => absurd h (by simp [Fence.wide]), ?_⟩
     gi_at_call 27
     refine (callsIn_wide.2 (step_Take.calls k1 s1 t1 t2 t3 t4 t5 t6 t7 wr HTk.out (HT.out _ _ _ HJ.out))).mono ?_
     rintro e w1 ⟨rfl, hb1⟩
     have HJ2 := Aside0.mk (HB.out _ _ _ _ (HB.out _ _ _ _ HJ.out hb1) (HA.out w1))
     clear hc hb1)
    refine ⟨fun _ h => (by cases h), ?_⟩
    gi_wp2
    refine bodyPost_ret (results_none rfl _ _ _) rfl ?_
    exact ⟨⟨_, rfl⟩, HJ2.out⟩
/-- What the caller's own boxes hold. -/
structure step_Scan.At (w : World) (acc : List S24) (s : ByteArray) (Sb : Nat) (W : World) : Prop where
 row : ∃ v, W.heap[w.heap.size]? = some (.cells #[v] 29 (0, 0)) ∧ Kd.R k24 24 W w.heap.size (fun b => b ≠ Sb) v acc
 left : W.heap[w.heap.size + 1]? = some (.cells #[.string s] 9 (0, 0))
 below : Below w.heap.size w W
theorem step_Scan.put_cells {W : World} {g L : Nat} {c : Array Value} {t : TypeId} {f : Nat × Nat} {r : Loop} (h : W.heap[g]? = some (.cells c t f)) (hl : W.heap[L]? = some (.loop r)) (o : Obj) : (W.putObj L o).heap[g]? = some (.cells c t f) :=
 (World.putObj_heap_other (fun e => by rw [e, hl] at h; cases h)).trans h
theorem step_Scan.put_R {d : Kd S24} {e : Nat} {W : World} {base : Nat} {ok : Nat → Prop} {v : Value} {xs : List S24} {L : Nat} {r : Loop} (h : d.R e W base ok v xs) (hl : W.heap[L]? = some (.loop r)) (o : Obj) : d.R e (W.putObj L o) base ok v xs :=
 Kd.R_mono (Kd.R_move (Kd.R_bound h) (fun k hk => World.putObj_heap_other (fun e => by obtain ⟨_, _, _, _, _, c, hc⟩ := hk; rw [e, hl] at hc; cases hc))) (fun _ hk => hk.1)
theorem step_Scan.put_defs {d : Kd S24} {e : Nat} {W : World} {base : Nat} {ok : Nat → Prop} {v : Value} {xs : List S24} {D : Nat} {ds : Option (List Deferred)} (h : d.R e W base ok v xs) (hl : W.heap[D]? = some (.deferred ds)) (o : Obj := .deferred none) : d.R e (W.putObj D o) base ok v xs :=
 Kd.R_mono (Kd.R_move (Kd.R_bound h) (fun k hk => World.putObj_heap_other (fun e => by obtain ⟨_, _, _, _, _, c, hc⟩ := hk; rw [e, hl] at hc; cases hc))) (fun _ hk => hk.1)
theorem step_Scan.at_put {w : World} {acc : List S24} {s : ByteArray} {Sb : Nat} {W : World} {L : Nat} {r : Loop} (h : step_Scan.At w acc s Sb W) (hl : W.heap[L]? = some (.loop r)) (hL : w.heap.size ≤ L) (o : Obj) : step_Scan.At w acc s Sb (W.putObj L o) := by
 obtain ⟨⟨v, h1, h2⟩, h3, h4⟩ := h
 exact ⟨⟨v, step_Scan.put_cells h1 hl o, step_Scan.put_R h2 hl o⟩, step_Scan.put_cells h3 hl o, h4.trans (belowK_b (w := w) (Nat.le_refl _) W L _ o hL hl rfl rfl)⟩
theorem step_Scan.rounds {fn : FuncId} {tm : Array Value} {ps : Array Tmp} {as_ bd : Code} {L D Sb m k : Nat} {w : World} (HT : Tabs w) (hSb : Sb = w.heap.size + 2) (r : List S24 × ByteArray) (s : ByteArray) (h : step_Scan.l k s [] = some r) (W : World)
  (hr : RngAt fn tm ps as_ bd L D .ready W) (hS : W.heap[Sb]? = some (.cells #[.string s] 9 (0, 0))) (hA : step_Scan.At w [] s Sb W)
  (hY : ∀ acc (x : S24) s rest W v, RngAt fn tm ps as_ bd L D .ready W → step_Scan.At w acc s Sb W → acc.length ≤ 1000000 → W.heap[Sb]? = some (.cells #[v] 9 (0, 0)) → YieldAt Fence.wide (m - 1) Tryd.prog L #[.agg #[.int .i64 x.f0, .int .i64 x.f1, .int .i64 x.f2, .int .u64 x.f3, .string x.f4], .string rest] W fun e W' =>
   e = .returned (.bool true) ∧ (RngAt fn tm ps as_ bd L D .ready W' ∧ step_Scan.At w (acc ++ [x]) rest Sb W') ∧ W'.heap[Sb]? = some (.cells #[v] 9 (0, 0))) :
  CallsIn Fence.wide m Tryd.prog 73 #[.func (.yield L) #[] #[], .pointer (some ⟨Sb, 0, none⟩)] W fun e W' => (∃ v, e = .returned v) ∧ RngAt fn tm ps as_ bd L D .ready W' ∧ step_Scan.At w r.1 r.2 Sb W' := by
 refine step_Scan.iter m L Sb k (fun acc s W => RngAt fn tm ps as_ bd L D .ready W ∧ step_Scan.At w acc s Sb W) r ?_ ?_ ?_ ?_ s [] h W hS ⟨hr, hA⟩
 ·rintro acc s W W' ⟨⟨h1, h2⟩, ⟨⟨v, h3, h4⟩, h5, h6⟩⟩ hb
  exact ⟨⟨(hb.block _ (Array.getElem?_eq_some_iff.1 h1).1).trans h1, (hb.block _ (Array.getElem?_eq_some_iff.1 h2).1).trans h2⟩, ⟨⟨v, blk_below h3 hb, Kd.R_below h4 hb⟩, blk_below h5 hb, below_step h6 hb⟩⟩
 ·rintro acc s W ⟨h1, ⟨⟨v, h3, h4⟩, h5, h6⟩⟩ u
  exact ⟨rng_others h1 (KeepsOthers.setCell _ _ _), ⟨⟨v, blk_far (p := ⟨Sb, 0, none⟩) h3 (show w.heap.size ≠ Sb by omega) _, Kd.R_far (p := ⟨Sb, 0, none⟩) h4 (fun _ hk => hk) u⟩, blk_far (p := ⟨Sb, 0, none⟩) h5 (show w.heap.size + 1 ≠ Sb by omega) _, below_set h6 (by omega)⟩⟩
 ·rintro acc s W ⟨_, h⟩
  exact HT.below h.below
 ·rintro acc x s rest W v ⟨h1, h2⟩ hl hS
  exact hY acc x s rest W v h1 h2 hl hS
set_option maxHeartbeats 8000000 in
set_option maxRecDepth 100000 in
theorem step_Scan.calls (k : Nat) (a0 : ByteArray) (r1 : List S24) (r2 : Int) (w : World) (h : step_Scan.f k a0 = some (r1, r2)) (HT : Tabs w) :
  Calls Tryd.prog 29 #[.string a0] w fun e w' => ∃ v1_ : Value, e = .returned (.tuple #[v1_, .int .i64 r2]) ∧ Kd.R k24 24 w' w.heap.size (fun _ => True) v1_ r1 ∧ Below w.heap.size w w' := by
 unfold step_Scan.f at h
 obtain ⟨⟨q1, q2⟩, h8, hh⟩ := Option.bind_eq_some_iff.1 h
 cases hh
 have H := Aside0.mk h8
 have HW := Aside0.mk HT
 clear h h8 HT
 refine (callsIn_wide (n := 5)).1 ?_
 refine callsIn_of_wp_marks Tryd.func29 rfl trivial ?_ rfl
 simp only [Tryd.ntmps29, List.size_toArray, List.length_cons, List.length_nil, Nat.reduceAdd, Nat.reduceSub, Array.replicate_succ, Array.replicate_zero, List.push_toArray, List.append_toArray, List.nil_append, List.cons_append]
 gi_wp2_with (refine ⟨trivial, ?_⟩; gi_at_call 59; refine (callsIn_wide.2 (step_Scan.records a0 _)).mono ?_; rintro e W2 ⟨rfl, rfl⟩)
 obtain ⟨W0, hW0⟩ : ∃ W0, ((w.alloc (.cells #[.slice none 0 0] 29)).alloc (.cells #[.string a0] 9)).alloc (.cells #[.string a0] 9) = W0 := ⟨_, rfl⟩
 have hz0 : W0.heap.size = w.heap.size + 3 := by rw [← hW0]; simp
 have hA0 : step_Scan.At w [] a0 (w.heap.size + 2) W0 := by
  rw [← hW0]
  refine ⟨⟨_, blk_alloc (blk_alloc (heap_alloc_new w _) _) _, Kd.R_nil _ _ _ _ _⟩, ?_, below_alloc (below_alloc (below_alloc (Below.refl _ _) _) _) _⟩
  have h1 := heap_alloc_new (w.alloc (.cells #[.slice none 0 0] 29)) (.cells #[.string a0] 9)
  rw [World.size_alloc] at h1
  exact blk_alloc h1 _
 have hS0 : W0.heap[w.heap.size + 2]? = some (.cells #[.string a0] 9 (0, 0)) := by
  rw [← hW0]
  have h1 := heap_alloc_new ((w.alloc (.cells #[.slice none 0 0] 29)).alloc (.cells #[.string a0] 9)) (.cells #[.string a0] 9)
  rwa [World.size_alloc, World.size_alloc] at h1
 rw [hW0]
 clear hW0
 refine rng_stmt (n := 4) (gf := 73) (lb := #[.pointer (some ⟨w.heap.size + 1 + 1, 0, none⟩)]) rfl (enters_of Tryd.func73 (by kernel_rfl) rfl) ?_
 intro fn W1 hb1 hr1
 refine (step_Scan.rounds (m := 4) (k := k) (Sb := w.heap.size + 2) (w := w) HW.out rfl (q1, q2) a0 H.out W1 hr1 (blk_below hS0 hb1) ⟨?_, blk_below hA0.left hb1, below_step hA0.below hb1⟩ ?round).mono ?_
 ·obtain ⟨v, h1, h2⟩ := hA0.row
  exact ⟨v, blk_below h1 hb1, Kd.R_below h2 hb1⟩
 case round =>
  intro acc x s rest W v hr hA hl hS
  refine rng_round hr (by omega) rfl ?_
  intro K hK
  have HK := Lib.hid hK
  have HR := Aside0.mk hr
  have HA := Aside0.mk hA
  have HL := Aside0.mk hl
  have HS := Aside0.mk hS
  have HZ := Aside0.mk hz0
  clear hK hr hA hl hS hA0 hS0 hr1 hb1 hz0
  gi_wp2
  refine HK.out _ _ (rng_others HR.out (KeepsOthers.alloc _ _)) ?_
  intro o Q hRb hQ
  have hlp : (W.alloc (.cells #[.int .i64 x.f0, .int .i64 x.f1, .int .i64 x.f2, .int .u64 x.f3, .string x.f4] 24)).heap[W0.heap.size + 1]? = some _ := (rng_others HR.out (KeepsOthers.alloc _ _)).loop
  have hA1 : step_Scan.At w acc s (w.heap.size + 2) (W.alloc (.cells #[.int .i64 x.f0, .int .i64 x.f1, .int .i64 x.f2, .int .u64 x.f3, .string x.f4] 24)) := by
   obtain ⟨⟨v, h1, h2⟩, h3, h4⟩ := HA.out
   exact ⟨⟨v, blk_alloc h1 _, Kd.R_below h2 (below_alloc (Below.refl _ _) _)⟩, blk_alloc h3 _, below_alloc h4 _⟩
  have hA5 := step_Scan.at_put hA1 hlp (by have := HZ.out; omega) o
  have hX5 := step_Scan.put_cells (heap_alloc_new W (.cells #[.int .i64 x.f0, .int .i64 x.f1, .int .i64 x.f2, .int .u64 x.f3, .string x.f4] 24)) hlp o
  have hS5 := step_Scan.put_cells (blk_alloc HS.out _) hlp o
  have hwW : w.heap.size + 2 < W.heap.size := (Array.getElem?_eq_some_iff.1 HS.out).1
  generalize (W.alloc (.cells #[.int .i64 x.f0, .int .i64 x.f1, .int .i64 x.f2, .int .u64 x.f3, .string x.f4] 24)).putObj (W0.heap.size + 1) o = W5 at hRb hQ hA5 hX5 hS5 ⊢
  clear hA1 hlp HR HA HS
  obtain ⟨⟨v1, hv1, hrow⟩, hleft, hbel⟩ := hA5
  have HQ := Lib.hid hQ
  have HRb := Aside0.mk hRb
  have hc1 := (blk_cell hv1 0).trans rfl
  have hc2 := (blk_cell hX5 0).trans rfl
  have hc3 := (blk_cell hX5 1).trans rfl
  have hc4 := (blk_cell hX5 2).trans rfl
  have hc5 := (blk_cell hX5 3).trans rfl
  have hc6 := (blk_cell hX5 4).trans rfl
  have HV1 := Aside0.mk hv1
  have HRow := Aside0.mk hrow
  have HLeft := Aside0.mk hleft
  have HBel := Aside0.mk hbel
  have HX5 := Aside0.mk hX5
  have HS5 := Aside0.mk hS5
  clear hQ hRb hv1 hrow hleft hbel hX5 hS5
  refine wpIn_block ?_
  refine regIn_of_list _ _ (by kernel_rfl) ?_
  go_wp2_with (
   at_builtin
   refine Kd.R_append k24 (w0 := w) w.heap.size rfl (.tmp 13) (.tmp 15) 29 24 (.agg #[.int .i64 0, .int .i64 0, .int .i64 0, .int .u64 0, .string ⟨#[]⟩]) 48 rfl Tryd.underlying29 info24 rfl (by decide) (by omega) v1 acc x [.int .i64 x.f0, .int .i64 x.f1, .int .i64 x.f2, .int .u64 x.f3, .string x.f4] (fun b => b ≠ w.heap.size + 2) (fun _ => False) rfl rfl (k24_mkM _ _ _ x) (fun _ hk => hk.elim) (fun k hk => by have := (Array.getElem?_eq_some_iff.1 HS5.out).1; omega) HRow.out HBel.out HBel.out.size (by have := HL.out; omega) ?_
   intro v2 w6 ho hb hg hat
   obtain ⟨A2, c2, rfl⟩ := Kd.R_slice ho
   have hv2 := blk_grown HV1.out hg (Kd.R_ne HRow.out HV1.out (by decide))
   have hl2 := blk_grown HLeft.out hg (Kd.R_ne HRow.out HLeft.out (by decide))
   have hs2 := blk_grown HS5.out hg (Kd.R_ne HRow.out HS5.out (by decide))
   have hk2 : KeepsOthers W5 w6 := KeepsOthers.of_grownBy hg (fun j o hj ho => by
    obtain ⟨inner, hown⟩ := Kd.R_own HRow.out
    obtain ⟨cells, hcells⟩ := own_typed hown j hj
    rw [hcells] at ho
    cases ho
    rfl)
   have hg2 := blk_frozen hv2 0
   have hg3 := blk_frozen hl2 0
   have hd2 := (blk_cell hv2 0).trans rfl
   have hd3 := (blk_cell hl2 0).trans rfl
   have HV2 := Aside0.mk hv2
   have HL2 := Aside0.mk hl2
   have HS2 := Aside0.mk hs2
   have HK2 := Aside0.mk hk2
   have HRow2 := Aside0.mk ho
   have HBel2 := Aside0.mk hb
   clear hv2 hl2 hs2 hk2 ho hb hg hat hc1 hc2 hc3 hc4 hc5 hc6 HX5)
  have hsz : w.heap.size + 2 < w6.heap.size := (Array.getElem?_eq_some_iff.1 HS2.out).1
  have HRb6 := rng_others (rng_others (rng_others HRb.out HK2.out) (KeepsOthers.setCell _ ⟨w.heap.size, 0, none⟩ (.slice A2 (acc.length + 1) c2))) (KeepsOthers.setCell _ ⟨w.heap.size + 1, 0, none⟩ (.string rest))
  rw [List.length_append, List.length_singleton] at HRow2
  have hA8 : step_Scan.At w (acc ++ [x]) rest (w.heap.size + 2) ((w6.setCell ⟨w.heap.size, 0, none⟩ (.slice A2 (acc.length + 1) c2)).setCell ⟨w.heap.size + 1, 0, none⟩ (.string rest)) :=
   ⟨⟨_, blk_far (p := ⟨w.heap.size + 1, 0, none⟩) (step_Scan.set_box HV2.out _) (show w.heap.size ≠ w.heap.size + 1 by omega) _, Kd.R_set (Kd.R_set HRow2.out HV2.out (by decide) _ _) (blk_far (p := ⟨w.heap.size, 0, none⟩) HL2.out (show w.heap.size + 1 ≠ w.heap.size by omega) _) (by decide) _ _⟩,
    step_Scan.set_box (blk_far (p := ⟨w.heap.size, 0, none⟩) HL2.out (show w.heap.size + 1 ≠ w.heap.size by omega) _) _, below_set (below_set HBel2.out (Nat.le_refl _)) (by omega)⟩
  have hS8 := blk_far (p := ⟨w.heap.size + 1, 0, none⟩) (blk_far (p := ⟨w.heap.size, 0, none⟩) HS2.out (show w.heap.size + 2 ≠ w.heap.size by omega) (.slice A2 (acc.length + 1) c2)) (show w.heap.size + 2 ≠ w.heap.size + 1 by omega) (.string rest)
  refine HQ.out _ _ HRb6 (fun o hr => ⟨trivial, ⟨hr, step_Scan.at_put hA8 HRb6.loop (by have := HZ.out; omega) o⟩, step_Scan.put_cells hS8 HRb6.loop o⟩)
 ·rintro e W2 ⟨⟨v0, rfl⟩, hr2, hA2⟩
  refine ⟨⟨v0, rfl⟩, hr2, fun o => ?_⟩
  have hlt : W0.heap.size < W2.heap.size := (Array.getElem?_eq_some_iff.1 hr2.defs).1
  have hD := (World.putObj_heap_other (o := o) (show W0.heap.size ≠ W0.heap.size + 1 by omega)).trans hr2.defs
  obtain ⟨⟨v, hv, hrow⟩, hleft, hbel⟩ := step_Scan.at_put hA2 hr2.loop (by omega) o
  generalize W2.putObj (W0.heap.size + 1) o = W3 at hD hv hrow hleft hbel ⊢
  obtain ⟨A2, c2, rfl⟩ := Kd.R_slice hrow
  have hd1 : W3.drew.cell? ⟨w.heap.size, 0, none⟩ = some (.slice A2 q1.length c2) ∧ W3.drew.cell? ⟨w.heap.size + 1, 0, none⟩ = some (.string q2) := ⟨(blk_cell hv 0).trans rfl, (blk_cell hleft 0).trans rfl⟩
  have HD := Aside0.mk hD
  have HRow := Aside0.mk hrow
  have HBel := Aside0.mk hbel
  have HZ := Aside0.mk hz0
  have HZ3 : W0.heap.size < W3.heap.size := (Array.getElem?_eq_some_iff.1 hD).1
  clear hA0 hS0 hr1 hb1 hr2 hA2 hv hleft hD hrow hbel hlt hz0
  gi_wp2
  refine wpIn_wide.2 ?_
  go_region_held3 (fun V => V.cell? ⟨w.heap.size, 0, none⟩ = some (.slice A2 q1.length c2) ∧ V.cell? ⟨w.heap.size + 1, 0, none⟩ = some (.string q2)) (exact hd1) (fail)
  gi_wp2
  refine ⟨by simp, .inl ⟨_, _, rfl, run_takeDeferred (w := W3.drew) HD.out, ?_⟩⟩
  have hw : wrap64 ((a0.size : Int) - (q2.size : Int)) = IntKind.i64.wrap ((a0.size : Int) - (q2.size : Int)) := (i64_w _).symm
  rw [hw]
  refine ⟨_, results_tmp2 rfl _ _ _, _, rfl, Kd.R_mono (step_Scan.put_defs (Kd.R_drew HRow.out) HD.out) (fun _ _ => trivial), ?_⟩
  exact (below_drew1 HBel.out).trans (belowK_b (w := w) (Nat.le_refl _) W3.drew W0.heap.size _ _ (by have := HZ.out; omega) HD.out rfl rfl)

end Go.Proofs.YtboommbclbjlnaaDoor.Fn
end
