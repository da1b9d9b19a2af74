-- Packed by pack.py, a program of this session, out of texts of this claim.
import Derived.Test.YtapkghkcaflkmaaDoorClLabelPlain1
section
-- Written by printx.py, a program of this session over the kit's print: each Go function as a plain Lean function, and that the Go code computes it.


namespace Go.Proofs.YtapkghkcaflkmaaDoor.Fn
open Go.RowKit Go.Proofs.YtapkghkcaflkmaaDoorW.PrintWords Go.Proofs.YtapkghkcaflkmaaDoorW.PrintLast Go.Proofs.YtapkghkcaflkmaaDoorW.PrintMore Go.Proofs.YtapkghkcaflkmaaDoor.Lf
attribute [local go_sem] max2_int min2_int max_two min_two max_three min_three max_four min_four   -- for this text's walks alone
set_option linter.unusedVariables false
set_option linter.unusedSimpArgs false

/-! ### rootcellarlaw1_LabelJoins: function 7 -/
mutual
def rootcellarlaw1_LabelJoins.j0 : Nat → ByteArray → ByteArray → Bool → Bool → Option (Bool)
 | 0, _, _, _, _ => none
 | k + 1, x0, x1, x5, x19 => if x19 = true then (some x5) else ((label_Valid.f x0).bind fun t160 => (if t160 = true then ((label_Valid.f x1).bind fun t161 => (if t161 = true then (if x0.size + x1.size ≤ 9223372036854775807 then ((label_Valid.f (x0 ++ x1)).bind fun t162 => (if t162 = true then ((label_Count.f (x0 ++ x1)).bind fun t163 => ((label_Count.f x0).bind fun t164 => ((label_Count.f x1).bind fun t165 => (if t163 = (wrap64 (t164 + t165)) then ((label_Fold.f (x0 ++ x1)).bind fun t166 => ((label_Fold.f x0).bind fun t167 => ((label_Fold.f x1).bind fun t168 => (if t167.size + t168.size ≤ 9223372036854775807 then (rootcellarlaw1_LabelJoins.j1 k x0 (t166.toList != (t167 ++ t168).toList)) else (none))))) else (rootcellarlaw1_LabelJoins.j1 k x0 true))))) else (rootcellarlaw1_LabelJoins.j1 k x0 true))) else (none)) else (rootcellarlaw1_LabelJoins.j1 k x0 false))) else (rootcellarlaw1_LabelJoins.j1 k x0 false)))
def rootcellarlaw1_LabelJoins.j1 : Nat → ByteArray → Bool → Option (Bool)
 | 0, _, _ => none
 | k + 1, x0, x57 => if x57 = true then (some false) else ((label_Fold.f x0).bind fun t169 => ((label_Fold.f t169).bind fun t170 => (if t170.toList = t169.toList then (if (t169.size : Int) = (x0.size : Int) then ((label_Right.f t169).bind fun t171 => ((label_Right.f x0).bind fun t172 => (if (t171 == t172) = true then ((label_Count.f t169).bind fun t173 => ((label_Count.f x0).bind fun t174 => (some (t173 == t174)))) else (some false)))) else (some false)) else (some false))))
end
def rootcellarlaw1_LabelJoins.f (k : Nat) (a0 : ByteArray) (a1 : ByteArray) : Option (Bool) := (rootcellarlaw1_shown.f).bind fun t159 => (if t159 = true then (if (a0.size : Int) > 500 then (rootcellarlaw1_LabelJoins.j0 k a0 a1 t159 true) else (rootcellarlaw1_LabelJoins.j0 k a0 a1 t159 (decide ((a1.size : Int) > 500)))) else (rootcellarlaw1_LabelJoins.j0 k a0 a1 t159 true))
theorem rootcellarlaw1_LabelJoins.mono_l : ∀ k, (∀ y0 y1 y2 y3, LeO (rootcellarlaw1_LabelJoins.j0 k y0 y1 y2 y3) (rootcellarlaw1_LabelJoins.j0 (k + 1) y0 y1 y2 y3)) ∧ (∀ y0 y1, LeO (rootcellarlaw1_LabelJoins.j1 k y0 y1) (rootcellarlaw1_LabelJoins.j1 (k + 1) y0 y1))
 | 0 => ⟨fun _ _ _ _ r h => by simp [rootcellarlaw1_LabelJoins.j0] at h, fun _ _ r h => by simp [rootcellarlaw1_LabelJoins.j1] at h⟩
 | k + 1 => by
  obtain ⟨ih0, ih1⟩ := rootcellarlaw1_LabelJoins.mono_l k
  refine ⟨?_, ?_⟩
  ·intro y0 y1 y2 y3
   unfold rootcellarlaw1_LabelJoins.j0
   repeat' first
   | (with_reducible exact ih0 _ _ _ _)
   | (with_reducible exact ih1 _ _)
   | (with_reducible exact LeO.refl _)
   | (with_reducible exact LeO.none _)
   | (with_reducible refine LeO.ite ?_ ?_)
   | (with_reducible refine LeO.bind ?_ (fun _ => ?_))
   | exact ih0 _ _ _ _
   | exact ih1 _ _
   | exact LeO.none _
   | refine LeO.ite ?_ ?_
   | refine LeO.bind ?_ (fun _ => ?_)
  ·intro y0 y1
   unfold rootcellarlaw1_LabelJoins.j1
   repeat' first
   | (with_reducible exact ih0 _ _ _ _)
   | (with_reducible exact ih1 _ _)
   | (with_reducible exact LeO.refl _)
   | (with_reducible exact LeO.none _)
   | (with_reducible refine LeO.ite ?_ ?_)
   | (with_reducible refine LeO.bind ?_ (fun _ => ?_))
   | exact ih0 _ _ _ _
   | exact ih1 _ _
   | exact LeO.none _
   | refine LeO.ite ?_ ?_
   | refine LeO.bind ?_ (fun _ => ?_)
theorem rootcellarlaw1_LabelJoins.mono : ∀ a0 a1 k, LeO (rootcellarlaw1_LabelJoins.f k a0 a1) (rootcellarlaw1_LabelJoins.f (k + 1) a0 a1) := by
 intro a0 a1 k
 obtain ⟨ih0, ih1⟩ := rootcellarlaw1_LabelJoins.mono_l k
 unfold rootcellarlaw1_LabelJoins.f
 repeat' first
   | (with_reducible exact ih0 _ _ _ _)
   | (with_reducible exact ih1 _ _)
   | (with_reducible exact LeO.refl _)
   | (with_reducible exact LeO.none _)
   | (with_reducible refine LeO.ite ?_ ?_)
   | (with_reducible refine LeO.bind ?_ (fun _ => ?_))
   | exact ih0 _ _ _ _
   | exact ih1 _ _
   | exact LeO.none _
   | refine LeO.ite ?_ ?_
   | refine LeO.bind ?_ (fun _ => ?_)
set_option maxHeartbeats 8000000 in
set_option maxRecDepth 100000 in
theorem rootcellarlaw1_LabelJoins.calls (k : Nat) (a0 : ByteArray) (a1 : ByteArray) (r : Bool) (w : World) (h : rootcellarlaw1_LabelJoins.f k a0 a1 = some r) (HT : Tabs w) :
  Calls Tryd.prog 7 #[.string a0, .string a1] w fun e w' => e = .returned (.bool r) ∧ Below w.heap.size w w' := by
 have HB := Aside0.mk (Below.refl w.heap.size w)
 have H : ((rootcellarlaw1_shown.f).bind fun t159 => (if t159 = true then (if (a0.size : Int) > 500 then (rootcellarlaw1_LabelJoins.j0 k a0 a1 t159 true) else (rootcellarlaw1_LabelJoins.j0 k a0 a1 t159 (decide ((a1.size : Int) > 500)))) else (rootcellarlaw1_LabelJoins.j0 k a0 a1 t159 true))) = some r := h
 clear h
 replace H := Option.bind_eq_some_iff.mp H
 obtain ⟨t159, A30, H⟩ := H
 replace H : (if t159 = true then (if (a0.size : Int) > 500 then (rootcellarlaw1_LabelJoins.j0 k a0 a1 t159 true) else (rootcellarlaw1_LabelJoins.j0 k a0 a1 t159 (decide ((a1.size : Int) > 500)))) else (rootcellarlaw1_LabelJoins.j0 k a0 a1 t159 true)) = some r := H
 have A3 := Aside0.mk A30
 clear A30
 have HC4 := Aside0.mk H
 clear H
 go_enter Tryd.func7, Tryd.ntmps7
 go_upto_region 2 with (first | ((with_reducible refine gate_callee (f := 11) rfl ?_); refine goesL_ (some 7) rfl rfl Tryd.func11 (by kernel_rfl) rfl #[] rfl (by (try simp only [List.map_toArray, List.map_cons, List.map_nil]); first | done | rfl | (simp only [List.length_drop, List.length_take]; rfl) | (rw [wrap_sum2 (by assumption)]; rfl)) ?_; (with_reducible refine (rootcellarlaw1_shown.calls  t159 _ A3.out (HT.below (by repeat (first | (with_reducible first | exact HB.out | apply below_alloc | apply pw_below_drewN | apply below_drew1) | exact HB.out)))).mono ?_); rintro e w5 ⟨rfl, hb⟩; refine ⟨_, rfl, ?_⟩; have n0_ := Aside0.mk (below_step (by repeat (first | (with_reducible first | exact HB.out | apply below_alloc | apply pw_below_drewN | apply below_drew1) | exact HB.out)) hb); clear HB; have HB := n0_; clear n0_; (try clear hb); (try clear hb2); (try clear hk); (try clear hi)))
 (try simp only [Act.put, List.setIfInBounds_toArray, List.set_cons_zero, List.set_cons_succ])
 go_cut [19] (fun v19 wc => ∃ (kq : Nat) (x19_3 : Bool), v19 = .bool x19_3 ∧ Aside0 (rootcellarlaw1_LabelJoins.j0 kq a0 a1 t159 x19_3 = some r) ∧ Aside0 (kq ≤ k) ∧ Aside0 (Below w.heap.size w wc))
 case first =>
  have H := HC4.out
  clear HC4
  by_cases c6 : t159 = true
  ·subst c6
   have H1 : (if (a0.size : Int) > 500 then (rootcellarlaw1_LabelJoins.j0 k a0 a1 true true) else (rootcellarlaw1_LabelJoins.j0 k a0 a1 true (decide ((a1.size : Int) > 500)))) = some r := by rw [if_pos rfl] at H; exact H
   clear H
   have H := H1
   clear H1
   by_cases c7 : (a0.size : Int) > 500
   ·rw [if_pos c7] at H
    have c7b0 : decide (500 < (a0.size : Int)) = true := decide_eq_true c7
    have c7b1 : decide (500 < a0.size) = true := decide_eq_true (by omega)
    clear c7
    (first | rw [c7b0] | (simp only [i64_w, i32_w]; rw [c7b0]) | skip)
    have H' := Aside0.mk H
    clear H
    go_wp2
    go_meet
    case rel => exact ⟨_, (true), (by first | rfl | (simp; done) | (simp [*]; done)), H', ⟨by first | omega | exact Nat.le_refl _⟩, ⟨by repeat (first | (with_reducible first | exact HB.out | apply below_alloc | apply pw_below_drewN | apply below_drew1) | exact HB.out)⟩⟩
   ·rw [if_neg c7] at H
    have c7b0 : decide (500 < (a0.size : Int)) = false := decide_eq_false c7
    have c7b1 : decide (500 < a0.size) = false := decide_eq_false (by omega)
    clear c7
    (first | rw [c7b0] | (simp only [i64_w, i32_w]; rw [c7b0]) | skip)
    have H' := Aside0.mk H
    clear H
    go_wp2
    go_meet
    case rel => exact ⟨_, (decide ((a1.size : Int) > 500)), (by first | rfl | (simp; done) | (simp [*]; done)), H', ⟨by first | omega | exact Nat.le_refl _⟩, ⟨by repeat (first | (with_reducible first | exact HB.out | apply below_alloc | apply pw_below_drewN | apply below_drew1) | exact HB.out)⟩⟩
  ·replace c6 := Bool.eq_false_iff.mpr c6
   subst c6
   have H1 : (rootcellarlaw1_LabelJoins.j0 k a0 a1 false true) = some r := by rw [if_neg (show ¬ (false = true) by decide)] at H; exact H
   clear H
   have H := H1
   clear H1
   have H' := Aside0.mk H
   clear H
   go_wp2
   go_meet
   case rel => exact ⟨_, (true), (by first | rfl | (simp; done) | (simp [*]; done)), H', ⟨by first | omega | exact Nat.le_refl _⟩, ⟨by repeat (first | (with_reducible first | exact HB.out | apply below_alloc | apply pw_below_drewN | apply below_drew1) | exact HB.out)⟩⟩
 case rest =>
  clear HC4
  try clear c1
  try clear p2
  try clear c6
  try clear c7
  try clear c7b0
  try clear c7b1
  obtain ⟨kq, x19_3, rfl, HA, HJ3, HB⟩ := hcut
  cases kq with
  | zero => exact absurd HA.out (by simp [rootcellarlaw1_LabelJoins.j0])
  | succ kj3 =>
   have H := HA.out
   clear HA
   simp only [rootcellarlaw1_LabelJoins.j0] at H
   by_cases c8 : x19_3 = true
   ·subst c8
    have H1 : (some t159) = some r := by rw [if_pos rfl] at H; exact H
    clear H
    have H := H1
    clear H1
    obtain rfl := Option.some.inj H
    go_wp2
    go_ret
    exact ⟨by first | rfl | (simp [errW_none, errW_some] <;> rfl) | (simp [*, errW_none, errW_some] <;> rfl), by repeat (first | (with_reducible first | exact HB.out | apply below_alloc | apply pw_below_drewN | apply below_drew1) | exact HB.out)⟩
   ·replace c8 := Bool.eq_false_iff.mpr c8
    subst c8
    have H1 : ((label_Valid.f a0).bind fun t160 => (if t160 = true then ((label_Valid.f a1).bind fun t161 => (if t161 = true then (if a0.size + a1.size ≤ 9223372036854775807 then ((label_Valid.f (a0 ++ a1)).bind fun t162 => (if t162 = true then ((label_Count.f (a0 ++ a1)).bind fun t163 => ((label_Count.f a0).bind fun t164 => ((label_Count.f a1).bind fun t165 => (if t163 = (wrap64 (t164 + t165)) then ((label_Fold.f (a0 ++ a1)).bind fun t166 => ((label_Fold.f a0).bind fun t167 => ((label_Fold.f a1).bind fun t168 => (if t167.size + t168.size ≤ 9223372036854775807 then (rootcellarlaw1_LabelJoins.j1 kj3 a0 (t166.toList != (t167 ++ t168).toList)) else (none))))) else (rootcellarlaw1_LabelJoins.j1 kj3 a0 true))))) else (rootcellarlaw1_LabelJoins.j1 kj3 a0 true))) else (none)) else (rootcellarlaw1_LabelJoins.j1 kj3 a0 false))) else (rootcellarlaw1_LabelJoins.j1 kj3 a0 false))) = some r := by rw [if_neg (show ¬ (false = true) by decide)] at H; exact H
    clear H
    have H := H1
    clear H1
    have HC9 := Aside0.mk H
    clear H
    go_upto_region 4 with (fail)
    go_cut [57] (fun v57 wc => ∃ (kq : Nat) (x57_8 : Bool), v57 = .bool x57_8 ∧ Aside0 (rootcellarlaw1_LabelJoins.j1 kq a0 x57_8 = some r) ∧ Aside0 (kq ≤ kj3) ∧ Aside0 (Below w.heap.size w wc))
    case first =>
     have H := HC9.out
     clear HC9
     replace H := Option.bind_eq_some_iff.mp H
     obtain ⟨t160, A100, H⟩ := H
     replace H : (if t160 = true then ((label_Valid.f a1).bind fun t161 => (if t161 = true then (if a0.size + a1.size ≤ 9223372036854775807 then ((label_Valid.f (a0 ++ a1)).bind fun t162 => (if t162 = true then ((label_Count.f (a0 ++ a1)).bind fun t163 => ((label_Count.f a0).bind fun t164 => ((label_Count.f a1).bind fun t165 => (if t163 = (wrap64 (t164 + t165)) then ((label_Fold.f (a0 ++ a1)).bind fun t166 => ((label_Fold.f a0).bind fun t167 => ((label_Fold.f a1).bind fun t168 => (if t167.size + t168.size ≤ 9223372036854775807 then (rootcellarlaw1_LabelJoins.j1 kj3 a0 (t166.toList != (t167 ++ t168).toList)) else (none))))) else (rootcellarlaw1_LabelJoins.j1 kj3 a0 true))))) else (rootcellarlaw1_LabelJoins.j1 kj3 a0 true))) else (none)) else (rootcellarlaw1_LabelJoins.j1 kj3 a0 false))) else (rootcellarlaw1_LabelJoins.j1 kj3 a0 false)) = some r := H
     have A10 := Aside0.mk A100
     clear A100
     by_cases c11 : t160 = true
     ·subst c11
      have H1 : ((label_Valid.f a1).bind fun t161 => (if t161 = true then (if a0.size + a1.size ≤ 9223372036854775807 then ((label_Valid.f (a0 ++ a1)).bind fun t162 => (if t162 = true then ((label_Count.f (a0 ++ a1)).bind fun t163 => ((label_Count.f a0).bind fun t164 => ((label_Count.f a1).bind fun t165 => (if t163 = (wrap64 (t164 + t165)) then ((label_Fold.f (a0 ++ a1)).bind fun t166 => ((label_Fold.f a0).bind fun t167 => ((label_Fold.f a1).bind fun t168 => (if t167.size + t168.size ≤ 9223372036854775807 then (rootcellarlaw1_LabelJoins.j1 kj3 a0 (t166.toList != (t167 ++ t168).toList)) else (none))))) else (rootcellarlaw1_LabelJoins.j1 kj3 a0 true))))) else (rootcellarlaw1_LabelJoins.j1 kj3 a0 true))) else (none)) else (rootcellarlaw1_LabelJoins.j1 kj3 a0 false))) = some r := by rw [if_pos rfl] at H; exact H
      clear H
      have H := H1
      clear H1
      replace H := Option.bind_eq_some_iff.mp H
      obtain ⟨t161, A120, H⟩ := H
      replace H : (if t161 = true then (if a0.size + a1.size ≤ 9223372036854775807 then ((label_Valid.f (a0 ++ a1)).bind fun t162 => (if t162 = true then ((label_Count.f (a0 ++ a1)).bind fun t163 => ((label_Count.f a0).bind fun t164 => ((label_Count.f a1).bind fun t165 => (if t163 = (wrap64 (t164 + t165)) then ((label_Fold.f (a0 ++ a1)).bind fun t166 => ((label_Fold.f a0).bind fun t167 => ((label_Fold.f a1).bind fun t168 => (if t167.size + t168.size ≤ 9223372036854775807 then (rootcellarlaw1_LabelJoins.j1 kj3 a0 (t166.toList != (t167 ++ t168).toList)) else (none))))) else (rootcellarlaw1_LabelJoins.j1 kj3 a0 true))))) else (rootcellarlaw1_LabelJoins.j1 kj3 a0 true))) else (none)) else (rootcellarlaw1_LabelJoins.j1 kj3 a0 false)) = some r := H
      have A12 := Aside0.mk A120
      clear A120
      by_cases c13 : t161 = true
      ·subst c13
       have H1 : (if a0.size + a1.size ≤ 9223372036854775807 then ((label_Valid.f (a0 ++ a1)).bind fun t162 => (if t162 = true then ((label_Count.f (a0 ++ a1)).bind fun t163 => ((label_Count.f a0).bind fun t164 => ((label_Count.f a1).bind fun t165 => (if t163 = (wrap64 (t164 + t165)) then ((label_Fold.f (a0 ++ a1)).bind fun t166 => ((label_Fold.f a0).bind fun t167 => ((label_Fold.f a1).bind fun t168 => (if t167.size + t168.size ≤ 9223372036854775807 then (rootcellarlaw1_LabelJoins.j1 kj3 a0 (t166.toList != (t167 ++ t168).toList)) else (none))))) else (rootcellarlaw1_LabelJoins.j1 kj3 a0 true))))) else (rootcellarlaw1_LabelJoins.j1 kj3 a0 true))) else (none)) = some r := by rw [if_pos rfl] at H; exact H
       clear H
       have H := H1
       clear H1
       by_cases c14 : a0.size + a1.size ≤ 9223372036854775807
       ·rw [if_pos c14] at H
        have c14b0 := eq_true c14
        have c14b1 : decide (a0.size + a1.size ≤ 9223372036854775807) = true := decide_eq_true c14
        try have c14b2 : (9223372036854775807 < a0.size + a1.size) = False := eq_false (Nat.not_lt.2 c14)
        replace H := Option.bind_eq_some_iff.mp H
        obtain ⟨t162, A150, H⟩ := H
        replace H : (if t162 = true then ((label_Count.f (a0 ++ a1)).bind fun t163 => ((label_Count.f a0).bind fun t164 => ((label_Count.f a1).bind fun t165 => (if t163 = (wrap64 (t164 + t165)) then ((label_Fold.f (a0 ++ a1)).bind fun t166 => ((label_Fold.f a0).bind fun t167 => ((label_Fold.f a1).bind fun t168 => (if t167.size + t168.size ≤ 9223372036854775807 then (rootcellarlaw1_LabelJoins.j1 kj3 a0 (t166.toList != (t167 ++ t168).toList)) else (none))))) else (rootcellarlaw1_LabelJoins.j1 kj3 a0 true))))) else (rootcellarlaw1_LabelJoins.j1 kj3 a0 true)) = some r := H
        have A15 := Aside0.mk A150
        clear A150
        by_cases c16 : t162 = true
        ·subst c16
         have H1 : ((label_Count.f (a0 ++ a1)).bind fun t163 => ((label_Count.f a0).bind fun t164 => ((label_Count.f a1).bind fun t165 => (if t163 = (wrap64 (t164 + t165)) then ((label_Fold.f (a0 ++ a1)).bind fun t166 => ((label_Fold.f a0).bind fun t167 => ((label_Fold.f a1).bind fun t168 => (if t167.size + t168.size ≤ 9223372036854775807 then (rootcellarlaw1_LabelJoins.j1 kj3 a0 (t166.toList != (t167 ++ t168).toList)) else (none))))) else (rootcellarlaw1_LabelJoins.j1 kj3 a0 true))))) = some r := by rw [if_pos rfl] at H; exact H
         clear H
         have H := H1
         clear H1
         replace H := Option.bind_eq_some_iff.mp H
         obtain ⟨t163, A170, H⟩ := H
         replace H : ((label_Count.f a0).bind fun t164 => ((label_Count.f a1).bind fun t165 => (if t163 = (wrap64 (t164 + t165)) then ((label_Fold.f (a0 ++ a1)).bind fun t166 => ((label_Fold.f a0).bind fun t167 => ((label_Fold.f a1).bind fun t168 => (if t167.size + t168.size ≤ 9223372036854775807 then (rootcellarlaw1_LabelJoins.j1 kj3 a0 (t166.toList != (t167 ++ t168).toList)) else (none))))) else (rootcellarlaw1_LabelJoins.j1 kj3 a0 true)))) = some r := H
         have A17 := Aside0.mk A170
         clear A170
         replace H := Option.bind_eq_some_iff.mp H
         obtain ⟨t164, A180, H⟩ := H
         replace H : ((label_Count.f a1).bind fun t165 => (if t163 = (wrap64 (t164 + t165)) then ((label_Fold.f (a0 ++ a1)).bind fun t166 => ((label_Fold.f a0).bind fun t167 => ((label_Fold.f a1).bind fun t168 => (if t167.size + t168.size ≤ 9223372036854775807 then (rootcellarlaw1_LabelJoins.j1 kj3 a0 (t166.toList != (t167 ++ t168).toList)) else (none))))) else (rootcellarlaw1_LabelJoins.j1 kj3 a0 true))) = some r := H
         have A18 := Aside0.mk A180
         clear A180
         replace H := Option.bind_eq_some_iff.mp H
         obtain ⟨t165, A190, H⟩ := H
         replace H : (if t163 = (wrap64 (t164 + t165)) then ((label_Fold.f (a0 ++ a1)).bind fun t166 => ((label_Fold.f a0).bind fun t167 => ((label_Fold.f a1).bind fun t168 => (if t167.size + t168.size ≤ 9223372036854775807 then (rootcellarlaw1_LabelJoins.j1 kj3 a0 (t166.toList != (t167 ++ t168).toList)) else (none))))) else (rootcellarlaw1_LabelJoins.j1 kj3 a0 true)) = some r := H
         have A19 := Aside0.mk A190
         clear A190
         by_cases c20 : t163 = (wrap64 (t164 + t165))
         ·rw [if_pos c20] at H
          have c20b0 : (t163 == (wrap64 (t164 + t165))) = true := beq_iff_eq.mpr c20
          have c20b1 : (t163 != (wrap64 (t164 + t165))) = false := bne_eq_false_iff_eq.mpr c20
          clear c20
          (first | rw [c20b0] | (simp only [i64_w, i32_w]; rw [c20b0]) | skip)
          replace H := Option.bind_eq_some_iff.mp H
          obtain ⟨t166, A210, H⟩ := H
          replace H : ((label_Fold.f a0).bind fun t167 => ((label_Fold.f a1).bind fun t168 => (if t167.size + t168.size ≤ 9223372036854775807 then (rootcellarlaw1_LabelJoins.j1 kj3 a0 (t166.toList != (t167 ++ t168).toList)) else (none)))) = some r := H
          have A21 := Aside0.mk A210
          clear A210
          replace H := Option.bind_eq_some_iff.mp H
          obtain ⟨t167, A220, H⟩ := H
          replace H : ((label_Fold.f a1).bind fun t168 => (if t167.size + t168.size ≤ 9223372036854775807 then (rootcellarlaw1_LabelJoins.j1 kj3 a0 (t166.toList != (t167 ++ t168).toList)) else (none))) = some r := H
          have A22 := Aside0.mk A220
          clear A220
          replace H := Option.bind_eq_some_iff.mp H
          obtain ⟨t168, A230, H⟩ := H
          replace H : (if t167.size + t168.size ≤ 9223372036854775807 then (rootcellarlaw1_LabelJoins.j1 kj3 a0 (t166.toList != (t167 ++ t168).toList)) else (none)) = some r := H
          have A23 := Aside0.mk A230
          clear A230
          by_cases c24 : t167.size + t168.size ≤ 9223372036854775807
          ·rw [if_pos c24] at H
           have c24b0 := eq_true c24
           have c24b1 : decide (t167.size + t168.size ≤ 9223372036854775807) = true := decide_eq_true c24
           try have c24b2 : (9223372036854775807 < t167.size + t168.size) = False := eq_false (Nat.not_lt.2 c24)
           have H' := Aside0.mk H
           clear H
           go_wp2_with (first | ((with_reducible refine gate_callee (f := 12) rfl ?_); refine goesL_ (some 22) rfl rfl Tryd.func12 (by kernel_rfl) rfl #[.string a0] rfl (by (try simp only [List.map_toArray, List.map_cons, List.map_nil]); first | done | rfl | (simp only [List.length_drop, List.length_take]; rfl) | (rw [wrap_sum2 (by assumption)]; rfl)) ?_; (with_reducible refine (label_Valid.calls a0 true _ A10.out (HT.below (by repeat (first | (with_reducible first | exact HB.out | apply below_alloc | apply pw_below_drewN | apply below_drew1) | exact HB.out)))).mono ?_); rintro e w25 ⟨rfl, hb⟩; refine ⟨_, rfl, ?_⟩; have n0_ := Aside0.mk (below_step (by repeat (first | (with_reducible first | exact HB.out | apply below_alloc | apply pw_below_drewN | apply below_drew1) | exact HB.out)) hb); clear HB; have HB := n0_; clear n0_; (try clear hb); (try clear hb2); (try clear hk); (try clear hi)) | (go_at_call 12; (with_reducible refine (label_Valid.calls a1 true _ A12.out (HT.below (by repeat (first | (with_reducible first | exact HB.out | apply below_alloc | apply pw_below_drewN | apply below_drew1) | exact HB.out)))).mono ?_); rintro e w26 ⟨rfl, hb⟩; have n0_ := Aside0.mk (below_step (by repeat (first | (with_reducible first | exact HB.out | apply below_alloc | apply pw_below_drewN | apply below_drew1) | exact HB.out)) hb); clear HB; have HB := n0_; clear n0_; (try clear hb); (try clear hb2); (try clear hk); (try clear hi)) | (go_at_call 12; (with_reducible refine (label_Valid.calls (a0 ++ a1) true _ A15.out (HT.below (by repeat (first | (with_reducible first | exact HB.out | apply below_alloc | apply pw_below_drewN | apply below_drew1) | exact HB.out)))).mono ?_); rintro e w27 ⟨rfl, hb⟩; have n0_ := Aside0.mk (below_step (by repeat (first | (with_reducible first | exact HB.out | apply below_alloc | apply pw_below_drewN | apply below_drew1) | exact HB.out)) hb); clear HB; have HB := n0_; clear n0_; (try clear hb); (try clear hb2); (try clear hk); (try clear hi)) | (go_at_call 14; (with_reducible refine (label_Count.calls (a0 ++ a1) t163 _ A17.out).mono ?_); rintro e w28 ⟨rfl, hb⟩; have n0_ := Aside0.mk (below_step (by repeat (first | (with_reducible first | exact HB.out | apply below_alloc | apply pw_below_drewN | apply below_drew1) | exact HB.out)) hb); clear HB; have HB := n0_; clear n0_; (try clear hb); (try clear hb2); (try clear hk); (try clear hi)) | (go_at_call 14; (with_reducible refine (label_Count.calls a0 t164 _ A18.out).mono ?_); rintro e w29 ⟨rfl, hb⟩; have n0_ := Aside0.mk (below_step (by repeat (first | (with_reducible first | exact HB.out | apply below_alloc | apply pw_below_drewN | apply below_drew1) | exact HB.out)) hb); clear HB; have HB := n0_; clear n0_; (try clear hb); (try clear hb2); (try clear hk); (try clear hi)) | (go_at_call 14; (with_reducible refine (label_Count.calls a1 t165 _ A19.out).mono ?_); rintro e w30 ⟨rfl, hb⟩; have n0_ := Aside0.mk (below_step (by repeat (first | (with_reducible first | exact HB.out | apply below_alloc | apply pw_below_drewN | apply below_drew1) | exact HB.out)) hb); clear HB; have HB := n0_; clear n0_; (try clear hb); (try clear hb2); (try clear hk); (try clear hi)) | (go_at_call 20; (with_reducible refine (label_Fold.calls (a0 ++ a1) t166 _ A21.out).mono ?_); rintro e w31 ⟨rfl, hb⟩; have n0_ := Aside0.mk (below_step (by repeat (first | (with_reducible first | exact HB.out | apply below_alloc | apply pw_below_drewN | apply below_drew1) | exact HB.out)) hb); clear HB; have HB := n0_; clear n0_; (try clear hb); (try clear hb2); (try clear hk); (try clear hi)) | (go_at_call 20; (with_reducible refine (label_Fold.calls a0 t167 _ A22.out).mono ?_); rintro e w32 ⟨rfl, hb⟩; have n0_ := Aside0.mk (below_step (by repeat (first | (with_reducible first | exact HB.out | apply below_alloc | apply pw_below_drewN | apply below_drew1) | exact HB.out)) hb); clear HB; have HB := n0_; clear n0_; (try clear hb); (try clear hb2); (try clear hk); (try clear hi)) | (go_at_call 20; (with_reducible refine (label_Fold.calls a1 t168 _ A23.out).mono ?_); rintro e w33 ⟨rfl, hb⟩; have n0_ := Aside0.mk (below_step (by repeat (first | (with_reducible first | exact HB.out | apply below_alloc | apply pw_below_drewN | apply below_drew1) | exact HB.out)) hb); clear HB; have HB := n0_; clear n0_; (try clear hb); (try clear hb2); (try clear hk); (try clear hi)))
           go_meet
           case rel => exact ⟨_, ((t166.toList != (t167 ++ t168).toList)), (by first | rfl | (simp; done) | (simp [*]; done)), H', ⟨by have := HJ3.out; first | omega | exact Nat.le_refl _⟩, ⟨by repeat (first | (with_reducible first | exact HB.out | apply below_alloc | apply pw_below_drewN | apply below_drew1) | exact HB.out)⟩⟩
          ·rw [if_neg c24] at H
           exact absurd H (by simp)
         ·rw [if_neg c20] at H
          have c20b0 : (t163 == (wrap64 (t164 + t165))) = false := beq_eq_false_iff_ne.mpr c20
          have c20b1 : (t163 != (wrap64 (t164 + t165))) = true := bne_iff_ne.mpr c20
          (first | rw [c20b0] | (simp only [i64_w, i32_w]; rw [c20b0]) | skip)
          have H' := Aside0.mk H
          clear H
          go_wp2_with (first | ((with_reducible refine gate_callee (f := 12) rfl ?_); refine goesL_ (some 22) rfl rfl Tryd.func12 (by kernel_rfl) rfl #[.string a0] rfl (by (try simp only [List.map_toArray, List.map_cons, List.map_nil]); first | done | rfl | (simp only [List.length_drop, List.length_take]; rfl) | (rw [wrap_sum2 (by assumption)]; rfl)) ?_; (with_reducible refine (label_Valid.calls a0 true _ A10.out (HT.below (by repeat (first | (with_reducible first | exact HB.out | apply below_alloc | apply pw_below_drewN | apply below_drew1) | exact HB.out)))).mono ?_); rintro e w34 ⟨rfl, hb⟩; refine ⟨_, rfl, ?_⟩; have n0_ := Aside0.mk (below_step (by repeat (first | (with_reducible first | exact HB.out | apply below_alloc | apply pw_below_drewN | apply below_drew1) | exact HB.out)) hb); clear HB; have HB := n0_; clear n0_; (try clear hb); (try clear hb2); (try clear hk); (try clear hi)) | (go_at_call 12; (with_reducible refine (label_Valid.calls a1 true _ A12.out (HT.below (by repeat (first | (with_reducible first | exact HB.out | apply below_alloc | apply pw_below_drewN | apply below_drew1) | exact HB.out)))).mono ?_); rintro e w35 ⟨rfl, hb⟩; have n0_ := Aside0.mk (below_step (by repeat (first | (with_reducible first | exact HB.out | apply below_alloc | apply pw_below_drewN | apply below_drew1) | exact HB.out)) hb); clear HB; have HB := n0_; clear n0_; (try clear hb); (try clear hb2); (try clear hk); (try clear hi)) | (go_at_call 12; (with_reducible refine (label_Valid.calls (a0 ++ a1) true _ A15.out (HT.below (by repeat (first | (with_reducible first | exact HB.out | apply below_alloc | apply pw_below_drewN | apply below_drew1) | exact HB.out)))).mono ?_); rintro e w36 ⟨rfl, hb⟩; have n0_ := Aside0.mk (below_step (by repeat (first | (with_reducible first | exact HB.out | apply below_alloc | apply pw_below_drewN | apply below_drew1) | exact HB.out)) hb); clear HB; have HB := n0_; clear n0_; (try clear hb); (try clear hb2); (try clear hk); (try clear hi)) | (go_at_call 14; (with_reducible refine (label_Count.calls (a0 ++ a1) t163 _ A17.out).mono ?_); rintro e w37 ⟨rfl, hb⟩; have n0_ := Aside0.mk (below_step (by repeat (first | (with_reducible first | exact HB.out | apply below_alloc | apply pw_below_drewN | apply below_drew1) | exact HB.out)) hb); clear HB; have HB := n0_; clear n0_; (try clear hb); (try clear hb2); (try clear hk); (try clear hi)) | (go_at_call 14; (with_reducible refine (label_Count.calls a0 t164 _ A18.out).mono ?_); rintro e w38 ⟨rfl, hb⟩; have n0_ := Aside0.mk (below_step (by repeat (first | (with_reducible first | exact HB.out | apply below_alloc | apply pw_below_drewN | apply below_drew1) | exact HB.out)) hb); clear HB; have HB := n0_; clear n0_; (try clear hb); (try clear hb2); (try clear hk); (try clear hi)) | (go_at_call 14; (with_reducible refine (label_Count.calls a1 t165 _ A19.out).mono ?_); rintro e w39 ⟨rfl, hb⟩; have n0_ := Aside0.mk (below_step (by repeat (first | (with_reducible first | exact HB.out | apply below_alloc | apply pw_below_drewN | apply below_drew1) | exact HB.out)) hb); clear HB; have HB := n0_; clear n0_; (try clear hb); (try clear hb2); (try clear hk); (try clear hi)))
          go_meet
          case rel => exact ⟨_, (true), (by first | rfl | (simp; done) | (simp [*]; done)), H', ⟨by have := HJ3.out; first | omega | exact Nat.le_refl _⟩, ⟨by repeat (first | (with_reducible first | exact HB.out | apply below_alloc | apply pw_below_drewN | apply below_drew1) | exact HB.out)⟩⟩
        ·replace c16 := Bool.eq_false_iff.mpr c16
         subst c16
         have H1 : (rootcellarlaw1_LabelJoins.j1 kj3 a0 true) = some r := by rw [if_neg (show ¬ (false = true) by decide)] at H; exact H
         clear H
         have H := H1
         clear H1
         have H' := Aside0.mk H
         clear H
         go_wp2_with (first | ((with_reducible refine gate_callee (f := 12) rfl ?_); refine goesL_ (some 22) rfl rfl Tryd.func12 (by kernel_rfl) rfl #[.string a0] rfl (by (try simp only [List.map_toArray, List.map_cons, List.map_nil]); first | done | rfl | (simp only [List.length_drop, List.length_take]; rfl) | (rw [wrap_sum2 (by assumption)]; rfl)) ?_; (with_reducible refine (label_Valid.calls a0 true _ A10.out (HT.below (by repeat (first | (with_reducible first | exact HB.out | apply below_alloc | apply pw_below_drewN | apply below_drew1) | exact HB.out)))).mono ?_); rintro e w40 ⟨rfl, hb⟩; refine ⟨_, rfl, ?_⟩; have n0_ := Aside0.mk (below_step (by repeat (first | (with_reducible first | exact HB.out | apply below_alloc | apply pw_below_drewN | apply below_drew1) | exact HB.out)) hb); clear HB; have HB := n0_; clear n0_; (try clear hb); (try clear hb2); (try clear hk); (try clear hi)) | (go_at_call 12; (with_reducible refine (label_Valid.calls a1 true _ A12.out (HT.below (by repeat (first | (with_reducible first | exact HB.out | apply below_alloc | apply pw_below_drewN | apply below_drew1) | exact HB.out)))).mono ?_); rintro e w41 ⟨rfl, hb⟩; have n0_ := Aside0.mk (below_step (by repeat (first | (with_reducible first | exact HB.out | apply below_alloc | apply pw_below_drewN | apply below_drew1) | exact HB.out)) hb); clear HB; have HB := n0_; clear n0_; (try clear hb); (try clear hb2); (try clear hk); (try clear hi)) | (go_at_call 12; (with_reducible refine (label_Valid.calls (a0 ++ a1) false _ A15.out (HT.below (by repeat (first | (with_reducible first | exact HB.out | apply below_alloc | apply pw_below_drewN | apply below_drew1) | exact HB.out)))).mono ?_); rintro e w42 ⟨rfl, hb⟩; have n0_ := Aside0.mk (below_step (by repeat (first | (with_reducible first | exact HB.out | apply below_alloc | apply pw_below_drewN | apply below_drew1) | exact HB.out)) hb); clear HB; have HB := n0_; clear n0_; (try clear hb); (try clear hb2); (try clear hk); (try clear hi)))
         go_meet
         case rel => exact ⟨_, (true), (by first | rfl | (simp; done) | (simp [*]; done)), H', ⟨by have := HJ3.out; first | omega | exact Nat.le_refl _⟩, ⟨by repeat (first | (with_reducible first | exact HB.out | apply below_alloc | apply pw_below_drewN | apply below_drew1) | exact HB.out)⟩⟩
       ·rw [if_neg c14] at H
        exact absurd H (by simp)
      ·replace c13 := Bool.eq_false_iff.mpr c13
       subst c13
       have H1 : (rootcellarlaw1_LabelJoins.j1 kj3 a0 false) = some r := by rw [if_neg (show ¬ (false = true) by decide)] at H; exact H
       clear H
       have H := H1
       clear H1
       have H' := Aside0.mk H
       clear H
       go_wp2_with (first | ((with_reducible refine gate_callee (f := 12) rfl ?_); refine goesL_ (some 22) rfl rfl Tryd.func12 (by kernel_rfl) rfl #[.string a0] rfl (by (try simp only [List.map_toArray, List.map_cons, List.map_nil]); first | done | rfl | (simp only [List.length_drop, List.length_take]; rfl) | (rw [wrap_sum2 (by assumption)]; rfl)) ?_; (with_reducible refine (label_Valid.calls a0 true _ A10.out (HT.below (by repeat (first | (with_reducible first | exact HB.out | apply below_alloc | apply pw_below_drewN | apply below_drew1) | exact HB.out)))).mono ?_); rintro e w43 ⟨rfl, hb⟩; refine ⟨_, rfl, ?_⟩; have n0_ := Aside0.mk (below_step (by repeat (first | (with_reducible first | exact HB.out | apply below_alloc | apply pw_below_drewN | apply below_drew1) | exact HB.out)) hb); clear HB; have HB := n0_; clear n0_; (try clear hb); (try clear hb2); (try clear hk); (try clear hi)) | (go_at_call 12; (with_reducible refine (label_Valid.calls a1 false _ A12.out (HT.below (by repeat (first | (with_reducible first | exact HB.out | apply below_alloc | apply pw_below_drewN | apply below_drew1) | exact HB.out)))).mono ?_); rintro e w44 ⟨rfl, hb⟩; have n0_ := Aside0.mk (below_step (by repeat (first | (with_reducible first | exact HB.out | apply below_alloc | apply pw_below_drewN | apply below_drew1) | exact HB.out)) hb); clear HB; have HB := n0_; clear n0_; (try clear hb); (try clear hb2); (try clear hk); (try clear hi)))
       go_meet
       case rel => exact ⟨_, (false), (by first | rfl | (simp; done) | (simp [*]; done)), H', ⟨by have := HJ3.out; first | omega | exact Nat.le_refl _⟩, ⟨by repeat (first | (with_reducible first | exact HB.out | apply below_alloc | apply pw_below_drewN | apply below_drew1) | exact HB.out)⟩⟩
     ·replace c11 := Bool.eq_false_iff.mpr c11
      subst c11
      have H1 : (rootcellarlaw1_LabelJoins.j1 kj3 a0 false) = some r := by rw [if_neg (show ¬ (false = true) by decide)] at H; exact H
      clear H
      have H := H1
      clear H1
      have H' := Aside0.mk H
      clear H
      go_wp2_with (first | ((with_reducible refine gate_callee (f := 12) rfl ?_); refine goesL_ (some 22) rfl rfl Tryd.func12 (by kernel_rfl) rfl #[.string a0] rfl (by (try simp only [List.map_toArray, List.map_cons, List.map_nil]); first | done | rfl | (simp only [List.length_drop, List.length_take]; rfl) | (rw [wrap_sum2 (by assumption)]; rfl)) ?_; (with_reducible refine (label_Valid.calls a0 false _ A10.out (HT.below (by repeat (first | (with_reducible first | exact HB.out | apply below_alloc | apply pw_below_drewN | apply below_drew1) | exact HB.out)))).mono ?_); rintro e w45 ⟨rfl, hb⟩; refine ⟨_, rfl, ?_⟩; have n0_ := Aside0.mk (below_step (by repeat (first | (with_reducible first | exact HB.out | apply below_alloc | apply pw_below_drewN | apply below_drew1) | exact HB.out)) hb); clear HB; have HB := n0_; clear n0_; (try clear hb); (try clear hb2); (try clear hk); (try clear hi)))
      go_meet
      case rel => exact ⟨_, (false), (by first | rfl | (simp; done) | (simp [*]; done)), H', ⟨by have := HJ3.out; first | omega | exact Nat.le_refl _⟩, ⟨by repeat (first | (with_reducible first | exact HB.out | apply below_alloc | apply pw_below_drewN | apply below_drew1) | exact HB.out)⟩⟩
    case rest =>
     clear HC9
     try clear c1
     try clear c2
     try clear p2
     try clear c6
     try clear p6
     try clear c7
     try clear c7b0
     try clear c7b1
     try clear c8
     try clear c11
     try clear c12
     try clear c13
     try clear c14
     try clear c14b0
     try clear c14b1
     try clear c14b2
     try clear c16
     try clear c20
     try clear c20b0
     try clear c20b1
     try clear c24
     try clear c24b0
     try clear c24b1
     try clear c24b2
     try clear p2
     obtain ⟨kq, x57_8, rfl, HA, HJ8, HB⟩ := hcut
     cases kq with
     | zero => exact absurd HA.out (by simp [rootcellarlaw1_LabelJoins.j1])
     | succ kj8 =>
      have H := HA.out
      clear HA
      simp only [rootcellarlaw1_LabelJoins.j1] at H
      by_cases c46 : x57_8 = true
      ·subst c46
       have H1 : (some false) = some r := by rw [if_pos rfl] at H; exact H
       clear H
       have H := H1
       clear H1
       obtain rfl := Option.some.inj H
       go_wp2
       go_ret
       exact ⟨by first | rfl | (simp [errW_none, errW_some] <;> rfl) | (simp [*, errW_none, errW_some] <;> rfl), by repeat (first | (with_reducible first | exact HB.out | apply below_alloc | apply pw_below_drewN | apply below_drew1) | exact HB.out)⟩
      ·replace c46 := Bool.eq_false_iff.mpr c46
       subst c46
       have H1 : ((label_Fold.f a0).bind fun t169 => ((label_Fold.f t169).bind fun t170 => (if t170.toList = t169.toList then (if (t169.size : Int) = (a0.size : Int) then ((label_Right.f t169).bind fun t171 => ((label_Right.f a0).bind fun t172 => (if (t171 == t172) = true then ((label_Count.f t169).bind fun t173 => ((label_Count.f a0).bind fun t174 => (some (t173 == t174)))) else (some false)))) else (some false)) else (some false)))) = some r := by rw [if_neg (show ¬ (false = true) by decide)] at H; exact H
       clear H
       have H := H1
       clear H1
       replace H := Option.bind_eq_some_iff.mp H
       obtain ⟨t169, A470, H⟩ := H
       replace H : ((label_Fold.f t169).bind fun t170 => (if t170.toList = t169.toList then (if (t169.size : Int) = (a0.size : Int) then ((label_Right.f t169).bind fun t171 => ((label_Right.f a0).bind fun t172 => (if (t171 == t172) = true then ((label_Count.f t169).bind fun t173 => ((label_Count.f a0).bind fun t174 => (some (t173 == t174)))) else (some false)))) else (some false)) else (some false))) = some r := H
       have A47 := Aside0.mk A470
       clear A470
       replace H := Option.bind_eq_some_iff.mp H
       obtain ⟨t170, A480, H⟩ := H
       replace H : (if t170.toList = t169.toList then (if (t169.size : Int) = (a0.size : Int) then ((label_Right.f t169).bind fun t171 => ((label_Right.f a0).bind fun t172 => (if (t171 == t172) = true then ((label_Count.f t169).bind fun t173 => ((label_Count.f a0).bind fun t174 => (some (t173 == t174)))) else (some false)))) else (some false)) else (some false)) = some r := H
       have A48 := Aside0.mk A480
       clear A480
       by_cases c49 : t170.toList = t169.toList
       ·rw [if_pos c49] at H
        have c49b0 : (t170.toList == t169.toList) = true := beq_iff_eq.mpr c49
        have c49b1 : (t170.toList != t169.toList) = false := bne_eq_false_iff_eq.mpr c49
        clear c49
        by_cases c50 : (t169.size : Int) = (a0.size : Int)
        ·rw [if_pos c50] at H
         have c50b0 : ((t169.size : Int) == (a0.size : Int)) = true := beq_iff_eq.mpr c50
         have c50b1 : ((t169.size : Int) != (a0.size : Int)) = false := bne_eq_false_iff_eq.mpr c50
         have c50b2 : (t169.size == a0.size) = true := by first | simpa using c50 | (simp at c50 ⊢; omega)
         clear c50
         replace H := Option.bind_eq_some_iff.mp H
         obtain ⟨t171, A510, H⟩ := H
         replace H : ((label_Right.f a0).bind fun t172 => (if (t171 == t172) = true then ((label_Count.f t169).bind fun t173 => ((label_Count.f a0).bind fun t174 => (some (t173 == t174)))) else (some false))) = some r := H
         have A51 := Aside0.mk A510
         clear A510
         replace H := Option.bind_eq_some_iff.mp H
         obtain ⟨t172, A520, H⟩ := H
         replace H : (if (t171 == t172) = true then ((label_Count.f t169).bind fun t173 => ((label_Count.f a0).bind fun t174 => (some (t173 == t174)))) else (some false)) = some r := H
         have A52 := Aside0.mk A520
         clear A520
         by_cases c53 : (t171 == t172) = true
         ·rw [if_pos c53] at H
          have c53b0 : (t171 == t172) = true := c53
          (try (have c53b1 : decide (t171 = t172) = true := by simpa using c53))
          (try (have c53b2 : (t171 == t172) = true := by simpa using c53))
          clear c53
          replace H := Option.bind_eq_some_iff.mp H
          obtain ⟨t173, A540, H⟩ := H
          replace H : ((label_Count.f a0).bind fun t174 => (some (t173 == t174))) = some r := H
          have A54 := Aside0.mk A540
          clear A540
          replace H := Option.bind_eq_some_iff.mp H
          obtain ⟨t174, A550, H⟩ := H
          replace H : (some (t173 == t174)) = some r := H
          have A55 := Aside0.mk A550
          clear A550
          obtain rfl := Option.some.inj H
          go_wp2_with (first | ((with_reducible refine gate_callee (f := 20) rfl ?_); refine goesL_ (some 59) rfl rfl Tryd.func20 (by kernel_rfl) rfl #[.string a0] rfl (by (try simp only [List.map_toArray, List.map_cons, List.map_nil]); first | done | rfl | (simp only [List.length_drop, List.length_take]; rfl) | (rw [wrap_sum2 (by assumption)]; rfl)) ?_; (with_reducible refine (label_Fold.calls a0 t169 _ A47.out).mono ?_); rintro e w56 ⟨rfl, hb⟩; refine ⟨_, rfl, ?_⟩; have n0_ := Aside0.mk (below_step (by repeat (first | (with_reducible first | exact HB.out | apply below_alloc | apply pw_below_drewN | apply below_drew1) | exact HB.out)) hb); clear HB; have HB := n0_; clear n0_; (try clear hb); (try clear hb2); (try clear hk); (try clear hi)) | ((with_reducible refine gate_callee (f := 20) rfl ?_); refine goesL_ (some 61) rfl rfl Tryd.func20 (by kernel_rfl) rfl #[.string t169] rfl (by (try simp only [List.map_toArray, List.map_cons, List.map_nil]); first | done | rfl | (simp only [List.length_drop, List.length_take]; rfl) | (rw [wrap_sum2 (by assumption)]; rfl)) ?_; (with_reducible refine (label_Fold.calls t169 t170 _ A48.out).mono ?_); rintro e w57 ⟨rfl, hb⟩; refine ⟨_, rfl, ?_⟩; have n0_ := Aside0.mk (below_step (by repeat (first | (with_reducible first | exact HB.out | apply below_alloc | apply pw_below_drewN | apply below_drew1) | exact HB.out)) hb); clear HB; have HB := n0_; clear n0_; (try clear hb); (try clear hb2); (try clear hk); (try clear hi)) | (go_at_call 18; (with_reducible refine (label_Right.calls t169 t171 _ A51.out (HT.below (by repeat (first | (with_reducible first | exact HB.out | apply below_alloc | apply pw_below_drewN | apply below_drew1) | exact HB.out)))).mono ?_); rintro e w58 ⟨rfl, hb⟩; have n0_ := Aside0.mk (below_step (by repeat (first | (with_reducible first | exact HB.out | apply below_alloc | apply pw_below_drewN | apply below_drew1) | exact HB.out)) hb); clear HB; have HB := n0_; clear n0_; (try clear hb); (try clear hb2); (try clear hk); (try clear hi)) | (go_at_call 18; (with_reducible refine (label_Right.calls a0 t172 _ A52.out (HT.below (by repeat (first | (with_reducible first | exact HB.out | apply below_alloc | apply pw_below_drewN | apply below_drew1) | exact HB.out)))).mono ?_); rintro e w59 ⟨rfl, hb⟩; have n0_ := Aside0.mk (below_step (by repeat (first | (with_reducible first | exact HB.out | apply below_alloc | apply pw_below_drewN | apply below_drew1) | exact HB.out)) hb); clear HB; have HB := n0_; clear n0_; (try clear hb); (try clear hb2); (try clear hk); (try clear hi)) | (go_at_call 14; (with_reducible refine (label_Count.calls t169 t173 _ A54.out).mono ?_); rintro e w60 ⟨rfl, hb⟩; have n0_ := Aside0.mk (below_step (by repeat (first | (with_reducible first | exact HB.out | apply below_alloc | apply pw_below_drewN | apply below_drew1) | exact HB.out)) hb); clear HB; have HB := n0_; clear n0_; (try clear hb); (try clear hb2); (try clear hk); (try clear hi)) | (go_at_call 14; (with_reducible refine (label_Count.calls a0 t174 _ A55.out).mono ?_); rintro e w61 ⟨rfl, hb⟩; have n0_ := Aside0.mk (below_step (by repeat (first | (with_reducible first | exact HB.out | apply below_alloc | apply pw_below_drewN | apply below_drew1) | exact HB.out)) hb); clear HB; have HB := n0_; clear n0_; (try clear hb); (try clear hb2); (try clear hk); (try clear hi)))
          go_ret
          exact ⟨by first | rfl | (simp [errW_none, errW_some] <;> rfl) | (simp [*, errW_none, errW_some] <;> rfl), by repeat (first | (with_reducible first | exact HB.out | apply below_alloc | apply pw_below_drewN | apply below_drew1) | exact HB.out)⟩
         ·rw [if_neg c53] at H
          have c53b0 : (t171 == t172) = false := by simpa using c53
          (try (have c53b1 : decide (t171 = t172) = false := by simpa using c53))
          (try (have c53b2 : (t171 == t172) = false := by simpa using c53))
          (try (have c53b3 : ¬ (t171 = t172) := by simpa using c53))
          clear c53
          obtain rfl := Option.some.inj H
          go_wp2_with (first | ((with_reducible refine gate_callee (f := 20) rfl ?_); refine goesL_ (some 59) rfl rfl Tryd.func20 (by kernel_rfl) rfl #[.string a0] rfl (by (try simp only [List.map_toArray, List.map_cons, List.map_nil]); first | done | rfl | (simp only [List.length_drop, List.length_take]; rfl) | (rw [wrap_sum2 (by assumption)]; rfl)) ?_; (with_reducible refine (label_Fold.calls a0 t169 _ A47.out).mono ?_); rintro e w62 ⟨rfl, hb⟩; refine ⟨_, rfl, ?_⟩; have n0_ := Aside0.mk (below_step (by repeat (first | (with_reducible first | exact HB.out | apply below_alloc | apply pw_below_drewN | apply below_drew1) | exact HB.out)) hb); clear HB; have HB := n0_; clear n0_; (try clear hb); (try clear hb2); (try clear hk); (try clear hi)) | ((with_reducible refine gate_callee (f := 20) rfl ?_); refine goesL_ (some 61) rfl rfl Tryd.func20 (by kernel_rfl) rfl #[.string t169] rfl (by (try simp only [List.map_toArray, List.map_cons, List.map_nil]); first | done | rfl | (simp only [List.length_drop, List.length_take]; rfl) | (rw [wrap_sum2 (by assumption)]; rfl)) ?_; (with_reducible refine (label_Fold.calls t169 t170 _ A48.out).mono ?_); rintro e w63 ⟨rfl, hb⟩; refine ⟨_, rfl, ?_⟩; have n0_ := Aside0.mk (below_step (by repeat (first | (with_reducible first | exact HB.out | apply below_alloc | apply pw_below_drewN | apply below_drew1) | exact HB.out)) hb); clear HB; have HB := n0_; clear n0_; (try clear hb); (try clear hb2); (try clear hk); (try clear hi)) | (go_at_call 18; (with_reducible refine (label_Right.calls t169 t171 _ A51.out (HT.below (by repeat (first | (with_reducible first | exact HB.out | apply below_alloc | apply pw_below_drewN | apply below_drew1) | exact HB.out)))).mono ?_); rintro e w64 ⟨rfl, hb⟩; have n0_ := Aside0.mk (below_step (by repeat (first | (with_reducible first | exact HB.out | apply below_alloc | apply pw_below_drewN | apply below_drew1) | exact HB.out)) hb); clear HB; have HB := n0_; clear n0_; (try clear hb); (try clear hb2); (try clear hk); (try clear hi)) | (go_at_call 18; (with_reducible refine (label_Right.calls a0 t172 _ A52.out (HT.below (by repeat (first | (with_reducible first | exact HB.out | apply below_alloc | apply pw_below_drewN | apply below_drew1) | exact HB.out)))).mono ?_); rintro e w65 ⟨rfl, hb⟩; have n0_ := Aside0.mk (below_step (by repeat (first | (with_reducible first | exact HB.out | apply below_alloc | apply pw_below_drewN | apply below_drew1) | exact HB.out)) hb); clear HB; have HB := n0_; clear n0_; (try clear hb); (try clear hb2); (try clear hk); (try clear hi)))
          go_ret
          exact ⟨by first | rfl | (simp [errW_none, errW_some] <;> rfl) | (simp [*, errW_none, errW_some] <;> rfl), by repeat (first | (with_reducible first | exact HB.out | apply below_alloc | apply pw_below_drewN | apply below_drew1) | exact HB.out)⟩
        ·rw [if_neg c50] at H
         have c50b0 : ((t169.size : Int) == (a0.size : Int)) = false := beq_eq_false_iff_ne.mpr c50
         have c50b1 : ((t169.size : Int) != (a0.size : Int)) = true := bne_iff_ne.mpr c50
         have c50b2 : (t169.size == a0.size) = false := by first | simpa using c50 | (simp at c50 ⊢; omega)
         obtain rfl := Option.some.inj H
         go_wp2_with (first | ((with_reducible refine gate_callee (f := 20) rfl ?_); refine goesL_ (some 59) rfl rfl Tryd.func20 (by kernel_rfl) rfl #[.string a0] rfl (by (try simp only [List.map_toArray, List.map_cons, List.map_nil]); first | done | rfl | (simp only [List.length_drop, List.length_take]; rfl) | (rw [wrap_sum2 (by assumption)]; rfl)) ?_; (with_reducible refine (label_Fold.calls a0 t169 _ A47.out).mono ?_); rintro e w66 ⟨rfl, hb⟩; refine ⟨_, rfl, ?_⟩; have n0_ := Aside0.mk (below_step (by repeat (first | (with_reducible first | exact HB.out | apply below_alloc | apply pw_below_drewN | apply below_drew1) | exact HB.out)) hb); clear HB; have HB := n0_; clear n0_; (try clear hb); (try clear hb2); (try clear hk); (try clear hi)) | ((with_reducible refine gate_callee (f := 20) rfl ?_); refine goesL_ (some 61) rfl rfl Tryd.func20 (by kernel_rfl) rfl #[.string t169] rfl (by (try simp only [List.map_toArray, List.map_cons, List.map_nil]); first | done | rfl | (simp only [List.length_drop, List.length_take]; rfl) | (rw [wrap_sum2 (by assumption)]; rfl)) ?_; (with_reducible refine (label_Fold.calls t169 t170 _ A48.out).mono ?_); rintro e w67 ⟨rfl, hb⟩; refine ⟨_, rfl, ?_⟩; have n0_ := Aside0.mk (below_step (by repeat (first | (with_reducible first | exact HB.out | apply below_alloc | apply pw_below_drewN | apply below_drew1) | exact HB.out)) hb); clear HB; have HB := n0_; clear n0_; (try clear hb); (try clear hb2); (try clear hk); (try clear hi)))
         go_ret
         exact ⟨by first | rfl | (simp [errW_none, errW_some] <;> rfl) | (simp [*, errW_none, errW_some] <;> rfl), by repeat (first | (with_reducible first | exact HB.out | apply below_alloc | apply pw_below_drewN | apply below_drew1) | exact HB.out)⟩
       ·rw [if_neg c49] at H
        have c49b0 : (t170.toList == t169.toList) = false := beq_eq_false_iff_ne.mpr c49
        have c49b1 : (t170.toList != t169.toList) = true := bne_iff_ne.mpr c49
        obtain rfl := Option.some.inj H
        go_wp2_with (first | ((with_reducible refine gate_callee (f := 20) rfl ?_); refine goesL_ (some 59) rfl rfl Tryd.func20 (by kernel_rfl) rfl #[.string a0] rfl (by (try simp only [List.map_toArray, List.map_cons, List.map_nil]); first | done | rfl | (simp only [List.length_drop, List.length_take]; rfl) | (rw [wrap_sum2 (by assumption)]; rfl)) ?_; (with_reducible refine (label_Fold.calls a0 t169 _ A47.out).mono ?_); rintro e w68 ⟨rfl, hb⟩; refine ⟨_, rfl, ?_⟩; have n0_ := Aside0.mk (below_step (by repeat (first | (with_reducible first | exact HB.out | apply below_alloc | apply pw_below_drewN | apply below_drew1) | exact HB.out)) hb); clear HB; have HB := n0_; clear n0_; (try clear hb); (try clear hb2); (try clear hk); (try clear hi)) | ((with_reducible refine gate_callee (f := 20) rfl ?_); refine goesL_ (some 61) rfl rfl Tryd.func20 (by kernel_rfl) rfl #[.string t169] rfl (by (try simp only [List.map_toArray, List.map_cons, List.map_nil]); first | done | rfl | (simp only [List.length_drop, List.length_take]; rfl) | (rw [wrap_sum2 (by assumption)]; rfl)) ?_; (with_reducible refine (label_Fold.calls t169 t170 _ A48.out).mono ?_); rintro e w69 ⟨rfl, hb⟩; refine ⟨_, rfl, ?_⟩; have n0_ := Aside0.mk (below_step (by repeat (first | (with_reducible first | exact HB.out | apply below_alloc | apply pw_below_drewN | apply below_drew1) | exact HB.out)) hb); clear HB; have HB := n0_; clear n0_; (try clear hb); (try clear hb2); (try clear hk); (try clear hi)))
        go_ret
        exact ⟨by first | rfl | (simp [errW_none, errW_some] <;> rfl) | (simp [*, errW_none, errW_some] <;> rfl), by repeat (first | (with_reducible first | exact HB.out | apply below_alloc | apply pw_below_drewN | apply below_drew1) | exact HB.out)⟩


end Go.Proofs.YtapkghkcaflkmaaDoor.Fn
end
section
-- Written by printx.py, a program of this session over the kit's print: each Go function as a plain Lean function, and that the Go code computes it.


namespace Go.Proofs.YtapkghkcaflkmaaDoor.Fn
open Go.RowKit Go.Proofs.YtapkghkcaflkmaaDoorW.PrintWords Go.Proofs.YtapkghkcaflkmaaDoorW.PrintLast Go.Proofs.YtapkghkcaflkmaaDoorW.PrintMore Go.Proofs.YtapkghkcaflkmaaDoor.Lf
attribute [local go_sem] max2_int min2_int max_two min_two max_three min_three max_four min_four   -- for this text's walks alone
set_option linter.unusedVariables false
set_option linter.unusedSimpArgs false

/-! ### rootcellarlaw1_LabelPlain: function 8 -/
mutual
def rootcellarlaw1_LabelPlain.j0 : Nat → ByteArray → Bool → Bool → Option (Bool)
 | 0, _, _, _ => none
 | k + 1, x0, x3, x14 => if x14 = true then (some x3) else (rootcellarlaw1_LabelPlain.l0 k x0 0)
def rootcellarlaw1_LabelPlain.l0 : Nat → ByteArray → Int → Option (Bool)
 | 0, _, _ => none
 | k + 1, x0, x4 => if x4 < (x0.size : Int) then (if 0 ≤ x4 then (if (bt x0 x4) < 33 then (some true) else (if (bt x0 x4) > 126 then (some true) else (if (bt x0 x4) = 92 then (some true) else (rootcellarlaw1_LabelPlain.l0 k x0 (wrap64 (x4 + 1)))))) else (none)) else ((label_Fold.f x0).bind fun t176 => (rootcellarlaw1_LabelPlain.l1 k x0 t176 0))
def rootcellarlaw1_LabelPlain.l1 : Nat → ByteArray → ByteArray → Int → Option (Bool)
 | 0, _, _, _ => none
 | k + 1, x0, x5, x6 => if x6 < (x5.size : Int) then (if 0 ≤ x6 then (if (bt x5 x6) ≥ 65 then (if (bt x5 x6) ≤ 90 then (some false) else (if x6 < (x0.size : Int) then (if (bt x5 x6) = (bt x0 x6) then (rootcellarlaw1_LabelPlain.l1 k x0 x5 (wrap64 (x6 + 1))) else (if (bt x5 x6) = (((bt x0 x6) + 32) % 256) then (rootcellarlaw1_LabelPlain.l1 k x0 x5 (wrap64 (x6 + 1))) else (some false))) else (none))) else (if x6 < (x0.size : Int) then (if (bt x5 x6) = (bt x0 x6) then (rootcellarlaw1_LabelPlain.l1 k x0 x5 (wrap64 (x6 + 1))) else (if (bt x5 x6) = (((bt x0 x6) + 32) % 256) then (rootcellarlaw1_LabelPlain.l1 k x0 x5 (wrap64 (x6 + 1))) else (some false))) else (none))) else (none)) else (if x0.toList = ([] : List UInt8) then ((label_Right.f x0).bind fun t177 => (if (t177 == false) = true then ((label_Valid.f x0).bind fun t178 => (if t178 = true then ((label_Count.f x0).bind fun t179 => (some (t179 == (x0.size : Int)))) else (some false))) else (some false))) else ((label_Quote.f x0).bind fun t180 => (if t180.toList = x0.toList then ((label_Right.f x0).bind fun t181 => (if (t181 == (decide ((x0.size : Int) ≤ 24))) = true then ((label_Valid.f x0).bind fun t182 => (if t182 = true then ((label_Count.f x0).bind fun t183 => (some (t183 == (x0.size : Int)))) else (some false))) else (some false))) else (some false))))
end
def rootcellarlaw1_LabelPlain.f (k : Nat) (a0 : ByteArray) : Option (Bool) := (rootcellarlaw1_shown.f).bind fun t175 => (if t175 = true then (rootcellarlaw1_LabelPlain.j0 k a0 t175 (decide ((a0.size : Int) > 400))) else (rootcellarlaw1_LabelPlain.j0 k a0 t175 true))
theorem rootcellarlaw1_LabelPlain.mono_l : ∀ k, (∀ y0 y1 y2, LeO (rootcellarlaw1_LabelPlain.j0 k y0 y1 y2) (rootcellarlaw1_LabelPlain.j0 (k + 1) y0 y1 y2)) ∧ (∀ y0 y1, LeO (rootcellarlaw1_LabelPlain.l0 k y0 y1) (rootcellarlaw1_LabelPlain.l0 (k + 1) y0 y1)) ∧ (∀ y0 y1 y2, LeO (rootcellarlaw1_LabelPlain.l1 k y0 y1 y2) (rootcellarlaw1_LabelPlain.l1 (k + 1) y0 y1 y2))
 | 0 => ⟨fun _ _ _ r h => by simp [rootcellarlaw1_LabelPlain.j0] at h, fun _ _ r h => by simp [rootcellarlaw1_LabelPlain.l0] at h, fun _ _ _ r h => by simp [rootcellarlaw1_LabelPlain.l1] at h⟩
 | k + 1 => by
  obtain ⟨ih0, ih1, ih2⟩ := rootcellarlaw1_LabelPlain.mono_l k
  refine ⟨?_, ?_, ?_⟩
  ·intro y0 y1 y2
   unfold rootcellarlaw1_LabelPlain.j0
   repeat' first
   | (with_reducible exact ih0 _ _ _)
   | (with_reducible exact ih1 _ _)
   | (with_reducible exact ih2 _ _ _)
   | (with_reducible exact LeO.refl _)
   | (with_reducible exact LeO.none _)
   | (with_reducible refine LeO.ite ?_ ?_)
   | (with_reducible refine LeO.bind ?_ (fun _ => ?_))
   | exact ih0 _ _ _
   | exact ih1 _ _
   | exact ih2 _ _ _
   | exact LeO.none _
   | refine LeO.ite ?_ ?_
   | refine LeO.bind ?_ (fun _ => ?_)
  ·intro y0 y1
   unfold rootcellarlaw1_LabelPlain.l0
   repeat' first
   | (with_reducible exact ih0 _ _ _)
   | (with_reducible exact ih1 _ _)
   | (with_reducible exact ih2 _ _ _)
   | (with_reducible exact LeO.refl _)
   | (with_reducible exact LeO.none _)
   | (with_reducible refine LeO.ite ?_ ?_)
   | (with_reducible refine LeO.bind ?_ (fun _ => ?_))
   | exact ih0 _ _ _
   | exact ih1 _ _
   | exact ih2 _ _ _
   | exact LeO.none _
   | refine LeO.ite ?_ ?_
   | refine LeO.bind ?_ (fun _ => ?_)
  ·intro y0 y1 y2
   unfold rootcellarlaw1_LabelPlain.l1
   repeat' first
   | (with_reducible exact ih0 _ _ _)
   | (with_reducible exact ih1 _ _)
   | (with_reducible exact ih2 _ _ _)
   | (with_reducible exact LeO.refl _)
   | (with_reducible exact LeO.none _)
   | (with_reducible refine LeO.ite ?_ ?_)
   | (with_reducible refine LeO.bind ?_ (fun _ => ?_))
   | exact ih0 _ _ _
   | exact ih1 _ _
   | exact ih2 _ _ _
   | exact LeO.none _
   | refine LeO.ite ?_ ?_
   | refine LeO.bind ?_ (fun _ => ?_)
theorem rootcellarlaw1_LabelPlain.mono : ∀ a0 k, LeO (rootcellarlaw1_LabelPlain.f k a0) (rootcellarlaw1_LabelPlain.f (k + 1) a0) := by
 intro a0 k
 obtain ⟨ih0, ih1, ih2⟩ := rootcellarlaw1_LabelPlain.mono_l k
 unfold rootcellarlaw1_LabelPlain.f
 repeat' first
   | (with_reducible exact ih0 _ _ _)
   | (with_reducible exact ih1 _ _)
   | (with_reducible exact ih2 _ _ _)
   | (with_reducible exact LeO.refl _)
   | (with_reducible exact LeO.none _)
   | (with_reducible refine LeO.ite ?_ ?_)
   | (with_reducible refine LeO.bind ?_ (fun _ => ?_))
   | exact ih0 _ _ _
   | exact ih1 _ _
   | exact ih2 _ _ _
   | exact LeO.none _
   | refine LeO.ite ?_ ?_
   | refine LeO.bind ?_ (fun _ => ?_)
set_option maxHeartbeats 8000000 in
set_option maxRecDepth 100000 in
theorem rootcellarlaw1_LabelPlain.calls (k : Nat) (a0 : ByteArray) (r : Bool) (w : World) (h : rootcellarlaw1_LabelPlain.f k a0 = some r) (HT : Tabs w) :
  Calls Tryd.prog 8 #[.string a0] w fun e w' => e = .returned (.bool r) ∧ Below w.heap.size w w' := by
 have HB := Aside0.mk (Below.refl w.heap.size w)
 have H : ((rootcellarlaw1_shown.f).bind fun t175 => (if t175 = true then (rootcellarlaw1_LabelPlain.j0 k a0 t175 (decide ((a0.size : Int) > 400))) else (rootcellarlaw1_LabelPlain.j0 k a0 t175 true))) = some r := h
 clear h
 replace H := Option.bind_eq_some_iff.mp H
 obtain ⟨t175, A20, H⟩ := H
 replace H : (if t175 = true then (rootcellarlaw1_LabelPlain.j0 k a0 t175 (decide ((a0.size : Int) > 400))) else (rootcellarlaw1_LabelPlain.j0 k a0 t175 true)) = some r := H
 have A2 := Aside0.mk A20
 clear A20
 have HC3 := Aside0.mk H
 clear H
 go_enter Tryd.func8, Tryd.ntmps8
 go_upto_region 2 with (first | (go_at_call 11; (with_reducible refine (rootcellarlaw1_shown.calls  t175 _ A2.out (HT.below (by repeat (first | (with_reducible first | exact HB.out | apply below_alloc | apply pw_below_drewN | apply below_drew1) | exact HB.out)))).mono ?_); rintro e w4 ⟨rfl, hb⟩; have n0_ := Aside0.mk (below_step (by repeat (first | (with_reducible first | exact HB.out | apply below_alloc | apply pw_below_drewN | apply below_drew1) | exact HB.out)) hb); clear HB; have HB := n0_; clear n0_; (try clear hb); (try clear hb2); (try clear hk); (try clear hi)))
 repeat (go_quiet (first | (go_at_call 11; (with_reducible refine (rootcellarlaw1_shown.calls  t175 _ A2.out (HT.below (by repeat (first | (with_reducible first | exact HB.out | apply below_alloc | apply pw_below_drewN | apply below_drew1) | exact HB.out)))).mono ?_); rintro e w4 ⟨rfl, hb⟩; have n0_ := Aside0.mk (below_step (by repeat (first | (with_reducible first | exact HB.out | apply below_alloc | apply pw_below_drewN | apply below_drew1) | exact HB.out)) hb); clear HB; have HB := n0_; clear n0_; (try clear hb); (try clear hb2); (try clear hk); (try clear hi))); go_upto_region 2 with (first | (go_at_call 11; (with_reducible refine (rootcellarlaw1_shown.calls  t175 _ A2.out (HT.below (by repeat (first | (with_reducible first | exact HB.out | apply below_alloc | apply pw_below_drewN | apply below_drew1) | exact HB.out)))).mono ?_); rintro e w4 ⟨rfl, hb⟩; have n0_ := Aside0.mk (below_step (by repeat (first | (with_reducible first | exact HB.out | apply below_alloc | apply pw_below_drewN | apply below_drew1) | exact HB.out)) hb); clear HB; have HB := n0_; clear n0_; (try clear hb); (try clear hb2); (try clear hk); (try clear hi))))
 (try simp only [Act.put, List.setIfInBounds_toArray, List.set_cons_zero, List.set_cons_succ])
 go_cut [14] (fun v14 wc => ∃ (kq : Nat) (x14_2 : Bool), v14 = .bool x14_2 ∧ Aside0 (rootcellarlaw1_LabelPlain.j0 kq a0 t175 x14_2 = some r) ∧ Aside0 (kq ≤ k) ∧ Aside0 (Below w.heap.size w wc))
 case first =>
  have H := HC3.out
  clear HC3
  by_cases c5 : t175 = true
  ·subst c5
   have H1 : (rootcellarlaw1_LabelPlain.j0 k a0 true (decide ((a0.size : Int) > 400))) = some r := by rw [if_pos rfl] at H; exact H
   clear H
   have H := H1
   clear H1
   have H' := Aside0.mk H
   clear H
   go_wp2
   repeat (go_quiet (fail); try go_wp2)
   go_meet
   case rel => exact ⟨_, (decide ((a0.size : Int) > 400)), (by first | rfl | (simp; done) | (simp [*]; done)), H', ⟨by first | omega | exact Nat.le_refl _⟩, ⟨by repeat (first | (with_reducible first | exact HB.out | apply below_alloc | apply pw_below_drewN | apply below_drew1) | exact HB.out)⟩⟩
  ·replace c5 := Bool.eq_false_iff.mpr c5
   subst c5
   have H1 : (rootcellarlaw1_LabelPlain.j0 k a0 false true) = some r := by rw [if_neg (show ¬ (false = true) by decide)] at H; exact H
   clear H
   have H := H1
   clear H1
   have H' := Aside0.mk H
   clear H
   go_wp2
   repeat (go_quiet (fail); try go_wp2)
   go_meet
   case rel => exact ⟨_, (true), (by first | rfl | (simp; done) | (simp [*]; done)), H', ⟨by first | omega | exact Nat.le_refl _⟩, ⟨by repeat (first | (with_reducible first | exact HB.out | apply below_alloc | apply pw_below_drewN | apply below_drew1) | exact HB.out)⟩⟩
 case rest =>
  clear HC3
  try clear p2
  try clear c5
  obtain ⟨kq, x14_2, rfl, HA, HJ2, HB⟩ := hcut
  cases kq with
  | zero => exact absurd HA.out (by simp [rootcellarlaw1_LabelPlain.j0])
  | succ kj2 =>
   have H := HA.out
   clear HA
   simp only [rootcellarlaw1_LabelPlain.j0] at H
   by_cases c6 : x14_2 = true
   ·subst c6
    have H1 : (some t175) = some r := by rw [if_pos rfl] at H; exact H
    clear H
    have H := H1
    clear H1
    obtain rfl := Option.some.inj H
    go_wp2
    repeat (go_quiet (fail); try go_wp2)
    go_ret
    exact ⟨by first | rfl | (simp [errW_none, errW_some] <;> rfl) | (simp [*, errW_none, errW_some] <;> rfl), by repeat (first | (with_reducible first | exact HB.out | apply below_alloc | apply pw_below_drewN | apply below_drew1) | exact HB.out)⟩
   ·replace c6 := Bool.eq_false_iff.mpr c6
    subst c6
    have H1 : (rootcellarlaw1_LabelPlain.l0 kj2 a0 0) = some r := by rw [if_neg (show ¬ (false = true) by decide)] at H; exact H
    clear H
    have H := H1
    clear H1
    have H' := Aside0.mk H
    clear H
    go_wp2
    repeat (go_quiet (fail); try go_wp2)
    go_loopg [4] kj2 (fun kq v4 w' => ∃ (x4_2 : Int), v4 = .int .i64 x4_2 ∧ Aside0 (rootcellarlaw1_LabelPlain.l0 kq a0 x4_2 = some r) ∧ Aside0 (kq ≤ kj2) ∧ Aside0 (Below w.heap.size w w'))
    case atStart => exact ⟨(0), (by first | rfl | (simp; done) | (simp [*]; done)), H', ⟨Nat.le_refl _⟩, ⟨by repeat (first | (with_reducible first | exact HB.out | apply below_alloc | apply pw_below_drewN | apply below_drew1) | exact HB.out)⟩⟩
    case round =>
     clear H'
     try clear p2
     try clear c5
     try clear c6
     try clear p2
     obtain ⟨x4_2, rfl, HA, HK2, HB⟩ := hrel
     cases gk with
     | zero => exact absurd HA.out (by simp [rootcellarlaw1_LabelPlain.l0])
     | succ k2 =>
      have H := HA.out
      clear HA
      simp only [rootcellarlaw1_LabelPlain.l0] at H
      by_cases c7 : x4_2 < (a0.size : Int)
      ·rw [if_pos c7] at H
       have c7b0 : decide (x4_2 < (a0.size : Int)) = true := decide_eq_true c7
       clear c7
       by_cases c8 : 0 ≤ x4_2
       ·rw [if_pos c8] at H
        have c8b0 : decide (0 ≤ x4_2) = true := decide_eq_true c8
        clear c8
        by_cases c10 : (bt a0 x4_2) < 33
        ·rw [if_pos c10] at H
         have c10b0 : decide ((bt a0 x4_2) < 33) = true := decide_eq_true c10
         clear c10
         obtain rfl := Option.some.inj H
         have p9 : 0 ≤ (x4_2 : Int) := of_decide_eq_true (by first | (with_reducible assumption) | assumption)
         have q9 : x4_2 < (a0.size : Int) := of_decide_eq_true (by first | (with_reducible assumption) | assumption)
         have hx9 := bt_at a0 x4_2
         replace p9 := eq_true p9
         replace q9 := eq_true q9
         go_wp2
         repeat (go_quiet (fail); try go_wp2)
         go_ret
         exact ⟨by first | rfl | (simp [errW_none, errW_some] <;> rfl) | (simp [*, errW_none, errW_some] <;> rfl), by repeat (first | (with_reducible first | exact HB.out | apply below_alloc | apply pw_below_drewN | apply below_drew1) | exact HB.out)⟩
        ·rw [if_neg c10] at H
         have c10b0 : decide ((bt a0 x4_2) < 33) = false := decide_eq_false c10
         clear c10
         by_cases c12 : (bt a0 x4_2) > 126
         ·rw [if_pos c12] at H
          have c12b0 : decide (126 < (bt a0 x4_2)) = true := decide_eq_true c12
          clear c12
          obtain rfl := Option.some.inj H
          have p9 : 0 ≤ (x4_2 : Int) := of_decide_eq_true (by first | (with_reducible assumption) | assumption)
          have q9 : x4_2 < (a0.size : Int) := of_decide_eq_true (by first | (with_reducible assumption) | assumption)
          have hx9 := bt_at a0 x4_2
          replace p9 := eq_true p9
          replace q9 := eq_true q9
          have p11 : 0 ≤ (x4_2 : Int) := of_decide_eq_true (by first | (with_reducible assumption) | assumption)
          have q11 : x4_2 < (a0.size : Int) := of_decide_eq_true (by first | (with_reducible assumption) | assumption)
          have hx11 := bt_at a0 x4_2
          replace p11 := eq_true p11
          replace q11 := eq_true q11
          go_wp2
          repeat (go_quiet (fail); try go_wp2)
          go_ret
          exact ⟨by first | rfl | (simp [errW_none, errW_some] <;> rfl) | (simp [*, errW_none, errW_some] <;> rfl), by repeat (first | (with_reducible first | exact HB.out | apply below_alloc | apply pw_below_drewN | apply below_drew1) | exact HB.out)⟩
         ·rw [if_neg c12] at H
          have c12b0 : decide (126 < (bt a0 x4_2)) = false := decide_eq_false c12
          clear c12
          by_cases c14 : (bt a0 x4_2) = 92
          ·rw [if_pos c14] at H
           have c14b0 : ((bt a0 x4_2) == 92) = true := beq_iff_eq.mpr c14
           have c14b1 : ((bt a0 x4_2) != 92) = false := bne_eq_false_iff_eq.mpr c14
           clear c14
           obtain rfl := Option.some.inj H
           have p9 : 0 ≤ (x4_2 : Int) := of_decide_eq_true (by first | (with_reducible assumption) | assumption)
           have q9 : x4_2 < (a0.size : Int) := of_decide_eq_true (by first | (with_reducible assumption) | assumption)
           have hx9 := bt_at a0 x4_2
           replace p9 := eq_true p9
           replace q9 := eq_true q9
           have p11 : 0 ≤ (x4_2 : Int) := of_decide_eq_true (by first | (with_reducible assumption) | assumption)
           have q11 : x4_2 < (a0.size : Int) := of_decide_eq_true (by first | (with_reducible assumption) | assumption)
           have hx11 := bt_at a0 x4_2
           replace p11 := eq_true p11
           replace q11 := eq_true q11
           have p13 : 0 ≤ (x4_2 : Int) := of_decide_eq_true (by first | (with_reducible assumption) | assumption)
           have q13 : x4_2 < (a0.size : Int) := of_decide_eq_true (by first | (with_reducible assumption) | assumption)
           have hx13 := bt_at a0 x4_2
           replace p13 := eq_true p13
           replace q13 := eq_true q13
           go_wp2
           repeat (go_quiet (fail); try go_wp2)
           go_ret
           exact ⟨by first | rfl | (simp [errW_none, errW_some] <;> rfl) | (simp [*, errW_none, errW_some] <;> rfl), by repeat (first | (with_reducible first | exact HB.out | apply below_alloc | apply pw_below_drewN | apply below_drew1) | exact HB.out)⟩
          ·rw [if_neg c14] at H
           have c14b0 : ((bt a0 x4_2) == 92) = false := beq_eq_false_iff_ne.mpr c14
           have c14b1 : ((bt a0 x4_2) != 92) = true := bne_iff_ne.mpr c14
           have H' := Aside0.mk H
           clear H
           have p9 : 0 ≤ (x4_2 : Int) := of_decide_eq_true (by first | (with_reducible assumption) | assumption)
           have q9 : x4_2 < (a0.size : Int) := of_decide_eq_true (by first | (with_reducible assumption) | assumption)
           have hx9 := bt_at a0 x4_2
           replace p9 := eq_true p9
           replace q9 := eq_true q9
           have p11 : 0 ≤ (x4_2 : Int) := of_decide_eq_true (by first | (with_reducible assumption) | assumption)
           have q11 : x4_2 < (a0.size : Int) := of_decide_eq_true (by first | (with_reducible assumption) | assumption)
           have hx11 := bt_at a0 x4_2
           replace p11 := eq_true p11
           replace q11 := eq_true q11
           have p13 : 0 ≤ (x4_2 : Int) := of_decide_eq_true (by first | (with_reducible assumption) | assumption)
           have q13 : x4_2 < (a0.size : Int) := of_decide_eq_true (by first | (with_reducible assumption) | assumption)
           have hx13 := bt_at a0 x4_2
           replace p13 := eq_true p13
           replace q13 := eq_true q13
           go_wp2
           repeat (go_quiet (fail); try go_wp2)
           go_roundg k2
           case measure => have := HJ2.out; have := HK2.out; omega
           case rel => exact ⟨(wrap64 (x4_2 + 1)), (by first | rfl | (simp; done) | (simp [*]; done)), H', ⟨by have := HJ2.out; have := HK2.out; omega⟩, ⟨by repeat (first | (with_reducible first | exact HB.out | apply below_alloc | apply pw_below_drewN | apply below_drew1) | exact HB.out)⟩⟩
       ·rw [if_neg c8] at H
        exact absurd H (by simp)
      ·rw [if_neg c7] at H
       have c7b0 : decide (x4_2 < (a0.size : Int)) = false := decide_eq_false c7
       clear c7
       replace H := Option.bind_eq_some_iff.mp H
       obtain ⟨t176, A150, H⟩ := H
       replace H : (rootcellarlaw1_LabelPlain.l1 k2 a0 t176 0) = some r := H
       have A15 := Aside0.mk A150
       clear A150
       have H' := Aside0.mk H
       clear H
       go_wp2_with (first | (go_at_call 20; (with_reducible refine (label_Fold.calls a0 t176 _ A15.out).mono ?_); rintro e w16 ⟨rfl, hb⟩; have n0_ := Aside0.mk (below_step (by repeat (first | (with_reducible first | exact HB.out | apply below_alloc | apply pw_below_drewN | apply below_drew1) | exact HB.out)) hb); clear HB; have HB := n0_; clear n0_; (try clear hb); (try clear hb2); (try clear hk); (try clear hi)))
       repeat (go_quiet (first | (go_at_call 20; (with_reducible refine (label_Fold.calls a0 t176 _ A15.out).mono ?_); rintro e w16 ⟨rfl, hb⟩; have n0_ := Aside0.mk (below_step (by repeat (first | (with_reducible first | exact HB.out | apply below_alloc | apply pw_below_drewN | apply below_drew1) | exact HB.out)) hb); clear HB; have HB := n0_; clear n0_; (try clear hb); (try clear hb2); (try clear hk); (try clear hi))); try go_wp2_with (first | (go_at_call 20; (with_reducible refine (label_Fold.calls a0 t176 _ A15.out).mono ?_); rintro e w16 ⟨rfl, hb⟩; have n0_ := Aside0.mk (below_step (by repeat (first | (with_reducible first | exact HB.out | apply below_alloc | apply pw_below_drewN | apply below_drew1) | exact HB.out)) hb); clear HB; have HB := n0_; clear n0_; (try clear hb); (try clear hb2); (try clear hk); (try clear hi))))
       go_loopg [6] k2 (fun kq v6 w' => ∃ (x6_3 : Int), v6 = .int .i64 x6_3 ∧ Aside0 (rootcellarlaw1_LabelPlain.l1 kq a0 t176 x6_3 = some r) ∧ Aside0 (kq ≤ k2) ∧ Aside0 (Below w.heap.size w w'))
       case atStart => exact ⟨(0), (by first | rfl | (simp; done) | (simp [*]; done)), H', ⟨Nat.le_refl _⟩, ⟨by repeat (first | (with_reducible first | exact HB.out | apply below_alloc | apply pw_below_drewN | apply below_drew1) | exact HB.out)⟩⟩
       case round =>
        clear H'
        try clear c1
        try clear p1
        try clear q1
        try clear hx1
        try clear p2
        try clear c5
        try clear c6
        try clear p6
        try clear c7
        try clear c7b0
        try clear c8
        try clear c8b0
        try clear p9
        try clear q9
        try clear hx9
        try clear c10
        try clear c10b0
        try clear p11
        try clear q11
        try clear hx11
        try clear c12
        try clear c12b0
        try clear p13
        try clear q13
        try clear hx13
        try clear c14
        try clear c14b0
        try clear c14b1
        try clear p11
        try clear p13
        try clear p2
        try clear p9
        try clear q11
        try clear q13
        try clear q9
        obtain ⟨x6_3, rfl, HA, HK3, HB⟩ := hrel
        cases gk with
        | zero => exact absurd HA.out (by simp [rootcellarlaw1_LabelPlain.l1])
        | succ k3 =>
         have H := HA.out
         clear HA
         simp only [rootcellarlaw1_LabelPlain.l1] at H
         by_cases c17 : x6_3 < (t176.size : Int)
         ·rw [if_pos c17] at H
          have c17b0 : decide (x6_3 < (t176.size : Int)) = true := decide_eq_true c17
          clear c17
          by_cases c18 : 0 ≤ x6_3
          ·rw [if_pos c18] at H
           have c18b0 : decide (0 ≤ x6_3) = true := decide_eq_true c18
           clear c18
           by_cases c20 : (bt t176 x6_3) ≥ 65
           ·rw [if_pos c20] at H
            have c20b0 : decide (65 ≤ (bt t176 x6_3)) = true := decide_eq_true c20
            clear c20
            by_cases c22 : (bt t176 x6_3) ≤ 90
            ·rw [if_pos c22] at H
             have c22b0 : decide ((bt t176 x6_3) ≤ 90) = true := decide_eq_true c22
             clear c22
             obtain rfl := Option.some.inj H
             have p19 : 0 ≤ (x6_3 : Int) := of_decide_eq_true (by first | (with_reducible assumption) | assumption)
             have q19 : x6_3 < (t176.size : Int) := of_decide_eq_true (by first | (with_reducible assumption) | assumption)
             have hx19 := bt_at t176 x6_3
             replace p19 := eq_true p19
             replace q19 := eq_true q19
             have p21 : 0 ≤ (x6_3 : Int) := of_decide_eq_true (by first | (with_reducible assumption) | assumption)
             have q21 : x6_3 < (t176.size : Int) := of_decide_eq_true (by first | (with_reducible assumption) | assumption)
             have hx21 := bt_at t176 x6_3
             replace p21 := eq_true p21
             replace q21 := eq_true q21
             go_wp2
             repeat (go_quiet (fail); try go_wp2)
             go_ret
             exact ⟨by first | rfl | (simp [errW_none, errW_some] <;> rfl) | (simp [*, errW_none, errW_some] <;> rfl), by repeat (first | (with_reducible first | exact HB.out | apply below_alloc | apply pw_below_drewN | apply below_drew1) | exact HB.out)⟩
            ·rw [if_neg c22] at H
             have c22b0 : decide ((bt t176 x6_3) ≤ 90) = false := decide_eq_false c22
             clear c22
             by_cases c24 : x6_3 < (a0.size : Int)
             ·rw [if_pos c24] at H
              have c24b0 : decide (x6_3 < (a0.size : Int)) = true := decide_eq_true c24
              clear c24
              by_cases c26 : (bt t176 x6_3) = (bt a0 x6_3)
              ·rw [if_pos c26] at H
               have c26b0 : ((bt t176 x6_3) == (bt a0 x6_3)) = true := beq_iff_eq.mpr c26
               have c26b1 : ((bt t176 x6_3) != (bt a0 x6_3)) = false := bne_eq_false_iff_eq.mpr c26
               clear c26
               have H' := Aside0.mk H
               clear H
               have p19 : 0 ≤ (x6_3 : Int) := of_decide_eq_true (by first | (with_reducible assumption) | assumption)
               have q19 : x6_3 < (t176.size : Int) := of_decide_eq_true (by first | (with_reducible assumption) | assumption)
               have hx19 := bt_at t176 x6_3
               replace p19 := eq_true p19
               replace q19 := eq_true q19
               have p21 : 0 ≤ (x6_3 : Int) := of_decide_eq_true (by first | (with_reducible assumption) | assumption)
               have q21 : x6_3 < (t176.size : Int) := of_decide_eq_true (by first | (with_reducible assumption) | assumption)
               have hx21 := bt_at t176 x6_3
               replace p21 := eq_true p21
               replace q21 := eq_true q21
               have p23 : 0 ≤ (x6_3 : Int) := of_decide_eq_true (by first | (with_reducible assumption) | assumption)
               have q23 : x6_3 < (t176.size : Int) := of_decide_eq_true (by first | (with_reducible assumption) | assumption)
               have hx23 := bt_at t176 x6_3
               replace p23 := eq_true p23
               replace q23 := eq_true q23
               have p25 : 0 ≤ (x6_3 : Int) := of_decide_eq_true (by first | (with_reducible assumption) | assumption)
               have q25 : x6_3 < (a0.size : Int) := of_decide_eq_true (by first | (with_reducible assumption) | assumption)
               have hx25 := bt_at a0 x6_3
               replace p25 := eq_true p25
               replace q25 := eq_true q25
               go_wp2
               repeat (go_quiet (fail); try go_wp2)
               go_roundg k3
               case measure => have := HJ2.out; have := HK2.out; have := HK3.out; omega
               case rel => exact ⟨(wrap64 (x6_3 + 1)), (by first | rfl | (simp; done) | (simp [*]; done)), H', ⟨by have := HJ2.out; have := HK2.out; have := HK3.out; omega⟩, ⟨by repeat (first | (with_reducible first | exact HB.out | apply below_alloc | apply pw_below_drewN | apply below_drew1) | exact HB.out)⟩⟩
              ·rw [if_neg c26] at H
               have c26b0 : ((bt t176 x6_3) == (bt a0 x6_3)) = false := beq_eq_false_iff_ne.mpr c26
               have c26b1 : ((bt t176 x6_3) != (bt a0 x6_3)) = true := bne_iff_ne.mpr c26
               by_cases c29 : (bt t176 x6_3) = (((bt a0 x6_3) + 32) % 256)
               ·rw [if_pos c29] at H
                have c29b0 : ((bt t176 x6_3) == (((bt a0 x6_3) + 32) % 256)) = true := beq_iff_eq.mpr c29
                have c29b1 : ((bt t176 x6_3) != (((bt a0 x6_3) + 32) % 256)) = false := bne_eq_false_iff_eq.mpr c29
                clear c29
                have H' := Aside0.mk H
                clear H
                have p19 : 0 ≤ (x6_3 : Int) := of_decide_eq_true (by first | (with_reducible assumption) | assumption)
                have q19 : x6_3 < (t176.size : Int) := of_decide_eq_true (by first | (with_reducible assumption) | assumption)
                have hx19 := bt_at t176 x6_3
                replace p19 := eq_true p19
                replace q19 := eq_true q19
                have p21 : 0 ≤ (x6_3 : Int) := of_decide_eq_true (by first | (with_reducible assumption) | assumption)
                have q21 : x6_3 < (t176.size : Int) := of_decide_eq_true (by first | (with_reducible assumption) | assumption)
                have hx21 := bt_at t176 x6_3
                replace p21 := eq_true p21
                replace q21 := eq_true q21
                have p23 : 0 ≤ (x6_3 : Int) := of_decide_eq_true (by first | (with_reducible assumption) | assumption)
                have q23 : x6_3 < (t176.size : Int) := of_decide_eq_true (by first | (with_reducible assumption) | assumption)
                have hx23 := bt_at t176 x6_3
                replace p23 := eq_true p23
                replace q23 := eq_true q23
                have p25 : 0 ≤ (x6_3 : Int) := of_decide_eq_true (by first | (with_reducible assumption) | assumption)
                have q25 : x6_3 < (a0.size : Int) := of_decide_eq_true (by first | (with_reducible assumption) | assumption)
                have hx25 := bt_at a0 x6_3
                replace p25 := eq_true p25
                replace q25 := eq_true q25
                have p27 : 0 ≤ (x6_3 : Int) := of_decide_eq_true (by first | (with_reducible assumption) | assumption)
                have q27 : x6_3 < (t176.size : Int) := of_decide_eq_true (by first | (with_reducible assumption) | assumption)
                have hx27 := bt_at t176 x6_3
                replace p27 := eq_true p27
                replace q27 := eq_true q27
                have p28 : 0 ≤ (x6_3 : Int) := of_decide_eq_true (by first | (with_reducible assumption) | assumption)
                have q28 : x6_3 < (a0.size : Int) := of_decide_eq_true (by first | (with_reducible assumption) | assumption)
                have hx28 := bt_at a0 x6_3
                replace p28 := eq_true p28
                replace q28 := eq_true q28
                go_wp2
                repeat (go_quiet (fail); try go_wp2)
                go_roundg k3
                case measure => have := HJ2.out; have := HK2.out; have := HK3.out; omega
                case rel => exact ⟨(wrap64 (x6_3 + 1)), (by first | rfl | (simp; done) | (simp [*]; done)), H', ⟨by have := HJ2.out; have := HK2.out; have := HK3.out; omega⟩, ⟨by repeat (first | (with_reducible first | exact HB.out | apply below_alloc | apply pw_below_drewN | apply below_drew1) | exact HB.out)⟩⟩
               ·rw [if_neg c29] at H
                have c29b0 : ((bt t176 x6_3) == (((bt a0 x6_3) + 32) % 256)) = false := beq_eq_false_iff_ne.mpr c29
                have c29b1 : ((bt t176 x6_3) != (((bt a0 x6_3) + 32) % 256)) = true := bne_iff_ne.mpr c29
                obtain rfl := Option.some.inj H
                have p19 : 0 ≤ (x6_3 : Int) := of_decide_eq_true (by first | (with_reducible assumption) | assumption)
                have q19 : x6_3 < (t176.size : Int) := of_decide_eq_true (by first | (with_reducible assumption) | assumption)
                have hx19 := bt_at t176 x6_3
                replace p19 := eq_true p19
                replace q19 := eq_true q19
                have p21 : 0 ≤ (x6_3 : Int) := of_decide_eq_true (by first | (with_reducible assumption) | assumption)
                have q21 : x6_3 < (t176.size : Int) := of_decide_eq_true (by first | (with_reducible assumption) | assumption)
                have hx21 := bt_at t176 x6_3
                replace p21 := eq_true p21
                replace q21 := eq_true q21
                have p23 : 0 ≤ (x6_3 : Int) := of_decide_eq_true (by first | (with_reducible assumption) | assumption)
                have q23 : x6_3 < (t176.size : Int) := of_decide_eq_true (by first | (with_reducible assumption) | assumption)
                have hx23 := bt_at t176 x6_3
                replace p23 := eq_true p23
                replace q23 := eq_true q23
                have p25 : 0 ≤ (x6_3 : Int) := of_decide_eq_true (by first | (with_reducible assumption) | assumption)
                have q25 : x6_3 < (a0.size : Int) := of_decide_eq_true (by first | (with_reducible assumption) | assumption)
                have hx25 := bt_at a0 x6_3
                replace p25 := eq_true p25
                replace q25 := eq_true q25
                have p27 : 0 ≤ (x6_3 : Int) := of_decide_eq_true (by first | (with_reducible assumption) | assumption)
                have q27 : x6_3 < (t176.size : Int) := of_decide_eq_true (by first | (with_reducible assumption) | assumption)
                have hx27 := bt_at t176 x6_3
                replace p27 := eq_true p27
                replace q27 := eq_true q27
                have p28 : 0 ≤ (x6_3 : Int) := of_decide_eq_true (by first | (with_reducible assumption) | assumption)
                have q28 : x6_3 < (a0.size : Int) := of_decide_eq_true (by first | (with_reducible assumption) | assumption)
                have hx28 := bt_at a0 x6_3
                replace p28 := eq_true p28
                replace q28 := eq_true q28
                go_wp2
                repeat (go_quiet (fail); try go_wp2)
                go_ret
                exact ⟨by first | rfl | (simp [errW_none, errW_some] <;> rfl) | (simp [*, errW_none, errW_some] <;> rfl), by repeat (first | (with_reducible first | exact HB.out | apply below_alloc | apply pw_below_drewN | apply below_drew1) | exact HB.out)⟩
             ·rw [if_neg c24] at H
              exact absurd H (by simp)
           ·rw [if_neg c20] at H
            have c20b0 : decide (65 ≤ (bt t176 x6_3)) = false := decide_eq_false c20
            clear c20
            by_cases c31 : x6_3 < (a0.size : Int)
            ·rw [if_pos c31] at H
             have c31b0 : decide (x6_3 < (a0.size : Int)) = true := decide_eq_true c31
             clear c31
             by_cases c33 : (bt t176 x6_3) = (bt a0 x6_3)
             ·rw [if_pos c33] at H
              have c33b0 : ((bt t176 x6_3) == (bt a0 x6_3)) = true := beq_iff_eq.mpr c33
              have c33b1 : ((bt t176 x6_3) != (bt a0 x6_3)) = false := bne_eq_false_iff_eq.mpr c33
              clear c33
              have H' := Aside0.mk H
              clear H
              have p19 : 0 ≤ (x6_3 : Int) := of_decide_eq_true (by first | (with_reducible assumption) | assumption)
              have q19 : x6_3 < (t176.size : Int) := of_decide_eq_true (by first | (with_reducible assumption) | assumption)
              have hx19 := bt_at t176 x6_3
              replace p19 := eq_true p19
              replace q19 := eq_true q19
              have p30 : 0 ≤ (x6_3 : Int) := of_decide_eq_true (by first | (with_reducible assumption) | assumption)
              have q30 : x6_3 < (t176.size : Int) := of_decide_eq_true (by first | (with_reducible assumption) | assumption)
              have hx30 := bt_at t176 x6_3
              replace p30 := eq_true p30
              replace q30 := eq_true q30
              have p32 : 0 ≤ (x6_3 : Int) := of_decide_eq_true (by first | (with_reducible assumption) | assumption)
              have q32 : x6_3 < (a0.size : Int) := of_decide_eq_true (by first | (with_reducible assumption) | assumption)
              have hx32 := bt_at a0 x6_3
              replace p32 := eq_true p32
              replace q32 := eq_true q32
              go_wp2
              repeat (go_quiet (fail); try go_wp2)
              go_roundg k3
              case measure => have := HJ2.out; have := HK2.out; have := HK3.out; omega
              case rel => exact ⟨(wrap64 (x6_3 + 1)), (by first | rfl | (simp; done) | (simp [*]; done)), H', ⟨by have := HJ2.out; have := HK2.out; have := HK3.out; omega⟩, ⟨by repeat (first | (with_reducible first | exact HB.out | apply below_alloc | apply pw_below_drewN | apply below_drew1) | exact HB.out)⟩⟩
             ·rw [if_neg c33] at H
              have c33b0 : ((bt t176 x6_3) == (bt a0 x6_3)) = false := beq_eq_false_iff_ne.mpr c33
              have c33b1 : ((bt t176 x6_3) != (bt a0 x6_3)) = true := bne_iff_ne.mpr c33
              by_cases c36 : (bt t176 x6_3) = (((bt a0 x6_3) + 32) % 256)
              ·rw [if_pos c36] at H
               have c36b0 : ((bt t176 x6_3) == (((bt a0 x6_3) + 32) % 256)) = true := beq_iff_eq.mpr c36
               have c36b1 : ((bt t176 x6_3) != (((bt a0 x6_3) + 32) % 256)) = false := bne_eq_false_iff_eq.mpr c36
               clear c36
               have H' := Aside0.mk H
               clear H
               have p19 : 0 ≤ (x6_3 : Int) := of_decide_eq_true (by first | (with_reducible assumption) | assumption)
               have q19 : x6_3 < (t176.size : Int) := of_decide_eq_true (by first | (with_reducible assumption) | assumption)
               have hx19 := bt_at t176 x6_3
               replace p19 := eq_true p19
               replace q19 := eq_true q19
               have p30 : 0 ≤ (x6_3 : Int) := of_decide_eq_true (by first | (with_reducible assumption) | assumption)
               have q30 : x6_3 < (t176.size : Int) := of_decide_eq_true (by first | (with_reducible assumption) | assumption)
               have hx30 := bt_at t176 x6_3
               replace p30 := eq_true p30
               replace q30 := eq_true q30
               have p32 : 0 ≤ (x6_3 : Int) := of_decide_eq_true (by first | (with_reducible assumption) | assumption)
               have q32 : x6_3 < (a0.size : Int) := of_decide_eq_true (by first | (with_reducible assumption) | assumption)
               have hx32 := bt_at a0 x6_3
               replace p32 := eq_true p32
               replace q32 := eq_true q32
               have p34 : 0 ≤ (x6_3 : Int) := of_decide_eq_true (by first | (with_reducible assumption) | assumption)
               have q34 : x6_3 < (t176.size : Int) := of_decide_eq_true (by first | (with_reducible assumption) | assumption)
               have hx34 := bt_at t176 x6_3
               replace p34 := eq_true p34
               replace q34 := eq_true q34
               have p35 : 0 ≤ (x6_3 : Int) := of_decide_eq_true (by first | (with_reducible assumption) | assumption)
               have q35 : x6_3 < (a0.size : Int) := of_decide_eq_true (by first | (with_reducible assumption) | assumption)
               have hx35 := bt_at a0 x6_3
               replace p35 := eq_true p35
               replace q35 := eq_true q35
               go_wp2
               repeat (go_quiet (fail); try go_wp2)
               go_roundg k3
               case measure => have := HJ2.out; have := HK2.out; have := HK3.out; omega
               case rel => exact ⟨(wrap64 (x6_3 + 1)), (by first | rfl | (simp; done) | (simp [*]; done)), H', ⟨by have := HJ2.out; have := HK2.out; have := HK3.out; omega⟩, ⟨by repeat (first | (with_reducible first | exact HB.out | apply below_alloc | apply pw_below_drewN | apply below_drew1) | exact HB.out)⟩⟩
              ·rw [if_neg c36] at H
               have c36b0 : ((bt t176 x6_3) == (((bt a0 x6_3) + 32) % 256)) = false := beq_eq_false_iff_ne.mpr c36
               have c36b1 : ((bt t176 x6_3) != (((bt a0 x6_3) + 32) % 256)) = true := bne_iff_ne.mpr c36
               obtain rfl := Option.some.inj H
               have p19 : 0 ≤ (x6_3 : Int) := of_decide_eq_true (by first | (with_reducible assumption) | assumption)
               have q19 : x6_3 < (t176.size : Int) := of_decide_eq_true (by first | (with_reducible assumption) | assumption)
               have hx19 := bt_at t176 x6_3
               replace p19 := eq_true p19
               replace q19 := eq_true q19
               have p30 : 0 ≤ (x6_3 : Int) := of_decide_eq_true (by first | (with_reducible assumption) | assumption)
               have q30 : x6_3 < (t176.size : Int) := of_decide_eq_true (by first | (with_reducible assumption) | assumption)
               have hx30 := bt_at t176 x6_3
               replace p30 := eq_true p30
               replace q30 := eq_true q30
               have p32 : 0 ≤ (x6_3 : Int) := of_decide_eq_true (by first | (with_reducible assumption) | assumption)
               have q32 : x6_3 < (a0.size : Int) := of_decide_eq_true (by first | (with_reducible assumption) | assumption)
               have hx32 := bt_at a0 x6_3
               replace p32 := eq_true p32
               replace q32 := eq_true q32
               have p34 : 0 ≤ (x6_3 : Int) := of_decide_eq_true (by first | (with_reducible assumption) | assumption)
               have q34 : x6_3 < (t176.size : Int) := of_decide_eq_true (by first | (with_reducible assumption) | assumption)
               have hx34 := bt_at t176 x6_3
               replace p34 := eq_true p34
               replace q34 := eq_true q34
               have p35 : 0 ≤ (x6_3 : Int) := of_decide_eq_true (by first | (with_reducible assumption) | assumption)
               have q35 : x6_3 < (a0.size : Int) := of_decide_eq_true (by first | (with_reducible assumption) | assumption)
               have hx35 := bt_at a0 x6_3
               replace p35 := eq_true p35
               replace q35 := eq_true q35
               go_wp2
               repeat (go_quiet (fail); try go_wp2)
               go_ret
               exact ⟨by first | rfl | (simp [errW_none, errW_some] <;> rfl) | (simp [*, errW_none, errW_some] <;> rfl), by repeat (first | (with_reducible first | exact HB.out | apply below_alloc | apply pw_below_drewN | apply below_drew1) | exact HB.out)⟩
            ·rw [if_neg c31] at H
             exact absurd H (by simp)
          ·rw [if_neg c18] at H
           exact absurd H (by simp)
         ·rw [if_neg c17] at H
          have c17b0 : decide (x6_3 < (t176.size : Int)) = false := decide_eq_false c17
          clear c17
          by_cases c37 : a0.toList = ([] : List UInt8)
          ·rw [if_pos c37] at H
           have c37b0 : (a0.toList == ([] : List UInt8)) = true := beq_iff_eq.mpr c37
           have c37b1 : (a0.toList != ([] : List UInt8)) = false := bne_eq_false_iff_eq.mpr c37
           clear c37
           replace H := Option.bind_eq_some_iff.mp H
           obtain ⟨t177, A380, H⟩ := H
           replace H : (if (t177 == false) = true then ((label_Valid.f a0).bind fun t178 => (if t178 = true then ((label_Count.f a0).bind fun t179 => (some (t179 == (a0.size : Int)))) else (some false))) else (some false)) = some r := H
           have A38 := Aside0.mk A380
           clear A380
           by_cases c39 : (t177 == false) = true
           ·rw [if_pos c39] at H
            have c39b0 : (t177 == false) = true := c39
            (try (have c39b1 : decide (t177 = false) = true := by simpa using c39))
            (try (have c39b2 : (t177 == false) = true := by simpa using c39))
            clear c39
            replace H := Option.bind_eq_some_iff.mp H
            obtain ⟨t178, A400, H⟩ := H
            replace H : (if t178 = true then ((label_Count.f a0).bind fun t179 => (some (t179 == (a0.size : Int)))) else (some false)) = some r := H
            have A40 := Aside0.mk A400
            clear A400
            by_cases c41 : t178 = true
            ·subst c41
             have H1 : ((label_Count.f a0).bind fun t179 => (some (t179 == (a0.size : Int)))) = some r := by rw [if_pos rfl] at H; exact H
             clear H
             have H := H1
             clear H1
             replace H := Option.bind_eq_some_iff.mp H
             obtain ⟨t179, A420, H⟩ := H
             replace H : (some (t179 == (a0.size : Int))) = some r := H
             have A42 := Aside0.mk A420
             clear A420
             obtain rfl := Option.some.inj H
             go_wp2_with (first | (go_at_call 18; (with_reducible refine (label_Right.calls a0 t177 _ A38.out (HT.below (by repeat (first | (with_reducible first | exact HB.out | apply below_alloc | apply pw_below_drewN | apply below_drew1) | exact HB.out)))).mono ?_); rintro e w43 ⟨rfl, hb⟩; have n0_ := Aside0.mk (below_step (by repeat (first | (with_reducible first | exact HB.out | apply below_alloc | apply pw_below_drewN | apply below_drew1) | exact HB.out)) hb); clear HB; have HB := n0_; clear n0_; (try clear hb); (try clear hb2); (try clear hk); (try clear hi)) | (go_at_call 12; (with_reducible refine (label_Valid.calls a0 true _ A40.out (HT.below (by repeat (first | (with_reducible first | exact HB.out | apply below_alloc | apply pw_below_drewN | apply below_drew1) | exact HB.out)))).mono ?_); rintro e w44 ⟨rfl, hb⟩; have n0_ := Aside0.mk (below_step (by repeat (first | (with_reducible first | exact HB.out | apply below_alloc | apply pw_below_drewN | apply below_drew1) | exact HB.out)) hb); clear HB; have HB := n0_; clear n0_; (try clear hb); (try clear hb2); (try clear hk); (try clear hi)) | (go_at_call 14; (with_reducible refine (label_Count.calls a0 t179 _ A42.out).mono ?_); rintro e w45 ⟨rfl, hb⟩; have n0_ := Aside0.mk (below_step (by repeat (first | (with_reducible first | exact HB.out | apply below_alloc | apply pw_below_drewN | apply below_drew1) | exact HB.out)) hb); clear HB; have HB := n0_; clear n0_; (try clear hb); (try clear hb2); (try clear hk); (try clear hi)))
             repeat (go_quiet (first | (go_at_call 18; (with_reducible refine (label_Right.calls a0 t177 _ A38.out (HT.below (by repeat (first | (with_reducible first | exact HB.out | apply below_alloc | apply pw_below_drewN | apply below_drew1) | exact HB.out)))).mono ?_); rintro e w43 ⟨rfl, hb⟩; have n0_ := Aside0.mk (below_step (by repeat (first | (with_reducible first | exact HB.out | apply below_alloc | apply pw_below_drewN | apply below_drew1) | exact HB.out)) hb); clear HB; have HB := n0_; clear n0_; (try clear hb); (try clear hb2); (try clear hk); (try clear hi)) | (go_at_call 12; (with_reducible refine (label_Valid.calls a0 true _ A40.out (HT.below (by repeat (first | (with_reducible first | exact HB.out | apply below_alloc | apply pw_below_drewN | apply below_drew1) | exact HB.out)))).mono ?_); rintro e w44 ⟨rfl, hb⟩; have n0_ := Aside0.mk (below_step (by repeat (first | (with_reducible first | exact HB.out | apply below_alloc | apply pw_below_drewN | apply below_drew1) | exact HB.out)) hb); clear HB; have HB := n0_; clear n0_; (try clear hb); (try clear hb2); (try clear hk); (try clear hi)) | (go_at_call 14; (with_reducible refine (label_Count.calls a0 t179 _ A42.out).mono ?_); rintro e w45 ⟨rfl, hb⟩; have n0_ := Aside0.mk (below_step (by repeat (first | (with_reducible first | exact HB.out | apply below_alloc | apply pw_below_drewN | apply below_drew1) | exact HB.out)) hb); clear HB; have HB := n0_; clear n0_; (try clear hb); (try clear hb2); (try clear hk); (try clear hi))); try go_wp2_with (first | (go_at_call 18; (with_reducible refine (label_Right.calls a0 t177 _ A38.out (HT.below (by repeat (first | (with_reducible first | exact HB.out | apply below_alloc | apply pw_below_drewN | apply below_drew1) | exact HB.out)))).mono ?_); rintro e w43 ⟨rfl, hb⟩; have n0_ := Aside0.mk (below_step (by repeat (first | (with_reducible first | exact HB.out | apply below_alloc | apply pw_below_drewN | apply below_drew1) | exact HB.out)) hb); clear HB; have HB := n0_; clear n0_; (try clear hb); (try clear hb2); (try clear hk); (try clear hi)) | (go_at_call 12; (with_reducible refine (label_Valid.calls a0 true _ A40.out (HT.below (by repeat (first | (with_reducible first | exact HB.out | apply below_alloc | apply pw_below_drewN | apply below_drew1) | exact HB.out)))).mono ?_); rintro e w44 ⟨rfl, hb⟩; have n0_ := Aside0.mk (below_step (by repeat (first | (with_reducible first | exact HB.out | apply below_alloc | apply pw_below_drewN | apply below_drew1) | exact HB.out)) hb); clear HB; have HB := n0_; clear n0_; (try clear hb); (try clear hb2); (try clear hk); (try clear hi)) | (go_at_call 14; (with_reducible refine (label_Count.calls a0 t179 _ A42.out).mono ?_); rintro e w45 ⟨rfl, hb⟩; have n0_ := Aside0.mk (below_step (by repeat (first | (with_reducible first | exact HB.out | apply below_alloc | apply pw_below_drewN | apply below_drew1) | exact HB.out)) hb); clear HB; have HB := n0_; clear n0_; (try clear hb); (try clear hb2); (try clear hk); (try clear hi))))
             go_ret
             exact ⟨by first | rfl | (simp [errW_none, errW_some] <;> rfl) | (simp [*, errW_none, errW_some] <;> rfl), by repeat (first | (with_reducible first | exact HB.out | apply below_alloc | apply pw_below_drewN | apply below_drew1) | exact HB.out)⟩
            ·replace c41 := Bool.eq_false_iff.mpr c41
             subst c41
             have H1 : (some false) = some r := by rw [if_neg (show ¬ (false = true) by decide)] at H; exact H
             clear H
             have H := H1
             clear H1
             obtain rfl := Option.some.inj H
             go_wp2_with (first | (go_at_call 18; (with_reducible refine (label_Right.calls a0 t177 _ A38.out (HT.below (by repeat (first | (with_reducible first | exact HB.out | apply below_alloc | apply pw_below_drewN | apply below_drew1) | exact HB.out)))).mono ?_); rintro e w46 ⟨rfl, hb⟩; have n0_ := Aside0.mk (below_step (by repeat (first | (with_reducible first | exact HB.out | apply below_alloc | apply pw_below_drewN | apply below_drew1) | exact HB.out)) hb); clear HB; have HB := n0_; clear n0_; (try clear hb); (try clear hb2); (try clear hk); (try clear hi)) | (go_at_call 12; (with_reducible refine (label_Valid.calls a0 false _ A40.out (HT.below (by repeat (first | (with_reducible first | exact HB.out | apply below_alloc | apply pw_below_drewN | apply below_drew1) | exact HB.out)))).mono ?_); rintro e w47 ⟨rfl, hb⟩; have n0_ := Aside0.mk (below_step (by repeat (first | (with_reducible first | exact HB.out | apply below_alloc | apply pw_below_drewN | apply below_drew1) | exact HB.out)) hb); clear HB; have HB := n0_; clear n0_; (try clear hb); (try clear hb2); (try clear hk); (try clear hi)))
             repeat (go_quiet (first | (go_at_call 18; (with_reducible refine (label_Right.calls a0 t177 _ A38.out (HT.below (by repeat (first | (with_reducible first | exact HB.out | apply below_alloc | apply pw_below_drewN | apply below_drew1) | exact HB.out)))).mono ?_); rintro e w46 ⟨rfl, hb⟩; have n0_ := Aside0.mk (below_step (by repeat (first | (with_reducible first | exact HB.out | apply below_alloc | apply pw_below_drewN | apply below_drew1) | exact HB.out)) hb); clear HB; have HB := n0_; clear n0_; (try clear hb); (try clear hb2); (try clear hk); (try clear hi)) | (go_at_call 12; (with_reducible refine (label_Valid.calls a0 false _ A40.out (HT.below (by repeat (first | (with_reducible first | exact HB.out | apply below_alloc | apply pw_below_drewN | apply below_drew1) | exact HB.out)))).mono ?_); rintro e w47 ⟨rfl, hb⟩; have n0_ := Aside0.mk (below_step (by repeat (first | (with_reducible first | exact HB.out | apply below_alloc | apply pw_below_drewN | apply below_drew1) | exact HB.out)) hb); clear HB; have HB := n0_; clear n0_; (try clear hb); (try clear hb2); (try clear hk); (try clear hi))); try go_wp2_with (first | (go_at_call 18; (with_reducible refine (label_Right.calls a0 t177 _ A38.out (HT.below (by repeat (first | (with_reducible first | exact HB.out | apply below_alloc | apply pw_below_drewN | apply below_drew1) | exact HB.out)))).mono ?_); rintro e w46 ⟨rfl, hb⟩; have n0_ := Aside0.mk (below_step (by repeat (first | (with_reducible first | exact HB.out | apply below_alloc | apply pw_below_drewN | apply below_drew1) | exact HB.out)) hb); clear HB; have HB := n0_; clear n0_; (try clear hb); (try clear hb2); (try clear hk); (try clear hi)) | (go_at_call 12; (with_reducible refine (label_Valid.calls a0 false _ A40.out (HT.below (by repeat (first | (with_reducible first | exact HB.out | apply below_alloc | apply pw_below_drewN | apply below_drew1) | exact HB.out)))).mono ?_); rintro e w47 ⟨rfl, hb⟩; have n0_ := Aside0.mk (below_step (by repeat (first | (with_reducible first | exact HB.out | apply below_alloc | apply pw_below_drewN | apply below_drew1) | exact HB.out)) hb); clear HB; have HB := n0_; clear n0_; (try clear hb); (try clear hb2); (try clear hk); (try clear hi))))
             go_ret
             exact ⟨by first | rfl | (simp [errW_none, errW_some] <;> rfl) | (simp [*, errW_none, errW_some] <;> rfl), by repeat (first | (with_reducible first | exact HB.out | apply below_alloc | apply pw_below_drewN | apply below_drew1) | exact HB.out)⟩
           ·rw [if_neg c39] at H
            have c39b0 : (t177 == false) = false := by simpa using c39
            (try (have c39b1 : decide (t177 = false) = false := by simpa using c39))
            (try (have c39b2 : (t177 == false) = false := by simpa using c39))
            (try (have c39b3 : ¬ (t177 = false) := by simpa using c39))
            clear c39
            obtain rfl := Option.some.inj H
            go_wp2_with (first | (go_at_call 18; (with_reducible refine (label_Right.calls a0 t177 _ A38.out (HT.below (by repeat (first | (with_reducible first | exact HB.out | apply below_alloc | apply pw_below_drewN | apply below_drew1) | exact HB.out)))).mono ?_); rintro e w48 ⟨rfl, hb⟩; have n0_ := Aside0.mk (below_step (by repeat (first | (with_reducible first | exact HB.out | apply below_alloc | apply pw_below_drewN | apply below_drew1) | exact HB.out)) hb); clear HB; have HB := n0_; clear n0_; (try clear hb); (try clear hb2); (try clear hk); (try clear hi)))
            repeat (go_quiet (first | (go_at_call 18; (with_reducible refine (label_Right.calls a0 t177 _ A38.out (HT.below (by repeat (first | (with_reducible first | exact HB.out | apply below_alloc | apply pw_below_drewN | apply below_drew1) | exact HB.out)))).mono ?_); rintro e w48 ⟨rfl, hb⟩; have n0_ := Aside0.mk (below_step (by repeat (first | (with_reducible first | exact HB.out | apply below_alloc | apply pw_below_drewN | apply below_drew1) | exact HB.out)) hb); clear HB; have HB := n0_; clear n0_; (try clear hb); (try clear hb2); (try clear hk); (try clear hi))); try go_wp2_with (first | (go_at_call 18; (with_reducible refine (label_Right.calls a0 t177 _ A38.out (HT.below (by repeat (first | (with_reducible first | exact HB.out | apply below_alloc | apply pw_below_drewN | apply below_drew1) | exact HB.out)))).mono ?_); rintro e w48 ⟨rfl, hb⟩; have n0_ := Aside0.mk (below_step (by repeat (first | (with_reducible first | exact HB.out | apply below_alloc | apply pw_below_drewN | apply below_drew1) | exact HB.out)) hb); clear HB; have HB := n0_; clear n0_; (try clear hb); (try clear hb2); (try clear hk); (try clear hi))))
            go_ret
            exact ⟨by first | rfl | (simp [errW_none, errW_some] <;> rfl) | (simp [*, errW_none, errW_some] <;> rfl), by repeat (first | (with_reducible first | exact HB.out | apply below_alloc | apply pw_below_drewN | apply below_drew1) | exact HB.out)⟩
          ·rw [if_neg c37] at H
           have c37b0 : (a0.toList == ([] : List UInt8)) = false := beq_eq_false_iff_ne.mpr c37
           have c37b1 : (a0.toList != ([] : List UInt8)) = true := bne_iff_ne.mpr c37
           replace H := Option.bind_eq_some_iff.mp H
           obtain ⟨t180, A490, H⟩ := H
           replace H : (if t180.toList = a0.toList then ((label_Right.f a0).bind fun t181 => (if (t181 == (decide ((a0.size : Int) ≤ 24))) = true then ((label_Valid.f a0).bind fun t182 => (if t182 = true then ((label_Count.f a0).bind fun t183 => (some (t183 == (a0.size : Int)))) else (some false))) else (some false))) else (some false)) = some r := H
           have A49 := Aside0.mk A490
           clear A490
           by_cases c50 : t180.toList = a0.toList
           ·rw [if_pos c50] at H
            have c50b0 : (t180.toList == a0.toList) = true := beq_iff_eq.mpr c50
            have c50b1 : (t180.toList != a0.toList) = false := bne_eq_false_iff_eq.mpr c50
            clear c50
            replace H := Option.bind_eq_some_iff.mp H
            obtain ⟨t181, A510, H⟩ := H
            replace H : (if (t181 == (decide ((a0.size : Int) ≤ 24))) = true then ((label_Valid.f a0).bind fun t182 => (if t182 = true then ((label_Count.f a0).bind fun t183 => (some (t183 == (a0.size : Int)))) else (some false))) else (some false)) = some r := H
            have A51 := Aside0.mk A510
            clear A510
            by_cases c52 : (t181 == (decide ((a0.size : Int) ≤ 24))) = true
            ·rw [if_pos c52] at H
             have c52b0 : (t181 == (decide ((a0.size : Int) ≤ 24))) = true := c52
             (try (have c52b1 : decide (t181 = (decide ((a0.size : Int) ≤ 24))) = true := by simpa using c52))
             (try (have c52b2 : (t181 == (decide ((a0.size : Int) ≤ 24))) = true := by simpa using c52))
             clear c52
             replace H := Option.bind_eq_some_iff.mp H
             obtain ⟨t182, A530, H⟩ := H
             replace H : (if t182 = true then ((label_Count.f a0).bind fun t183 => (some (t183 == (a0.size : Int)))) else (some false)) = some r := H
             have A53 := Aside0.mk A530
             clear A530
             by_cases c54 : t182 = true
             ·subst c54
              have H1 : ((label_Count.f a0).bind fun t183 => (some (t183 == (a0.size : Int)))) = some r := by rw [if_pos rfl] at H; exact H
              clear H
              have H := H1
              clear H1
              replace H := Option.bind_eq_some_iff.mp H
              obtain ⟨t183, A550, H⟩ := H
              replace H : (some (t183 == (a0.size : Int))) = some r := H
              have A55 := Aside0.mk A550
              clear A550
              obtain rfl := Option.some.inj H
              go_wp2_with (first | (go_at_call 22; (with_reducible refine (label_Quote.calls a0 t180 _ A49.out (HT.below (by repeat (first | (with_reducible first | exact HB.out | apply below_alloc | apply pw_below_drewN | apply below_drew1) | exact HB.out)))).mono ?_); rintro e w56 ⟨rfl, hb⟩; have n0_ := Aside0.mk (below_step (by repeat (first | (with_reducible first | exact HB.out | apply below_alloc | apply pw_below_drewN | apply below_drew1) | exact HB.out)) hb); clear HB; have HB := n0_; clear n0_; (try clear hb); (try clear hb2); (try clear hk); (try clear hi)) | (go_at_call 18; (with_reducible refine (label_Right.calls a0 t181 _ A51.out (HT.below (by repeat (first | (with_reducible first | exact HB.out | apply below_alloc | apply pw_below_drewN | apply below_drew1) | exact HB.out)))).mono ?_); rintro e w57 ⟨rfl, hb⟩; have n0_ := Aside0.mk (below_step (by repeat (first | (with_reducible first | exact HB.out | apply below_alloc | apply pw_below_drewN | apply below_drew1) | exact HB.out)) hb); clear HB; have HB := n0_; clear n0_; (try clear hb); (try clear hb2); (try clear hk); (try clear hi)) | (go_at_call 12; (with_reducible refine (label_Valid.calls a0 true _ A53.out (HT.below (by repeat (first | (with_reducible first | exact HB.out | apply below_alloc | apply pw_below_drewN | apply below_drew1) | exact HB.out)))).mono ?_); rintro e w58 ⟨rfl, hb⟩; have n0_ := Aside0.mk (below_step (by repeat (first | (with_reducible first | exact HB.out | apply below_alloc | apply pw_below_drewN | apply below_drew1) | exact HB.out)) hb); clear HB; have HB := n0_; clear n0_; (try clear hb); (try clear hb2); (try clear hk); (try clear hi)) | (go_at_call 14; (with_reducible refine (label_Count.calls a0 t183 _ A55.out).mono ?_); rintro e w59 ⟨rfl, hb⟩; have n0_ := Aside0.mk (below_step (by repeat (first | (with_reducible first | exact HB.out | apply below_alloc | apply pw_below_drewN | apply below_drew1) | exact HB.out)) hb); clear HB; have HB := n0_; clear n0_; (try clear hb); (try clear hb2); (try clear hk); (try clear hi)))
              repeat (go_quiet (first | (go_at_call 22; (with_reducible refine (label_Quote.calls a0 t180 _ A49.out (HT.below (by repeat (first | (with_reducible first | exact HB.out | apply below_alloc | apply pw_below_drewN | apply below_drew1) | exact HB.out)))).mono ?_); rintro e w56 ⟨rfl, hb⟩; have n0_ := Aside0.mk (below_step (by repeat (first | (with_reducible first | exact HB.out | apply below_alloc | apply pw_below_drewN | apply below_drew1) | exact HB.out)) hb); clear HB; have HB := n0_; clear n0_; (try clear hb); (try clear hb2); (try clear hk); (try clear hi)) | (go_at_call 18; (with_reducible refine (label_Right.calls a0 t181 _ A51.out (HT.below (by repeat (first | (with_reducible first | exact HB.out | apply below_alloc | apply pw_below_drewN | apply below_drew1) | exact HB.out)))).mono ?_); rintro e w57 ⟨rfl, hb⟩; have n0_ := Aside0.mk (below_step (by repeat (first | (with_reducible first | exact HB.out | apply below_alloc | apply pw_below_drewN | apply below_drew1) | exact HB.out)) hb); clear HB; have HB := n0_; clear n0_; (try clear hb); (try clear hb2); (try clear hk); (try clear hi)) | (go_at_call 12; (with_reducible refine (label_Valid.calls a0 true _ A53.out (HT.below (by repeat (first | (with_reducible first | exact HB.out | apply below_alloc | apply pw_below_drewN | apply below_drew1) | exact HB.out)))).mono ?_); rintro e w58 ⟨rfl, hb⟩; have n0_ := Aside0.mk (below_step (by repeat (first | (with_reducible first | exact HB.out | apply below_alloc | apply pw_below_drewN | apply below_drew1) | exact HB.out)) hb); clear HB; have HB := n0_; clear n0_; (try clear hb); (try clear hb2); (try clear hk); (try clear hi)) | (go_at_call 14; (with_reducible refine (label_Count.calls a0 t183 _ A55.out).mono ?_); rintro e w59 ⟨rfl, hb⟩; have n0_ := Aside0.mk (below_step (by repeat (first | (with_reducible first | exact HB.out | apply below_alloc | apply pw_below_drewN | apply below_drew1) | exact HB.out)) hb); clear HB; have HB := n0_; clear n0_; (try clear hb); (try clear hb2); (try clear hk); (try clear hi))); try go_wp2_with (first | (go_at_call 22; (with_reducible refine (label_Quote.calls a0 t180 _ A49.out (HT.below (by repeat (first | (with_reducible first | exact HB.out | apply below_alloc | apply pw_below_drewN | apply below_drew1) | exact HB.out)))).mono ?_); rintro e w56 ⟨rfl, hb⟩; have n0_ := Aside0.mk (below_step (by repeat (first | (with_reducible first | exact HB.out | apply below_alloc | apply pw_below_drewN | apply below_drew1) | exact HB.out)) hb); clear HB; have HB := n0_; clear n0_; (try clear hb); (try clear hb2); (try clear hk); (try clear hi)) | (go_at_call 18; (with_reducible refine (label_Right.calls a0 t181 _ A51.out (HT.below (by repeat (first | (with_reducible first | exact HB.out | apply below_alloc | apply pw_below_drewN | apply below_drew1) | exact HB.out)))).mono ?_); rintro e w57 ⟨rfl, hb⟩; have n0_ := Aside0.mk (below_step (by repeat (first | (with_reducible first | exact HB.out | apply below_alloc | apply pw_below_drewN | apply below_drew1) | exact HB.out)) hb); clear HB; have HB := n0_; clear n0_; (try clear hb); (try clear hb2); (try clear hk); (try clear hi)) | (go_at_call 12; (with_reducible refine (label_Valid.calls a0 true _ A53.out (HT.below (by repeat (first | (with_reducible first | exact HB.out | apply below_alloc | apply pw_below_drewN | apply below_drew1) | exact HB.out)))).mono ?_); rintro e w58 ⟨rfl, hb⟩; have n0_ := Aside0.mk (below_step (by repeat (first | (with_reducible first | exact HB.out | apply below_alloc | apply pw_below_drewN | apply below_drew1) | exact HB.out)) hb); clear HB; have HB := n0_; clear n0_; (try clear hb); (try clear hb2); (try clear hk); (try clear hi)) | (go_at_call 14; (with_reducible refine (label_Count.calls a0 t183 _ A55.out).mono ?_); rintro e w59 ⟨rfl, hb⟩; have n0_ := Aside0.mk (below_step (by repeat (first | (with_reducible first | exact HB.out | apply below_alloc | apply pw_below_drewN | apply below_drew1) | exact HB.out)) hb); clear HB; have HB := n0_; clear n0_; (try clear hb); (try clear hb2); (try clear hk); (try clear hi))))
              go_ret
              exact ⟨by first | rfl | (simp [errW_none, errW_some] <;> rfl) | (simp [*, errW_none, errW_some] <;> rfl), by repeat (first | (with_reducible first | exact HB.out | apply below_alloc | apply pw_below_drewN | apply below_drew1) | exact HB.out)⟩
             ·replace c54 := Bool.eq_false_iff.mpr c54
              subst c54
              have H1 : (some false) = some r := by rw [if_neg (show ¬ (false = true) by decide)] at H; exact H
              clear H
              have H := H1
              clear H1
              obtain rfl := Option.some.inj H
              go_wp2_with (first | (go_at_call 22; (with_reducible refine (label_Quote.calls a0 t180 _ A49.out (HT.below (by repeat (first | (with_reducible first | exact HB.out | apply below_alloc | apply pw_below_drewN | apply below_drew1) | exact HB.out)))).mono ?_); rintro e w60 ⟨rfl, hb⟩; have n0_ := Aside0.mk (below_step (by repeat (first | (with_reducible first | exact HB.out | apply below_alloc | apply pw_below_drewN | apply below_drew1) | exact HB.out)) hb); clear HB; have HB := n0_; clear n0_; (try clear hb); (try clear hb2); (try clear hk); (try clear hi)) | (go_at_call 18; (with_reducible refine (label_Right.calls a0 t181 _ A51.out (HT.below (by repeat (first | (with_reducible first | exact HB.out | apply below_alloc | apply pw_below_drewN | apply below_drew1) | exact HB.out)))).mono ?_); rintro e w61 ⟨rfl, hb⟩; have n0_ := Aside0.mk (below_step (by repeat (first | (with_reducible first | exact HB.out | apply below_alloc | apply pw_below_drewN | apply below_drew1) | exact HB.out)) hb); clear HB; have HB := n0_; clear n0_; (try clear hb); (try clear hb2); (try clear hk); (try clear hi)) | (go_at_call 12; (with_reducible refine (label_Valid.calls a0 false _ A53.out (HT.below (by repeat (first | (with_reducible first | exact HB.out | apply below_alloc | apply pw_below_drewN | apply below_drew1) | exact HB.out)))).mono ?_); rintro e w62 ⟨rfl, hb⟩; have n0_ := Aside0.mk (below_step (by repeat (first | (with_reducible first | exact HB.out | apply below_alloc | apply pw_below_drewN | apply below_drew1) | exact HB.out)) hb); clear HB; have HB := n0_; clear n0_; (try clear hb); (try clear hb2); (try clear hk); (try clear hi)))
              repeat (go_quiet (first | (go_at_call 22; (with_reducible refine (label_Quote.calls a0 t180 _ A49.out (HT.below (by repeat (first | (with_reducible first | exact HB.out | apply below_alloc | apply pw_below_drewN | apply below_drew1) | exact HB.out)))).mono ?_); rintro e w60 ⟨rfl, hb⟩; have n0_ := Aside0.mk (below_step (by repeat (first | (with_reducible first | exact HB.out | apply below_alloc | apply pw_below_drewN | apply below_drew1) | exact HB.out)) hb); clear HB; have HB := n0_; clear n0_; (try clear hb); (try clear hb2); (try clear hk); (try clear hi)) | (go_at_call 18; (with_reducible refine (label_Right.calls a0 t181 _ A51.out (HT.below (by repeat (first | (with_reducible first | exact HB.out | apply below_alloc | apply pw_below_drewN | apply below_drew1) | exact HB.out)))).mono ?_); rintro e w61 ⟨rfl, hb⟩; have n0_ := Aside0.mk (below_step (by repeat (first | (with_reducible first | exact HB.out | apply below_alloc | apply pw_below_drewN | apply below_drew1) | exact HB.out)) hb); clear HB; have HB := n0_; clear n0_; (try clear hb); (try clear hb2); (try clear hk); (try clear hi)) | (go_at_call 12; (with_reducible refine (label_Valid.calls a0 false _ A53.out (HT.below (by repeat (first | (with_reducible first | exact HB.out | apply below_alloc | apply pw_below_drewN | apply below_drew1) | exact HB.out)))).mono ?_); rintro e w62 ⟨rfl, hb⟩; have n0_ := Aside0.mk (below_step (by repeat (first | (with_reducible first | exact HB.out | apply below_alloc | apply pw_below_drewN | apply below_drew1) | exact HB.out)) hb); clear HB; have HB := n0_; clear n0_; (try clear hb); (try clear hb2); (try clear hk); (try clear hi))); try go_wp2_with (first | (go_at_call 22; (with_reducible refine (label_Quote.calls a0 t180 _ A49.out (HT.below (by repeat (first | (with_reducible first | exact HB.out | apply below_alloc | apply pw_below_drewN | apply below_drew1) | exact HB.out)))).mono ?_); rintro e w60 ⟨rfl, hb⟩; have n0_ := Aside0.mk (below_step (by repeat (first | (with_reducible first | exact HB.out | apply below_alloc | apply pw_below_drewN | apply below_drew1) | exact HB.out)) hb); clear HB; have HB := n0_; clear n0_; (try clear hb); (try clear hb2); (try clear hk); (try clear hi)) | (go_at_call 18; (with_reducible refine (label_Right.calls a0 t181 _ A51.out (HT.below (by repeat (first | (with_reducible first | exact HB.out | apply below_alloc | apply pw_below_drewN | apply below_drew1) | exact HB.out)))).mono ?_); rintro e w61 ⟨rfl, hb⟩; have n0_ := Aside0.mk (below_step (by repeat (first | (with_reducible first | exact HB.out | apply below_alloc | apply pw_below_drewN | apply below_drew1) | exact HB.out)) hb); clear HB; have HB := n0_; clear n0_; (try clear hb); (try clear hb2); (try clear hk); (try clear hi)) | (go_at_call 12; (with_reducible refine (label_Valid.calls a0 false _ A53.out (HT.below (by repeat (first | (with_reducible first | exact HB.out | apply below_alloc | apply pw_below_drewN | apply below_drew1) | exact HB.out)))).mono ?_); rintro e w62 ⟨rfl, hb⟩; have n0_ := Aside0.mk (below_step (by repeat (first | (with_reducible first | exact HB.out | apply below_alloc | apply pw_below_drewN | apply below_drew1) | exact HB.out)) hb); clear HB; have HB := n0_; clear n0_; (try clear hb); (try clear hb2); (try clear hk); (try clear hi))))
              go_ret
              exact ⟨by first | rfl | (simp [errW_none, errW_some] <;> rfl) | (simp [*, errW_none, errW_some] <;> rfl), by repeat (first | (with_reducible first | exact HB.out | apply below_alloc | apply pw_below_drewN | apply below_drew1) | exact HB.out)⟩
            ·rw [if_neg c52] at H
             have c52b0 : (t181 == (decide ((a0.size : Int) ≤ 24))) = false := by simpa using c52
             (try (have c52b1 : decide (t181 = (decide ((a0.size : Int) ≤ 24))) = false := by simpa using c52))
             (try (have c52b2 : (t181 == (decide ((a0.size : Int) ≤ 24))) = false := by simpa using c52))
             (try (have c52b3 : ¬ (t181 = (decide ((a0.size : Int) ≤ 24))) := by simpa using c52))
             clear c52
             obtain rfl := Option.some.inj H
             go_wp2_with (first | (go_at_call 22; (with_reducible refine (label_Quote.calls a0 t180 _ A49.out (HT.below (by repeat (first | (with_reducible first | exact HB.out | apply below_alloc | apply pw_below_drewN | apply below_drew1) | exact HB.out)))).mono ?_); rintro e w63 ⟨rfl, hb⟩; have n0_ := Aside0.mk (below_step (by repeat (first | (with_reducible first | exact HB.out | apply below_alloc | apply pw_below_drewN | apply below_drew1) | exact HB.out)) hb); clear HB; have HB := n0_; clear n0_; (try clear hb); (try clear hb2); (try clear hk); (try clear hi)) | (go_at_call 18; (with_reducible refine (label_Right.calls a0 t181 _ A51.out (HT.below (by repeat (first | (with_reducible first | exact HB.out | apply below_alloc | apply pw_below_drewN | apply below_drew1) | exact HB.out)))).mono ?_); rintro e w64 ⟨rfl, hb⟩; have n0_ := Aside0.mk (below_step (by repeat (first | (with_reducible first | exact HB.out | apply below_alloc | apply pw_below_drewN | apply below_drew1) | exact HB.out)) hb); clear HB; have HB := n0_; clear n0_; (try clear hb); (try clear hb2); (try clear hk); (try clear hi)))
             repeat (go_quiet (first | (go_at_call 22; (with_reducible refine (label_Quote.calls a0 t180 _ A49.out (HT.below (by repeat (first | (with_reducible first | exact HB.out | apply below_alloc | apply pw_below_drewN | apply below_drew1) | exact HB.out)))).mono ?_); rintro e w63 ⟨rfl, hb⟩; have n0_ := Aside0.mk (below_step (by repeat (first | (with_reducible first | exact HB.out | apply below_alloc | apply pw_below_drewN | apply below_drew1) | exact HB.out)) hb); clear HB; have HB := n0_; clear n0_; (try clear hb); (try clear hb2); (try clear hk); (try clear hi)) | (go_at_call 18; (with_reducible refine (label_Right.calls a0 t181 _ A51.out (HT.below (by repeat (first | (with_reducible first | exact HB.out | apply below_alloc | apply pw_below_drewN | apply below_drew1) | exact HB.out)))).mono ?_); rintro e w64 ⟨rfl, hb⟩; have n0_ := Aside0.mk (below_step (by repeat (first | (with_reducible first | exact HB.out | apply below_alloc | apply pw_below_drewN | apply below_drew1) | exact HB.out)) hb); clear HB; have HB := n0_; clear n0_; (try clear hb); (try clear hb2); (try clear hk); (try clear hi))); try go_wp2_with (first | (go_at_call 22; (with_reducible refine (label_Quote.calls a0 t180 _ A49.out (HT.below (by repeat (first | (with_reducible first | exact HB.out | apply below_alloc | apply pw_below_drewN | apply below_drew1) | exact HB.out)))).mono ?_); rintro e w63 ⟨rfl, hb⟩; have n0_ := Aside0.mk (below_step (by repeat (first | (with_reducible first | exact HB.out | apply below_alloc | apply pw_below_drewN | apply below_drew1) | exact HB.out)) hb); clear HB; have HB := n0_; clear n0_; (try clear hb); (try clear hb2); (try clear hk); (try clear hi)) | (go_at_call 18; (with_reducible refine (label_Right.calls a0 t181 _ A51.out (HT.below (by repeat (first | (with_reducible first | exact HB.out | apply below_alloc | apply pw_below_drewN | apply below_drew1) | exact HB.out)))).mono ?_); rintro e w64 ⟨rfl, hb⟩; have n0_ := Aside0.mk (below_step (by repeat (first | (with_reducible first | exact HB.out | apply below_alloc | apply pw_below_drewN | apply below_drew1) | exact HB.out)) hb); clear HB; have HB := n0_; clear n0_; (try clear hb); (try clear hb2); (try clear hk); (try clear hi))))
             go_ret
             exact ⟨by first | rfl | (simp [errW_none, errW_some] <;> rfl) | (simp [*, errW_none, errW_some] <;> rfl), by repeat (first | (with_reducible first | exact HB.out | apply below_alloc | apply pw_below_drewN | apply below_drew1) | exact HB.out)⟩
           ·rw [if_neg c50] at H
            have c50b0 : (t180.toList == a0.toList) = false := beq_eq_false_iff_ne.mpr c50
            have c50b1 : (t180.toList != a0.toList) = true := bne_iff_ne.mpr c50
            obtain rfl := Option.some.inj H
            go_wp2_with (first | (go_at_call 22; (with_reducible refine (label_Quote.calls a0 t180 _ A49.out (HT.below (by repeat (first | (with_reducible first | exact HB.out | apply below_alloc | apply pw_below_drewN | apply below_drew1) | exact HB.out)))).mono ?_); rintro e w65 ⟨rfl, hb⟩; have n0_ := Aside0.mk (below_step (by repeat (first | (with_reducible first | exact HB.out | apply below_alloc | apply pw_below_drewN | apply below_drew1) | exact HB.out)) hb); clear HB; have HB := n0_; clear n0_; (try clear hb); (try clear hb2); (try clear hk); (try clear hi)))
            repeat (go_quiet (first | (go_at_call 22; (with_reducible refine (label_Quote.calls a0 t180 _ A49.out (HT.below (by repeat (first | (with_reducible first | exact HB.out | apply below_alloc | apply pw_below_drewN | apply below_drew1) | exact HB.out)))).mono ?_); rintro e w65 ⟨rfl, hb⟩; have n0_ := Aside0.mk (below_step (by repeat (first | (with_reducible first | exact HB.out | apply below_alloc | apply pw_below_drewN | apply below_drew1) | exact HB.out)) hb); clear HB; have HB := n0_; clear n0_; (try clear hb); (try clear hb2); (try clear hk); (try clear hi))); try go_wp2_with (first | (go_at_call 22; (with_reducible refine (label_Quote.calls a0 t180 _ A49.out (HT.below (by repeat (first | (with_reducible first | exact HB.out | apply below_alloc | apply pw_below_drewN | apply below_drew1) | exact HB.out)))).mono ?_); rintro e w65 ⟨rfl, hb⟩; have n0_ := Aside0.mk (below_step (by repeat (first | (with_reducible first | exact HB.out | apply below_alloc | apply pw_below_drewN | apply below_drew1) | exact HB.out)) hb); clear HB; have HB := n0_; clear n0_; (try clear hb); (try clear hb2); (try clear hk); (try clear hi))))
            go_ret
            exact ⟨by first | rfl | (simp [errW_none, errW_some] <;> rfl) | (simp [*, errW_none, errW_some] <;> rfl), by repeat (first | (with_reducible first | exact HB.out | apply below_alloc | apply pw_below_drewN | apply below_drew1) | exact HB.out)⟩


end Go.Proofs.YtapkghkcaflkmaaDoor.Fn
end
