-- Packed by pack.py, a program of this session, out of texts of this claim.
import Derived.Test.YtjoaiolacalemaaDoorClDateReads1
import Derived.Test.YtjoaiolacalemaaDoorClDateReadsLfRead
section
-- Written by printx.py, a program of this session over the kit's print: each Go function as a plain Lean function, and that the Go code computes it.


namespace Go.Proofs.YtjoaiolacalemaaDoor.Fn
open Go.RowKit Go.Proofs.YtjoaiolacalemaaDoorW.PrintWords Go.Proofs.YtjoaiolacalemaaDoorW.PrintLast Go.Proofs.YtjoaiolacalemaaDoorW.PrintMore Go.Proofs.YtjoaiolacalemaaDoor.Lf
attribute [local go_sem] max2_int min2_int max_two min_two max_three min_three max_four min_four   -- for this text's walks alone
set_option linter.unusedVariables false
set_option linter.unusedSimpArgs false

/-! ### date_Read: function 6 -/
/-- date.Read: walked by hand (LfRead). -/
def date_Read.f (a0 : ByteArray) : Option (Int × Int) := Lf.readF a0
theorem date_Read.calls (a0 : ByteArray) (r1 r2 : Int) (w : World) (h : date_Read.f a0 = some (r1, r2)) (HT : Tabs w) :
  Calls Tryd.prog 6 #[.string a0] w fun e w' => e = .returned (.tuple #[.int .u64 r1, .int .i64 r2]) ∧ Below w.heap.size w w' := Lf.read_calls a0 r1 r2 w h HT

end Go.Proofs.YtjoaiolacalemaaDoor.Fn
end
section
-- Written by printx.py, a program of this session over the kit's print: each Go function as a plain Lean function, and that the Go code computes it.




namespace Go.Proofs.YtjoaiolacalemaaDoor.Fn
open Go.RowKit Go.Proofs.YtjoaiolacalemaaDoorW.PrintWords Go.Proofs.YtjoaiolacalemaaDoorW.PrintLast Go.Proofs.YtjoaiolacalemaaDoorW.PrintMore Go.Proofs.YtjoaiolacalemaaDoor.Lf
attribute [local go_sem] max2_int min2_int max_two min_two max_three min_three max_four min_four   -- for this text's walks alone
set_option linter.unusedVariables false
set_option linter.unusedSimpArgs false

/-! ### rootcellarlaw15_DateReads: function 3 -/
def rootcellarlaw15_DateReads.j0 : Nat → ByteArray → Bool → Bool → Option (Bool)
 | 0, _, _, _ => none
 | k + 1, x0, x3, x15 => if x15 = true then (some x3) else ((date_Read.f x0).bind fun bt145 => ((rootcellarref15_Read.f k x0).bind fun bt147 => (if bt145.1 = bt147.1 then (some (bt145.2 == bt147.2)) else (some false))))
def rootcellarlaw15_DateReads.f (k : Nat) (a0 : ByteArray) : Option (Bool) := (rootcellarlaw15_shown.f k).bind fun t144 => (if t144 = true then (rootcellarlaw15_DateReads.j0 k a0 t144 (decide ((a0.size : Int) > 100))) else (rootcellarlaw15_DateReads.j0 k a0 t144 true))
theorem rootcellarlaw15_DateReads.mono_l : ∀ k, (∀ y0 y1 y2, LeO (rootcellarlaw15_DateReads.j0 k y0 y1 y2) (rootcellarlaw15_DateReads.j0 (k + 1) y0 y1 y2))
 | 0 => fun _ _ _ r h => by simp [rootcellarlaw15_DateReads.j0] at h
 | k + 1 => by
  have ih0 := rootcellarlaw15_DateReads.mono_l k
  ·intro y0 y1 y2
   unfold rootcellarlaw15_DateReads.j0
   repeat' first
   | (with_reducible exact ih0 _ _ _)
   | (with_reducible exact rootcellarlaw15_shown.mono _)
   | (with_reducible exact rootcellarref15_Read.mono _ _)
   | (with_reducible exact LeO.refl _)
   | (with_reducible exact LeO.none _)
   | (with_reducible refine LeO.ite ?_ ?_)
   | (with_reducible refine LeO.bind ?_ (fun _ => ?_))
   | exact ih0 _ _ _
   | exact rootcellarlaw15_shown.mono _
   | exact rootcellarref15_Read.mono _ _
   | exact LeO.none _
   | refine LeO.ite ?_ ?_
   | refine LeO.bind ?_ (fun _ => ?_)
theorem rootcellarlaw15_DateReads.mono : ∀ a0 k, LeO (rootcellarlaw15_DateReads.f k a0) (rootcellarlaw15_DateReads.f (k + 1) a0) := by
 intro a0 k
 have ih0 := rootcellarlaw15_DateReads.mono_l k
 unfold rootcellarlaw15_DateReads.f
 repeat' first
   | (with_reducible exact ih0 _ _ _)
   | (with_reducible exact rootcellarlaw15_shown.mono _)
   | (with_reducible exact rootcellarref15_Read.mono _ _)
   | (with_reducible exact LeO.refl _)
   | (with_reducible exact LeO.none _)
   | (with_reducible refine LeO.ite ?_ ?_)
   | (with_reducible refine LeO.bind ?_ (fun _ => ?_))
   | exact ih0 _ _ _
   | exact rootcellarlaw15_shown.mono _
   | exact rootcellarref15_Read.mono _ _
   | exact LeO.none _
   | refine LeO.ite ?_ ?_
   | refine LeO.bind ?_ (fun _ => ?_)
set_option maxHeartbeats 8000000 in
set_option maxRecDepth 100000 in
theorem rootcellarlaw15_DateReads.calls (k : Nat) (a0 : ByteArray) (r : Bool) (w : World) (h : rootcellarlaw15_DateReads.f k a0 = some r) (HT : Tabs w) :
  Calls Tryd.prog 3 #[.string a0] w fun e w' => e = .returned (.bool r) ∧ Below w.heap.size w w' := by
 have HB := Aside0.mk (Below.refl w.heap.size w)
 have H : ((rootcellarlaw15_shown.f k).bind fun t144 => (if t144 = true then (rootcellarlaw15_DateReads.j0 k a0 t144 (decide ((a0.size : Int) > 100))) else (rootcellarlaw15_DateReads.j0 k a0 t144 true))) = some r := h
 clear h
 replace H := Option.bind_eq_some_iff.mp H
 obtain ⟨t144, A20, H⟩ := H
 replace H : (if t144 = true then (rootcellarlaw15_DateReads.j0 k a0 t144 (decide ((a0.size : Int) > 100))) else (rootcellarlaw15_DateReads.j0 k a0 t144 true)) = some r := H
 have A2 := Aside0.mk A20
 clear A20
 have HC3 := Aside0.mk H
 clear H
 go_enter Tryd.func3, Tryd.ntmps3
 go_upto_region 2 with (first | ((with_reducible refine gate_callee (f := 5) rfl ?_); refine goesL_ (some 8) rfl rfl Tryd.func5 (by kernel_rfl) rfl #[] rfl (by (try simp only [List.map_toArray, List.map_cons, List.map_nil]); first | done | rfl | (simp only [List.length_drop, List.length_take]; rfl) | (rw [wrap_sum2 (by assumption)]; rfl)) ?_; (with_reducible refine (rootcellarlaw15_shown.calls k  t144 _ A2.out (HT.below (by repeat (first | (with_reducible first | exact HB.out | apply below_alloc | apply pw_below_drewN | apply below_drew1) | exact HB.out)))).mono ?_); rintro e w4 ⟨rfl, hb⟩; refine ⟨_, rfl, ?_⟩; have n0_ := Aside0.mk (below_step (by repeat (first | (with_reducible first | exact HB.out | apply below_alloc | apply pw_below_drewN | apply below_drew1) | exact HB.out)) hb); clear HB; have HB := n0_; clear n0_; (try clear hb); (try clear hb2); (try clear hk); (try clear hi)))
 (try simp only [Act.put, List.setIfInBounds_toArray, List.set_cons_zero, List.set_cons_succ])
 go_cut [15] (fun v15 wc => ∃ (kq : Nat) (x15_2 : Bool), v15 = .bool x15_2 ∧ Aside0 (rootcellarlaw15_DateReads.j0 kq a0 t144 x15_2 = some r) ∧ Aside0 (kq ≤ k) ∧ Aside0 (Below w.heap.size w wc))
 case first =>
  have H := HC3.out
  clear HC3
  by_cases c5 : t144 = true
  ·subst c5
   have H1 : (rootcellarlaw15_DateReads.j0 k a0 true (decide ((a0.size : Int) > 100))) = some r := by rw [if_pos rfl] at H; exact H
   clear H
   have H := H1
   clear H1
   have H' := Aside0.mk H
   clear H
   go_wp2
   go_meet
   case rel => exact ⟨_, (decide ((a0.size : Int) > 100)), (by first | rfl | (simp; done) | (simp [*]; done)), H', ⟨by first | omega | exact Nat.le_refl _⟩, ⟨by repeat (first | (with_reducible first | exact HB.out | apply below_alloc | apply pw_below_drewN | apply below_drew1) | exact HB.out)⟩⟩
  ·replace c5 := Bool.eq_false_iff.mpr c5
   subst c5
   have H1 : (rootcellarlaw15_DateReads.j0 k a0 false true) = some r := by rw [if_neg (show ¬ (false = true) by decide)] at H; exact H
   clear H
   have H := H1
   clear H1
   have H' := Aside0.mk H
   clear H
   go_wp2
   go_meet
   case rel => exact ⟨_, (true), (by first | rfl | (simp; done) | (simp [*]; done)), H', ⟨by first | omega | exact Nat.le_refl _⟩, ⟨by repeat (first | (with_reducible first | exact HB.out | apply below_alloc | apply pw_below_drewN | apply below_drew1) | exact HB.out)⟩⟩
 case rest =>
  clear HC3
  try clear p2
  try clear c3
  try clear c5
  obtain ⟨kq, x15_2, rfl, HA, HJ2, HB⟩ := hcut
  cases kq with
  | zero => exact absurd HA.out (by simp [rootcellarlaw15_DateReads.j0])
  | succ kj2 =>
   have H := HA.out
   clear HA
   simp only [rootcellarlaw15_DateReads.j0] at H
   by_cases c6 : x15_2 = true
   ·subst c6
    have H1 : (some t144) = some r := by rw [if_pos rfl] at H; exact H
    clear H
    have H := H1
    clear H1
    obtain rfl := Option.some.inj H
    go_wp2
    go_ret
    exact ⟨by first | rfl | (simp [errW_none, errW_some] <;> rfl) | (simp [*, errW_none, errW_some] <;> rfl), by repeat (first | (with_reducible first | exact HB.out | apply below_alloc | apply pw_below_drewN | apply below_drew1) | exact HB.out)⟩
   ·replace c6 := Bool.eq_false_iff.mpr c6
    subst c6
    have H1 : ((date_Read.f a0).bind fun bt145 => ((rootcellarref15_Read.f kj2 a0).bind fun bt147 => (if bt145.1 = bt147.1 then (some (bt145.2 == bt147.2)) else (some false)))) = some r := by rw [if_neg (show ¬ (false = true) by decide)] at H; exact H
    clear H
    have H := H1
    clear H1
    replace H := Option.bind_eq_some_iff.mp H
    obtain ⟨⟨t145, t146⟩, A70, H⟩ := H
    replace H : ((rootcellarref15_Read.f kj2 a0).bind fun bt147 => (if t145 = bt147.1 then (some (t146 == bt147.2)) else (some false))) = some r := H
    have A7 := Aside0.mk A70
    clear A70
    replace H := Option.bind_eq_some_iff.mp H
    obtain ⟨⟨t147, t148⟩, A80, H⟩ := H
    replace H : (if t145 = t147 then (some (t146 == t148)) else (some false)) = some r := H
    have A8 := Aside0.mk A80
    clear A80
    by_cases c9 : t145 = t147
    ·rw [if_pos c9] at H
     have c9b0 : (t145 == t147) = true := beq_iff_eq.mpr c9
     have c9b1 : (t145 != t147) = false := bne_eq_false_iff_eq.mpr c9
     clear c9
     obtain rfl := Option.some.inj H
     go_wp2_with (first | ((with_reducible refine gate_callee (f := 6) rfl ?_); refine goesL_ (some 19) rfl rfl Tryd.func6 (by kernel_rfl) rfl #[.string a0] rfl (by (try simp only [List.map_toArray, List.map_cons, List.map_nil]); first | done | rfl | (simp only [List.length_drop, List.length_take]; rfl) | (rw [wrap_sum2 (by assumption)]; rfl)) ?_; (with_reducible refine (date_Read.calls a0 t145 t146 _ A7.out (HT.below (by repeat (first | (with_reducible first | exact HB.out | apply below_alloc | apply pw_below_drewN | apply below_drew1) | exact HB.out)))).mono ?_); rintro e w10 ⟨rfl, hb⟩; refine ⟨_, rfl, ?_⟩; have n0_ := Aside0.mk (below_step (by repeat (first | (with_reducible first | exact HB.out | apply below_alloc | apply pw_below_drewN | apply below_drew1) | exact HB.out)) hb); clear HB; have HB := n0_; clear n0_; (try clear hb); (try clear hb2); (try clear hk); (try clear hi)) | ((with_reducible refine gate_callee (f := 7) rfl ?_); refine goesL_ (some 24) rfl rfl Tryd.func7 (by kernel_rfl) rfl #[.string a0] rfl (by (try simp only [List.map_toArray, List.map_cons, List.map_nil]); first | done | rfl | (simp only [List.length_drop, List.length_take]; rfl) | (rw [wrap_sum2 (by assumption)]; rfl)) ?_; (with_reducible refine (rootcellarref15_Read.calls kj2 a0 t147 t148 _ A8.out).mono ?_); rintro e w' ⟨rfl, ⟨nd, rfl⟩⟩; refine ⟨_, rfl, ?_⟩))
     go_ret
     exact ⟨by first | rfl | (simp [errW_none, errW_some] <;> rfl) | (simp [*, errW_none, errW_some] <;> rfl), by repeat (first | (with_reducible first | exact HB.out | apply below_alloc | apply pw_below_drewN | apply below_drew1) | exact HB.out)⟩
    ·rw [if_neg c9] at H
     have c9b0 : (t145 == t147) = false := beq_eq_false_iff_ne.mpr c9
     have c9b1 : (t145 != t147) = true := bne_iff_ne.mpr c9
     obtain rfl := Option.some.inj H
     go_wp2_with (first | ((with_reducible refine gate_callee (f := 6) rfl ?_); refine goesL_ (some 19) rfl rfl Tryd.func6 (by kernel_rfl) rfl #[.string a0] rfl (by (try simp only [List.map_toArray, List.map_cons, List.map_nil]); first | done | rfl | (simp only [List.length_drop, List.length_take]; rfl) | (rw [wrap_sum2 (by assumption)]; rfl)) ?_; (with_reducible refine (date_Read.calls a0 t145 t146 _ A7.out (HT.below (by repeat (first | (with_reducible first | exact HB.out | apply below_alloc | apply pw_below_drewN | apply below_drew1) | exact HB.out)))).mono ?_); rintro e w11 ⟨rfl, hb⟩; refine ⟨_, rfl, ?_⟩; have n0_ := Aside0.mk (below_step (by repeat (first | (with_reducible first | exact HB.out | apply below_alloc | apply pw_below_drewN | apply below_drew1) | exact HB.out)) hb); clear HB; have HB := n0_; clear n0_; (try clear hb); (try clear hb2); (try clear hk); (try clear hi)) | ((with_reducible refine gate_callee (f := 7) rfl ?_); refine goesL_ (some 24) rfl rfl Tryd.func7 (by kernel_rfl) rfl #[.string a0] rfl (by (try simp only [List.map_toArray, List.map_cons, List.map_nil]); first | done | rfl | (simp only [List.length_drop, List.length_take]; rfl) | (rw [wrap_sum2 (by assumption)]; rfl)) ?_; (with_reducible refine (rootcellarref15_Read.calls kj2 a0 t147 t148 _ A8.out).mono ?_); rintro e w' ⟨rfl, ⟨nd, rfl⟩⟩; refine ⟨_, rfl, ?_⟩))
     go_ret
     exact ⟨by first | rfl | (simp [errW_none, errW_some] <;> rfl) | (simp [*, errW_none, errW_some] <;> rfl), by repeat (first | (with_reducible first | exact HB.out | apply below_alloc | apply pw_below_drewN | apply below_drew1) | exact HB.out)⟩


end Go.Proofs.YtjoaiolacalemaaDoor.Fn
end
