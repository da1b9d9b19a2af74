-- Packed by pack.py, a program of this session, out of texts of this claim.
import Derived.Test.YtboommbclbjlnaaDoorClStepGroups1
import Derived.Test.YtboommbclbjlnaaDoorClStepGroups2
section
-- Written by printx.py, a program of this session over the kit's print: each Go function as a plain Lean function, and that the Go code computes it.







namespace Go.Proofs.YtboommbclbjlnaaDoor.Fn
open Go.RowKit Go.Proofs.YtboommbclbjlnaaDoorW.PrintWords Go.Proofs.YtboommbclbjlnaaDoorW.PrintLast Go.Proofs.YtboommbclbjlnaaDoorW.PrintMore Go.Proofs.YtboommbclbjlnaaDoor.Lf
attribute [local go_sem] max2_int min2_int max_two min_two max_three min_three max_four min_four   -- for this text's walks alone
set_option linter.unusedVariables false
set_option linter.unusedSimpArgs false

/-! ### rootcellarlaw12_StepGroups: function 5 -/
mutual
def rootcellarlaw12_StepGroups.j0 : Nat → List (S24) → Bool → Bool → Option (Bool)
 | 0, _, _, _ => none
 | k + 1, x0, x3, x18 => if x18 = true then (some x3) else ((step_Groups.f k x0).bind fun bt199 => ((rootcellarlaw12_steps.f k x0).bind fun t203 => ((rootcellarref12_Groups.f k t203).bind fun bt206 => (if bt199.2 = bt206.2 then (rootcellarlaw12_StepGroups.j1 k bt199.1 bt206.1 ((bt199.1.length : Int) != (bt206.1.length : Int))) else (rootcellarlaw12_StepGroups.j1 k bt199.1 bt206.1 true)))))
def rootcellarlaw12_StepGroups.j1 : Nat → List (S44) → List (S46) → Bool → Option (Bool)
 | 0, _, _, _ => none
 | k + 1, x5, x7, x40 => if x40 = true then (some false) else (rootcellarlaw12_StepGroups.l0 k x5 x7 0)
def rootcellarlaw12_StepGroups.l0 : Nat → List (S44) → List (S46) → Int → Option (Bool)
 | 0, _, _, _ => none
 | k + 1, x5, x7, x9 => if x9 < (x5.length : Int) then (if 0 ≤ x9 then (if x9 < (x7.length : Int) then (if ((rd_T44 x5 x9).f0) = ((rd_T46 x7 x9).f0) then ((rootcellarlaw12_sameSteps.f k ((rd_T44 x5 x9).f1) ((rd_T46 x7 x9).f1)).bind fun t214 => (if t214 = true then (rootcellarlaw12_StepGroups.l0 k x5 x7 (wrap64 (x9 + 1))) else (some false))) else (some false)) else (none)) else (none)) else (some true)
end
def rootcellarlaw12_StepGroups.f (k : Nat) (l0 : List (S24)) : Option (Bool) := (rootcellarlaw12_shown.f k).bind fun t197 => ((rootcellarlaw12_shortSteps.f k l0).bind fun t198 => (if t197 = true then (rootcellarlaw12_StepGroups.j0 k l0 t197 (!t198)) else (rootcellarlaw12_StepGroups.j0 k l0 t197 true)))
theorem rootcellarlaw12_StepGroups.mono_l : ∀ k, (∀ y0 y1 y2, LeO (rootcellarlaw12_StepGroups.j0 k y0 y1 y2) (rootcellarlaw12_StepGroups.j0 (k + 1) y0 y1 y2)) ∧ (∀ y0 y1 y2, LeO (rootcellarlaw12_StepGroups.j1 k y0 y1 y2) (rootcellarlaw12_StepGroups.j1 (k + 1) y0 y1 y2)) ∧ (∀ y0 y1 y2, LeO (rootcellarlaw12_StepGroups.l0 k y0 y1 y2) (rootcellarlaw12_StepGroups.l0 (k + 1) y0 y1 y2))
 | 0 => ⟨fun _ _ _ r h => by simp [rootcellarlaw12_StepGroups.j0] at h, fun _ _ _ r h => by simp [rootcellarlaw12_StepGroups.j1] at h, fun _ _ _ r h => by simp [rootcellarlaw12_StepGroups.l0] at h⟩
 | k + 1 => by
  obtain ⟨ih0, ih1, ih2⟩ := rootcellarlaw12_StepGroups.mono_l k
  refine ⟨?_, ?_, ?_⟩
  ·intro y0 y1 y2
   unfold rootcellarlaw12_StepGroups.j0
   repeat' first
   | (with_reducible exact ih0 _ _ _)
   | (with_reducible exact ih1 _ _ _)
   | (with_reducible exact ih2 _ _ _)
   | (with_reducible exact rootcellarlaw12_sameSteps.mono _ _ _)
   | (with_reducible exact rootcellarlaw12_shortSteps.mono _ _)
   | (with_reducible exact rootcellarlaw12_shown.mono _)
   | (with_reducible exact rootcellarlaw12_steps.mono _ _)
   | (with_reducible exact rootcellarref12_Groups.mono _ _)
   | (with_reducible exact step_Groups.mono _ _)
   | (with_reducible exact LeO.refl _)
   | (with_reducible exact LeO.none _)
   | (with_reducible refine LeO.ite ?_ ?_)
   | (with_reducible refine LeO.bind ?_ (fun _ => ?_))
   | exact ih0 _ _ _
   | exact ih1 _ _ _
   | exact ih2 _ _ _
   | exact rootcellarlaw12_sameSteps.mono _ _ _
   | exact rootcellarlaw12_shortSteps.mono _ _
   | exact rootcellarlaw12_shown.mono _
   | exact rootcellarlaw12_steps.mono _ _
   | exact rootcellarref12_Groups.mono _ _
   | exact step_Groups.mono _ _
   | exact LeO.none _
   | refine LeO.ite ?_ ?_
   | refine LeO.bind ?_ (fun _ => ?_)
  ·intro y0 y1 y2
   unfold rootcellarlaw12_StepGroups.j1
   repeat' first
   | (with_reducible exact ih0 _ _ _)
   | (with_reducible exact ih1 _ _ _)
   | (with_reducible exact ih2 _ _ _)
   | (with_reducible exact rootcellarlaw12_sameSteps.mono _ _ _)
   | (with_reducible exact rootcellarlaw12_shortSteps.mono _ _)
   | (with_reducible exact rootcellarlaw12_shown.mono _)
   | (with_reducible exact rootcellarlaw12_steps.mono _ _)
   | (with_reducible exact rootcellarref12_Groups.mono _ _)
   | (with_reducible exact step_Groups.mono _ _)
   | (with_reducible exact LeO.refl _)
   | (with_reducible exact LeO.none _)
   | (with_reducible refine LeO.ite ?_ ?_)
   | (with_reducible refine LeO.bind ?_ (fun _ => ?_))
   | exact ih0 _ _ _
   | exact ih1 _ _ _
   | exact ih2 _ _ _
   | exact rootcellarlaw12_sameSteps.mono _ _ _
   | exact rootcellarlaw12_shortSteps.mono _ _
   | exact rootcellarlaw12_shown.mono _
   | exact rootcellarlaw12_steps.mono _ _
   | exact rootcellarref12_Groups.mono _ _
   | exact step_Groups.mono _ _
   | exact LeO.none _
   | refine LeO.ite ?_ ?_
   | refine LeO.bind ?_ (fun _ => ?_)
  ·intro y0 y1 y2
   unfold rootcellarlaw12_StepGroups.l0
   repeat' first
   | (with_reducible exact ih0 _ _ _)
   | (with_reducible exact ih1 _ _ _)
   | (with_reducible exact ih2 _ _ _)
   | (with_reducible exact rootcellarlaw12_sameSteps.mono _ _ _)
   | (with_reducible exact rootcellarlaw12_shortSteps.mono _ _)
   | (with_reducible exact rootcellarlaw12_shown.mono _)
   | (with_reducible exact rootcellarlaw12_steps.mono _ _)
   | (with_reducible exact rootcellarref12_Groups.mono _ _)
   | (with_reducible exact step_Groups.mono _ _)
   | (with_reducible exact LeO.refl _)
   | (with_reducible exact LeO.none _)
   | (with_reducible refine LeO.ite ?_ ?_)
   | (with_reducible refine LeO.bind ?_ (fun _ => ?_))
   | exact ih0 _ _ _
   | exact ih1 _ _ _
   | exact ih2 _ _ _
   | exact rootcellarlaw12_sameSteps.mono _ _ _
   | exact rootcellarlaw12_shortSteps.mono _ _
   | exact rootcellarlaw12_shown.mono _
   | exact rootcellarlaw12_steps.mono _ _
   | exact rootcellarref12_Groups.mono _ _
   | exact step_Groups.mono _ _
   | exact LeO.none _
   | refine LeO.ite ?_ ?_
   | refine LeO.bind ?_ (fun _ => ?_)
theorem rootcellarlaw12_StepGroups.mono : ∀ a0 k, LeO (rootcellarlaw12_StepGroups.f k a0) (rootcellarlaw12_StepGroups.f (k + 1) a0) := by
 intro a0 k
 obtain ⟨ih0, ih1, ih2⟩ := rootcellarlaw12_StepGroups.mono_l k
 unfold rootcellarlaw12_StepGroups.f
 repeat' first
   | (with_reducible exact ih0 _ _ _)
   | (with_reducible exact ih1 _ _ _)
   | (with_reducible exact ih2 _ _ _)
   | (with_reducible exact rootcellarlaw12_sameSteps.mono _ _ _)
   | (with_reducible exact rootcellarlaw12_shortSteps.mono _ _)
   | (with_reducible exact rootcellarlaw12_shown.mono _)
   | (with_reducible exact rootcellarlaw12_steps.mono _ _)
   | (with_reducible exact rootcellarref12_Groups.mono _ _)
   | (with_reducible exact step_Groups.mono _ _)
   | (with_reducible exact LeO.refl _)
   | (with_reducible exact LeO.none _)
   | (with_reducible refine LeO.ite ?_ ?_)
   | (with_reducible refine LeO.bind ?_ (fun _ => ?_))
   | exact ih0 _ _ _
   | exact ih1 _ _ _
   | exact ih2 _ _ _
   | exact rootcellarlaw12_sameSteps.mono _ _ _
   | exact rootcellarlaw12_shortSteps.mono _ _
   | exact rootcellarlaw12_shown.mono _
   | exact rootcellarlaw12_steps.mono _ _
   | exact rootcellarref12_Groups.mono _ _
   | exact step_Groups.mono _ _
   | exact LeO.none _
   | refine LeO.ite ?_ ?_
   | refine LeO.bind ?_ (fun _ => ?_)
def rootcellarlaw12_StepGroups.T12 : Bool × List (List Nat × List Nat) := (true, [([], []), ([], []), ([0, 1], [0, 1]), ([2], [2]), ([3], [3]), ([], []), ([], []), ([5, 6], [5, 6]), ([7], [7]), ([8], [8]), ([4, 9], [4, 9]), ([10], [10]), ([11], [11]), ([11], [11]), ([12, 13, 11], [11, 12, 13]), ([14, 11], [11, 14]), ([15, 11], [11, 15]), ([11], [11]), ([11], [11]), ([17, 18, 11], [11, 17, 18]), ([19, 11], [11, 19]), ([20, 11], [11, 20]), ([16, 21, 11, 11], [11, 16, 21]), ([22, 11], [11, 22]), ([11, 23], [11, 23])])
def rootcellarlaw12_StepGroups.B12 : List Nat := [0, 0, 3, 7, 15, 0, 0, 96, 224, 480, 1023, 2047, 4095, 4095, 16383, 32767, 65535, 4095, 4095, 397311, 921599, 1970175, 4194303, 8388607, 16777215]
theorem rootcellarlaw12_StepGroups.tab12 : rtab .any (opsOf Tryd.f5 12) = rootcellarlaw12_StepGroups.T12 := by kernel_rfl
theorem rootcellarlaw12_StepGroups.bits12 : waitsOk rootcellarlaw12_StepGroups.T12.2 rootcellarlaw12_StepGroups.B12 = true := by kernel_rfl
set_option maxHeartbeats 8000000 in
set_option maxRecDepth 100000 in
theorem rootcellarlaw12_StepGroups.calls (k : Nat) (A0 : Option Addr) (c0 : Nat) (l0 : List (S24)) (r : Bool) (w : World) (hr0 : Kd.C k24 w A0 l0.length l0) (hc0 : l0.length ≤ c0) (h : rootcellarlaw12_StepGroups.f k l0 = some r) (HT : Tabs w) :
  Calls Tryd.prog 5 #[.slice A0 l0.length c0] w fun e w' => e = .returned (.bool r) ∧ Below w.heap.size w w' := by
 have HR0 := Aside0.mk hr0
 have HC0 := Aside0.mk hc0
 clear hr0 hc0
 have HB := Aside0.mk (Below.refl w.heap.size w)
 have H : ((rootcellarlaw12_shown.f k).bind fun t197 => ((rootcellarlaw12_shortSteps.f k l0).bind fun t198 => (if t197 = true then (rootcellarlaw12_StepGroups.j0 k l0 t197 (!t198)) else (rootcellarlaw12_StepGroups.j0 k l0 t197 true)))) = some r := h
 clear h
 replace H := Option.bind_eq_some_iff.mp H
 obtain ⟨t197, A20, H⟩ := H
 replace H : ((rootcellarlaw12_shortSteps.f k l0).bind fun t198 => (if t197 = true then (rootcellarlaw12_StepGroups.j0 k l0 t197 (!t198)) else (rootcellarlaw12_StepGroups.j0 k l0 t197 true))) = some r := H
 have A2 := Aside0.mk A20
 clear A20
 replace H := Option.bind_eq_some_iff.mp H
 obtain ⟨t198, A30, H⟩ := H
 replace H : (if t197 = true then (rootcellarlaw12_StepGroups.j0 k l0 t197 (!t198)) else (rootcellarlaw12_StepGroups.j0 k l0 t197 true)) = some r := H
 have A3 := Aside0.mk A30
 clear A30
 have HC4 := Aside0.mk H
 clear H
 go_enter Tryd.func5, Tryd.ntmps5
 go_upto_region 3 with (first | ((with_reducible refine gate_callee (f := 17) rfl ?_); refine goesL_ (some 10) rfl rfl Tryd.func17 (by kernel_rfl) rfl #[] rfl (by (try simp only [List.map_toArray, List.map_cons, List.map_nil]); first | done | rfl | (simp only [List.length_drop, List.length_take]; rfl) | (rw [wrap_sum2 (by assumption)]; rfl)) ?_; (with_reducible refine (rootcellarlaw12_shown.calls k  t197 _ A2.out (HT.below (by repeat (first | (with_reducible first | exact HB.out | apply below_alloc | apply pw_below_drewN | apply below_drew1) | exact HB.out)))).mono ?_); rintro e w5 ⟨rfl, hb⟩; refine ⟨_, rfl, ?_⟩; have n0_ := Aside0.mk (below_step (by repeat (first | (with_reducible first | exact HB.out | apply below_alloc | apply pw_below_drewN | apply below_drew1) | exact HB.out)) hb); clear HB; have HB := n0_; clear n0_; (try clear hb); (try clear hb2); (try clear hk); (try clear hi)) | ((with_reducible refine gate_callee (f := 23) rfl ?_); refine goesL_ (some 12) rfl rfl Tryd.func23 (by kernel_rfl) rfl #[.slice A0 l0.length c0] rfl (by (try simp only [List.map_toArray, List.map_cons, List.map_nil]); first | done | rfl | (simp only [List.length_drop, List.length_take]; rfl) | (rw [wrap_sum2 (by assumption)]; rfl)) ?_; (with_reducible refine (rootcellarlaw12_shortSteps.calls k _ _ l0 t198 _ ?side1 ?side2 A3.out).mono ?_); (case side1 => repeat (first | exact (Kd.C_below HR0.out HB.out) | (with_reducible refine Kd.C_alloc ?_ _) | (with_reducible refine Kd.C_drewN ?_ _) | (with_reducible refine Kd.C_drew ?_))); (case side2 => exact HC0.out); rintro e w' ⟨rfl, ⟨nd, rfl⟩⟩; refine ⟨_, rfl, ?_⟩))
 (try simp only [Act.put, List.setIfInBounds_toArray, List.set_cons_zero, List.set_cons_succ])
 go_cut [18] (fun v18 wc => ∃ (kq : Nat) (x18_3 : Bool), v18 = .bool x18_3 ∧ Aside0 (rootcellarlaw12_StepGroups.j0 kq l0 t197 x18_3 = some r) ∧ Aside0 (kq ≤ k) ∧ Aside0 (Below w.heap.size w wc))
 case first =>
  have H := HC4.out
  clear HC4
  by_cases c6 : t197 = true
  ·subst c6
   have H1 : (rootcellarlaw12_StepGroups.j0 k l0 true (!t198)) = some r := by rw [if_pos rfl] at H; exact H
   clear H
   have H := H1
   clear H1
   have H' := Aside0.mk H
   clear H
   go_wp2
   go_meet
   case rel => exact ⟨_, (!t198), (by first | rfl | (simp; done) | (simp [*]; done)), H', ⟨by first | omega | exact Nat.le_refl _⟩, ⟨by repeat (first | (with_reducible first | exact HB.out | apply below_alloc | apply pw_below_drewN | apply below_drew1) | exact HB.out)⟩⟩
  ·replace c6 := Bool.eq_false_iff.mpr c6
   subst c6
   have H1 : (rootcellarlaw12_StepGroups.j0 k l0 false true) = some r := by rw [if_neg (show ¬ (false = true) by decide)] at H; exact H
   clear H
   have H := H1
   clear H1
   have H' := Aside0.mk H
   clear H
   go_wp2
   go_meet
   case rel => exact ⟨_, (true), (by first | rfl | (simp; done) | (simp [*]; done)), H', ⟨by first | omega | exact Nat.le_refl _⟩, ⟨by repeat (first | (with_reducible first | exact HB.out | apply below_alloc | apply pw_below_drewN | apply below_drew1) | exact HB.out)⟩⟩
 case rest =>
  clear HC4
  try clear c1
  try clear c2
  try clear p2
  try clear c5
  try clear c6
  obtain ⟨kq, x18_3, rfl, HA, HJ3, HB⟩ := hcut
  cases kq with
  | zero => exact absurd HA.out (by simp [rootcellarlaw12_StepGroups.j0])
  | succ kj3 =>
   have H := HA.out
   clear HA
   simp only [rootcellarlaw12_StepGroups.j0] at H
   by_cases c7 : x18_3 = true
   ·subst c7
    have H1 : (some t197) = some r := by rw [if_pos rfl] at H; exact H
    clear H
    have H := H1
    clear H1
    obtain rfl := Option.some.inj H
    go_wp2
    go_ret
    exact ⟨by first | rfl | (simp [errW_none, errW_some] <;> rfl) | (simp [*, errW_none, errW_some] <;> rfl), by repeat (first | (with_reducible first | exact HB.out | apply below_alloc | apply pw_below_drewN | apply below_drew1) | exact HB.out)⟩
   ·replace c7 := Bool.eq_false_iff.mpr c7
    subst c7
    have H1 : ((step_Groups.f kj3 l0).bind fun bt199 => ((rootcellarlaw12_steps.f kj3 l0).bind fun t203 => ((rootcellarref12_Groups.f kj3 t203).bind fun bt206 => (if bt199.2 = bt206.2 then (rootcellarlaw12_StepGroups.j1 kj3 bt199.1 bt206.1 ((bt199.1.length : Int) != (bt206.1.length : Int))) else (rootcellarlaw12_StepGroups.j1 kj3 bt199.1 bt206.1 true))))) = some r := by rw [if_neg (show ¬ (false = true) by decide)] at H; exact H
    clear H
    have H := H1
    clear H1
    replace H := Option.bind_eq_some_iff.mp H
    obtain ⟨⟨t199, t200⟩, A80, H⟩ := H
    replace H : ((rootcellarlaw12_steps.f kj3 l0).bind fun t203 => ((rootcellarref12_Groups.f kj3 t203).bind fun bt206 => (if t200 = bt206.2 then (rootcellarlaw12_StepGroups.j1 kj3 t199 bt206.1 ((t199.length : Int) != (bt206.1.length : Int))) else (rootcellarlaw12_StepGroups.j1 kj3 t199 bt206.1 true)))) = some r := H
    have A8 := Aside0.mk A80
    clear A80
    replace H := Option.bind_eq_some_iff.mp H
    obtain ⟨t203, A90, H⟩ := H
    replace H : ((rootcellarref12_Groups.f kj3 t203).bind fun bt206 => (if t200 = bt206.2 then (rootcellarlaw12_StepGroups.j1 kj3 t199 bt206.1 ((t199.length : Int) != (bt206.1.length : Int))) else (rootcellarlaw12_StepGroups.j1 kj3 t199 bt206.1 true))) = some r := H
    have A9 := Aside0.mk A90
    clear A90
    replace H := Option.bind_eq_some_iff.mp H
    obtain ⟨⟨t206, t207⟩, A100, H⟩ := H
    replace H : (if t200 = t207 then (rootcellarlaw12_StepGroups.j1 kj3 t199 t206 ((t199.length : Int) != (t206.length : Int))) else (rootcellarlaw12_StepGroups.j1 kj3 t199 t206 true)) = some r := H
    have A10 := Aside0.mk A100
    clear A100
    have HC11 := Aside0.mk H
    clear H
    go_upto_region 7 with (first | ((with_reducible refine gate_callee (f := 24) rfl ?_); refine goesL_ (some 22) rfl rfl Tryd.func24 (by kernel_rfl) rfl #[.slice A0 l0.length c0] rfl (by (try simp only [List.map_toArray, List.map_cons, List.map_nil]); first | done | rfl | (simp only [List.length_drop, List.length_take]; rfl) | (rw [wrap_sum2 (by assumption)]; rfl)) ?_; (with_reducible refine (step_Groups.calls kj3 _ _ l0 t199 t200 _ ?side1 ?side2 A8.out).mono ?_); (case side1 => repeat (first | exact (Kd.C_below HR0.out HB.out) | (with_reducible refine Kd.C_alloc ?_ _) | (with_reducible refine Kd.C_drewN ?_ _) | (with_reducible refine Kd.C_drew ?_))); (case side2 => exact HC0.out); rintro e w12 ⟨v201, rfl, ho0, hb⟩; refine ⟨_, rfl, ?_⟩; have n0_ := Aside0.mk (Kd.S_lower ho0 (below_size (by repeat (first | (with_reducible first | exact HB.out | apply below_alloc | apply pw_below_drewN | apply below_drew1) | exact HB.out)))); have n1_ := Aside0.mk (below_step (by repeat (first | (with_reducible first | exact HB.out | apply below_alloc | apply pw_below_drewN | apply below_drew1) | exact HB.out)) hb); clear HB; have HO202 := n0_; have HB := n1_; clear n0_ n1_; (try clear hb); (try clear hb2); (try clear hk); (try clear hi); (try clear ho0)) | ((with_reducible refine gate_callee (f := 18) rfl ?_); refine goesL_ (some 27) rfl rfl Tryd.func18 (by kernel_rfl) rfl #[.slice A0 l0.length c0] rfl (by (try simp only [List.map_toArray, List.map_cons, List.map_nil]); first | done | rfl | (simp only [List.length_drop, List.length_take]; rfl) | (rw [wrap_sum2 (by assumption)]; rfl)) ?_; (with_reducible refine (rootcellarlaw12_steps.calls kj3 _ _ l0 t203 _ ?side1 ?side2 A9.out).mono ?_); (case side1 => repeat (first | exact (Kd.C_below HR0.out HB.out) | (with_reducible refine Kd.C_alloc ?_ _) | (with_reducible refine Kd.C_drewN ?_ _) | (with_reducible refine Kd.C_drew ?_))); (case side2 => exact HC0.out); rintro e w13 ⟨v204, rfl, ho0, hb⟩; refine ⟨_, rfl, ?_⟩; have n0_ := Aside0.mk (Kd.S_below (by (with_reducible repeat (first | apply Kd.S_alloc | apply Kd.S_drewN | apply Kd.S_drew)); exact HO202.out) hb); have n1_ := Aside0.mk (Kd.R_lower ho0 (below_size (by repeat (first | (with_reducible first | exact HB.out | apply below_alloc | apply pw_below_drewN | apply below_drew1) | exact HB.out)))); have n2_ := Aside0.mk (below_step (by repeat (first | (with_reducible first | exact HB.out | apply below_alloc | apply pw_below_drewN | apply below_drew1) | exact HB.out)) hb); clear HO202; clear HB; have HO202 := n0_; have HO205 := n1_; have HB := n2_; clear n0_ n1_ n2_; (try clear hb); (try clear hb2); (try clear hk); (try clear hi); (try clear ho0); obtain ⟨Ao14, co14, eo14⟩ := Kd.R_slice HO205.out; subst eo14) | ((with_reducible refine gate_callee (f := 25) rfl ?_); refine goesL_ (some 28) rfl rfl Tryd.func25 (by kernel_rfl) rfl #[.slice Ao14 t203.length co14] rfl (by (try simp only [List.map_toArray, List.map_cons, List.map_nil]); first | done | rfl | (simp only [List.length_drop, List.length_take]; rfl) | (rw [wrap_sum2 (by assumption)]; rfl)) ?_; (with_reducible refine (rootcellarref12_Groups.calls kj3 _ _ t203 t206 t207 _ ?side1 ?side2 A10.out).mono ?_); (case side1 => repeat (first | exact (Kd.R_reads' HO205.out).2.2 | (with_reducible refine Kd.C_alloc ?_ _) | (with_reducible refine Kd.C_drewN ?_ _) | (with_reducible refine Kd.C_drew ?_))); (case side2 => exact (Kd.R_reads' HO205.out).2.1); rintro e w15 ⟨v208, rfl, ho0, hb⟩; refine ⟨_, rfl, ?_⟩; have n0_ := Aside0.mk (Kd.S_below (by (with_reducible repeat (first | apply Kd.S_alloc | apply Kd.S_drewN | apply Kd.S_drew)); exact HO202.out) hb); have n1_ := Aside0.mk (Kd.R_below (by (with_reducible repeat (first | apply Kd.R_alloc | apply Kd.R_drewN | apply Kd.R_drew)); exact HO205.out) hb); have n2_ := Aside0.mk (Kd.S_lower (Kd.S_new' ho0 (Kd.R_lt (by (with_reducible repeat (first | apply Kd.R_alloc | apply Kd.R_drewN | apply Kd.R_drew)); exact HO205.out))) (below_size (by repeat (first | (with_reducible first | exact HB.out | apply below_alloc | apply pw_below_drewN | apply below_drew1) | exact HB.out)))); have n3_ := Aside0.mk (below_step (by repeat (first | (with_reducible first | exact HB.out | apply below_alloc | apply pw_below_drewN | apply below_drew1) | exact HB.out)) hb); clear HO202; clear HO205; clear HB; have HO202 := n0_; have HO205 := n1_; have HO209 := n2_; have HB := n3_; clear n0_ n1_ n2_ n3_; (try clear hb); (try clear hb2); (try clear hk); (try clear hi); (try clear ho0)))
    (try simp only [Act.put, List.setIfInBounds_toArray, List.set_cons_zero, List.set_cons_succ])
    go_cut [40] (fun v40 wc => ∃ (kq : Nat) (x40_10 : Bool), v40 = .bool x40_10 ∧ Aside0 (rootcellarlaw12_StepGroups.j1 kq t199 t206 x40_10 = some r) ∧ Aside0 (kq ≤ kj3) ∧ Aside0 (Kd.S k44 44 wc w.heap.size (fun _ => True) v201 t199) ∧ Aside0 (Kd.S k46 46 wc w.heap.size (fun _ => True) v208 t206) ∧ Aside0 (Below w.heap.size w wc))
    case first =>
     have H := HC11.out
     clear HC11
     by_cases c16 : t200 = t207
     ·rw [if_pos c16] at H
      have c16b0 : (t200 == t207) = true := beq_iff_eq.mpr c16
      have c16b1 : (t200 != t207) = false := bne_eq_false_iff_eq.mpr c16
      clear c16
      (first | rw [c16b0] | (simp only [i64_w, i32_w]; rw [c16b0]) | skip)
      have H' := Aside0.mk H
      clear H
      obtain ⟨Ao17, co17, eo17⟩ := Kd.S_slice HO202.out
      subst eo17
      obtain ⟨Ao18, co18, eo18⟩ := Kd.S_slice HO209.out
      subst eo18
      go_wp2
      go_meet
      case rel => exact ⟨_, (((t199.length : Int) != (t206.length : Int))), (by first | rfl | (simp; done) | (simp [*]; done)), H', ⟨by have := HJ3.out; first | omega | exact Nat.le_refl _⟩, ⟨by (with_reducible repeat (first | apply Kd.S_alloc | apply Kd.S_drewN | apply Kd.S_drew)); exact HO202.out⟩, ⟨by (with_reducible repeat (first | apply Kd.S_alloc | apply Kd.S_drewN | apply Kd.S_drew)); exact Kd.S_mono HO209.out (fun _ hk => trivial)⟩, ⟨by repeat (first | (with_reducible first | exact HB.out | apply below_alloc | apply pw_below_drewN | apply below_drew1) | exact HB.out)⟩⟩
     ·rw [if_neg c16] at H
      have c16b0 : (t200 == t207) = false := beq_eq_false_iff_ne.mpr c16
      have c16b1 : (t200 != t207) = true := bne_iff_ne.mpr c16
      (first | rw [c16b0] | (simp only [i64_w, i32_w]; rw [c16b0]) | skip)
      have H' := Aside0.mk H
      clear H
      go_wp2
      go_meet
      case rel => exact ⟨_, (true), (by first | rfl | (simp; done) | (simp [*]; done)), H', ⟨by have := HJ3.out; first | omega | exact Nat.le_refl _⟩, ⟨by (with_reducible repeat (first | apply Kd.S_alloc | apply Kd.S_drewN | apply Kd.S_drew)); exact HO202.out⟩, ⟨by (with_reducible repeat (first | apply Kd.S_alloc | apply Kd.S_drewN | apply Kd.S_drew)); exact Kd.S_mono HO209.out (fun _ hk => trivial)⟩, ⟨by repeat (first | (with_reducible first | exact HB.out | apply below_alloc | apply pw_below_drewN | apply below_drew1) | exact HB.out)⟩⟩
    case rest =>
     clear HC11
     try clear c1
     try clear c2
     try clear p2
     try clear c5
     try clear c6
     try clear c7
     try clear c16
     try clear c16b0
     try clear c16b1
     try clear c17
     try clear c18
     try clear p2
     obtain ⟨kq, x40_10, rfl, HA, HJ10, HO_5, HO_7, HB⟩ := hcut
     cases kq with
     | zero => exact absurd HA.out (by simp [rootcellarlaw12_StepGroups.j1])
     | succ kj10 =>
      have H := HA.out
      clear HA
      simp only [rootcellarlaw12_StepGroups.j1] at H
      by_cases c19 : x40_10 = true
      ·subst c19
       have H1 : (some false) = some r := by rw [if_pos rfl] at H; exact H
       clear H
       have H := H1
       clear H1
       obtain rfl := Option.some.inj H
       go_wp2
       go_ret
       exact ⟨by first | rfl | (simp [errW_none, errW_some] <;> rfl) | (simp [*, errW_none, errW_some] <;> rfl), by repeat (first | (with_reducible first | exact HB.out | apply below_alloc | apply pw_below_drewN | apply below_drew1) | exact HB.out)⟩
      ·replace c19 := Bool.eq_false_iff.mpr c19
       subst c19
       have H1 : (rootcellarlaw12_StepGroups.l0 kj10 t199 t206 0) = some r := by rw [if_neg (show ¬ (false = true) by decide)] at H; exact H
       clear H
       have H := H1
       clear H1
       have H' := Aside0.mk H
       clear H
       go_wp2
       go_loopg [9] kj10 (fun kq v9 w' => ∃ (x9_3 : Int), v9 = .int .i64 x9_3 ∧ Aside0 (rootcellarlaw12_StepGroups.l0 kq t199 t206 x9_3 = some r) ∧ Aside0 (kq ≤ kj10) ∧ Aside0 (Kd.S k44 44 w' w.heap.size (fun _ => True) v201 t199) ∧ Aside0 (Kd.S k46 46 w' w.heap.size (fun _ => True) v208 t206) ∧ Aside0 (Below w.heap.size w w'))
       case atStart => exact ⟨(0), (by first | rfl | (simp; done) | (simp [*]; done)), H', ⟨Nat.le_refl _⟩, ⟨by (with_reducible repeat (first | apply Kd.S_alloc | apply Kd.S_drewN | apply Kd.S_drew)); exact HO_5.out⟩, ⟨by (with_reducible repeat (first | apply Kd.S_alloc | apply Kd.S_drewN | apply Kd.S_drew)); exact HO_7.out⟩, ⟨by repeat (first | (with_reducible first | exact HB.out | apply below_alloc | apply pw_below_drewN | apply below_drew1) | exact HB.out)⟩⟩
       case round =>
        clear H'
        try clear c1
        try clear c2
        try clear p2
        try clear c5
        try clear c6
        try clear c7
        try clear c16
        try clear c16b0
        try clear c16b1
        try clear c17
        try clear c18
        try clear c19
        try clear p2
        obtain ⟨x9_3, rfl, HA, HK3, HO_5, HO_7, HB⟩ := hrel
        cases gk with
        | zero => exact absurd HA.out (by simp [rootcellarlaw12_StepGroups.l0])
        | succ k3 =>
         have H := HA.out
         clear HA
         simp only [rootcellarlaw12_StepGroups.l0] at H
         by_cases c20 : x9_3 < (t199.length : Int)
         ·rw [if_pos c20] at H
          have c20b0 : decide (x9_3 < (t199.length : Int)) = true := decide_eq_true c20
          clear c20
          by_cases c21 : 0 ≤ x9_3
          ·rw [if_pos c21] at H
           have c21b0 : decide (0 ≤ x9_3) = true := decide_eq_true c21
           clear c21
           by_cases c22 : x9_3 < (t206.length : Int)
           ·rw [if_pos c22] at H
            have c22b0 : decide (x9_3 < (t206.length : Int)) = true := decide_eq_true c22
            clear c22
            by_cases c23 : ((rd_T44 t199 x9_3).f0) = ((rd_T46 t206 x9_3).f0)
            ·rw [if_pos c23] at H
             have c23b0 : (((rd_T44 t199 x9_3).f0) == ((rd_T46 t206 x9_3).f0)) = true := beq_iff_eq.mpr c23
             have c23b1 : (((rd_T44 t199 x9_3).f0) != ((rd_T46 t206 x9_3).f0)) = false := bne_eq_false_iff_eq.mpr c23
             clear c23
             replace H := Option.bind_eq_some_iff.mp H
             obtain ⟨t214, A240, H⟩ := H
             replace H : (if t214 = true then (rootcellarlaw12_StepGroups.l0 k3 t199 t206 (wrap64 (x9_3 + 1))) else (some false)) = some r := H
             have A24 := Aside0.mk A240
             clear A240
             by_cases c25 : t214 = true
             ·subst c25
              have H1 : (rootcellarlaw12_StepGroups.l0 k3 t199 t206 (wrap64 (x9_3 + 1))) = some r := by rw [if_pos rfl] at H; exact H
              clear H
              have H := H1
              clear H1
              have H' := Aside0.mk H
              clear H
              obtain ⟨Ao26, co26, eo26⟩ := Kd.S_slice HO_5.out
              subst eo26
              try go_wp2
              have n0_ := Aside0.mk (Kd.S_drew HO_5.out)
              have n1_ := Aside0.mk (Kd.S_drew HO_7.out)
              have n2_ := Aside0.mk (below_drew1 HB.out)
              clear HO_5
              clear HO_7
              clear HB
              have HO_5 := n0_
              have HO_7 := n1_
              have HB := n2_
              clear n0_ n1_ n2_
              have p210 : 0 ≤ (x9_3 : Int) := of_decide_eq_true (by first | (with_reducible assumption) | assumption)
              have q210 : x9_3 < (t199.length : Int) := of_decide_eq_true (by first | (with_reducible assumption) | assumption)
              obtain ⟨ad210, A210_1, c210_1, e210, hx210_0, hx210_1, hl210_1, hi210_1⟩ := at_T44 (Kd.S_reads' HO_5.out).2.2 x9_3 p210 q210
              cases e210
              obtain ⟨ce210, hce210, hMe210, hcc210⟩ := Kd.S_get HO_5.out z44 x9_3 p210 (by first | exact q210 | exact of_decide_eq_true (by first | (with_reducible assumption) | assumption) | (have e_ := (Kd.S_reads' HO_5.out).1; omega))
              obtain ⟨ve210_1, rfl, ge210_1⟩ := k44_openM hMe210
              have hv210_1 := hcc210 1 _ rfl
              rw [add_field _ _ 1 (by omega)] at hv210_1
              replace hv210_1 := Option.some.inj (hv210_1.symm.trans hx210_1)
              rw [hv210_1] at ge210_1
              have HL210_1 := Aside0.mk (show Kd.R k24 24 _ _ _ _ ((rd_T44 t199 x9_3).f1) from ge210_1)
              clear hv210_1 ge210_1
              clear hcc210 hce210
              have HR210_1 := Aside0.mk hi210_1
              have HC210_1 := Aside0.mk hl210_1
              clear hi210_1 hl210_1
              replace p210 := eq_true p210
              replace q210 := eq_true q210
              obtain ⟨Ao28, co28, eo28⟩ := Kd.S_slice HO_7.out
              (first | subst eo28 | (injection eo28 with f1_ f2_ f3_; have f4_ := f1_.symm; have f5_ := f3_.symm; clear f1_ f2_ f3_; subst f4_; subst f5_))
              have p211 : 0 ≤ (x9_3 : Int) := of_decide_eq_true (by first | (with_reducible assumption) | assumption)
              have q211 : x9_3 < (t206.length : Int) := of_decide_eq_true (by first | (with_reducible assumption) | assumption)
              obtain ⟨ad211, A211_1, c211_1, e211, hx211_0, hx211_1, hl211_1, hi211_1⟩ := at_T46 (Kd.S_reads' HO_7.out).2.2 x9_3 p211 q211
              cases e211
              obtain ⟨ce211, hce211, hMe211, hcc211⟩ := Kd.S_get HO_7.out z46 x9_3 p211 (by first | exact q211 | exact of_decide_eq_true (by first | (with_reducible assumption) | assumption) | (have e_ := (Kd.S_reads' HO_7.out).1; omega))
              obtain ⟨ve211_1, rfl, ge211_1⟩ := k46_openM hMe211
              have hv211_1 := hcc211 1 _ rfl
              rw [add_field _ _ 1 (by omega)] at hv211_1
              replace hv211_1 := Option.some.inj (hv211_1.symm.trans hx211_1)
              rw [hv211_1] at ge211_1
              have HL211_1 := Aside0.mk (show Kd.R k26 26 _ _ _ _ ((rd_T46 t206 x9_3).f1) from ge211_1)
              clear hv211_1 ge211_1
              clear hcc211 hce211
              have HR211_1 := Aside0.mk hi211_1
              have HC211_1 := Aside0.mk hl211_1
              clear hi211_1 hl211_1
              replace p211 := eq_true p211
              replace q211 := eq_true q211
              have p212 : 0 ≤ (x9_3 : Int) := of_decide_eq_true (by first | (with_reducible assumption) | assumption)
              have q212 : x9_3 < (t199.length : Int) := of_decide_eq_true (by first | (with_reducible assumption) | assumption)
              obtain ⟨ad212, A212_1, c212_1, e212, hx212_0, hx212_1, hl212_1, hi212_1⟩ := at_T44 (Kd.S_reads' HO_5.out).2.2 x9_3 p212 q212
              obtain rfl : ad210 = ad212 := (by injection e212)
              obtain ⟨ce212, hce212, hMe212, hcc212⟩ := Kd.S_get HO_5.out z44 x9_3 p212 (by first | exact q212 | exact of_decide_eq_true (by first | (with_reducible assumption) | assumption) | (have e_ := (Kd.S_reads' HO_5.out).1; omega))
              obtain ⟨ve212_1, rfl, ge212_1⟩ := k44_openM hMe212
              have hv212_1 := hcc212 1 _ rfl
              rw [add_field _ _ 1 (by omega)] at hv212_1
              replace hv212_1 := Option.some.inj (hv212_1.symm.trans hx212_1)
              rw [hv212_1] at ge212_1
              have HL212_1 := Aside0.mk (show Kd.R k24 24 _ _ _ _ ((rd_T44 t199 x9_3).f1) from ge212_1)
              clear hv212_1 ge212_1
              clear hcc212 hce212
              have HR212_1 := Aside0.mk hi212_1
              have HC212_1 := Aside0.mk hl212_1
              clear hi212_1 hl212_1
              replace p212 := eq_true p212
              replace q212 := eq_true q212
              have ea_ := Option.some.inj (hx210_1.symm.trans hx212_1)
              injection ea_ with ea_ en_ ec_
              subst ea_
              subst ec_
              clear en_
              have p213 : 0 ≤ (x9_3 : Int) := of_decide_eq_true (by first | (with_reducible assumption) | assumption)
              have q213 : x9_3 < (t206.length : Int) := of_decide_eq_true (by first | (with_reducible assumption) | assumption)
              obtain ⟨ad213, A213_1, c213_1, e213, hx213_0, hx213_1, hl213_1, hi213_1⟩ := at_T46 (Kd.S_reads' HO_7.out).2.2 x9_3 p213 q213
              obtain rfl : ad211 = ad213 := (by injection e213)
              obtain ⟨ce213, hce213, hMe213, hcc213⟩ := Kd.S_get HO_7.out z46 x9_3 p213 (by first | exact q213 | exact of_decide_eq_true (by first | (with_reducible assumption) | assumption) | (have e_ := (Kd.S_reads' HO_7.out).1; omega))
              obtain ⟨ve213_1, rfl, ge213_1⟩ := k46_openM hMe213
              have hv213_1 := hcc213 1 _ rfl
              rw [add_field _ _ 1 (by omega)] at hv213_1
              replace hv213_1 := Option.some.inj (hv213_1.symm.trans hx213_1)
              rw [hv213_1] at ge213_1
              have HL213_1 := Aside0.mk (show Kd.R k26 26 _ _ _ _ ((rd_T46 t206 x9_3).f1) from ge213_1)
              clear hv213_1 ge213_1
              clear hcc213 hce213
              have HR213_1 := Aside0.mk hi213_1
              have HC213_1 := Aside0.mk hl213_1
              clear hi213_1 hl213_1
              replace p213 := eq_true p213
              replace q213 := eq_true q213
              have ea_ := Option.some.inj (hx211_1.symm.trans hx213_1)
              injection ea_ with ea_ en_ ec_
              subst ea_
              subst ec_
              clear en_
              refine start_ (n := 25) (S := fun w' => w'.cell? (ad210.add ((x9_3).toNat * 2)) = some (.int .u64 ((rd_T44 t199 x9_3).f0)) ∧ w'.cell? ⟨(ad210.add ((x9_3).toNat * 2)).block, (ad210.add ((x9_3).toNat * 2)).off + 1, none⟩ = some (.slice A210_1 ((rd_T44 t199 x9_3).f1).length c210_1) ∧ w'.cell? (ad211.add ((x9_3).toNat * 2)) = some (.int .u64 ((rd_T46 t206 x9_3).f0)) ∧ w'.cell? ⟨(ad211.add ((x9_3).toNat * 2)).block, (ad211.add ((x9_3).toNat * 2)).off + 1, none⟩ = some (.slice A211_1 ((rd_T46 t206 x9_3).f1).length c211_1) ∧ w'.cell? (ad210.add ((x9_3).toNat * 2)) = some (.int .u64 ((rd_T44 t199 x9_3).f0)) ∧ w'.cell? ⟨(ad210.add ((x9_3).toNat * 2)).block, (ad210.add ((x9_3).toNat * 2)).off + 1, none⟩ = some (.slice A210_1 ((rd_T44 t199 x9_3).f1).length c210_1) ∧ w'.cell? (ad211.add ((x9_3).toNat * 2)) = some (.int .u64 ((rd_T46 t206 x9_3).f0)) ∧ w'.cell? ⟨(ad211.add ((x9_3).toNat * 2)).block, (ad211.add ((x9_3).toNat * 2)).off + 1, none⟩ = some (.slice A211_1 ((rd_T46 t206 x9_3).f1).length c211_1)) (ds := []) #[false, false, false, false, false, false, false, false, false, false, false, false, false, false, false, false, false, false, false, false, false, false, false, false, false] (by kernel_rfl) rfl rfl ⟨hx210_0, hx210_1, hx211_0, hx211_1, hx212_0, hx212_1, hx213_0, hx213_1⟩ (fun hHeld => ?_); refine with_tabW rootcellarlaw12_StepGroups.tab12 rootcellarlaw12_StepGroups.bits12 (fun HT_ HW_ => ?_)
              generalize wr.drew = w27 at HO_5 HO_7 HB HL210_1 HL211_1 HL212_1 HL213_1 HR210_1 HR211_1 HR212_1 HR213_1 hx210_0 hx210_1 hx211_0 hx211_1 hx212_0 hx212_1 hx213_0 hx213_1 hHeld ⊢
              refine pure_ (i := 0) (N := some 47) (v := ?_) (a' := ?_) #[true, false, false, false, false, false, false, false, false, false, false, false, false, false, false, false, false, false, false, false, false, false, false, false, false] rfl rfl (any_of HT_.out (by kernel_rfl)) (fun _ _ _ h => h) (Or.inl ⟨by rfl, ?_⟩) ?_ ?_
              rotate_left
              ·intro w'
               go_simp
               with_reducible rfl
              rotate_left
              ·simp only [Act.put, List.setIfInBounds_toArray, List.set_cons_zero, List.set_cons_succ, i64_w, i32_w]
               rfl
              refine pure_ (i := 1) (N := some 48) (v := ?_) (a' := ?_) #[true, true, false, false, false, false, false, false, false, false, false, false, false, false, false, false, false, false, false, false, false, false, false, false, false] rfl rfl (any_of HT_.out (by kernel_rfl)) (fun _ _ _ h => h) (Or.inl ⟨by rfl, ?_⟩) ?_ ?_
              rotate_left
              ·intro w'
               go_simp
               with_reducible rfl
              rotate_left
              ·simp only [Act.put, List.setIfInBounds_toArray, List.set_cons_zero, List.set_cons_succ, i64_w, i32_w]
               rfl
              refine pure_ (i := 2) (N := some 49) (v := ?_) (a' := ?_) #[true, true, true, false, false, false, false, false, false, false, false, false, false, false, false, false, false, false, false, false, false, false, false, false, false] rfl rfl (any_of HT_.out (by kernel_rfl)) (fun _ _ _ h => h) (Or.inl ⟨by rfl, ?_⟩) ?_ ?_
              rotate_left
              ·intro w'
               go_simp
               with_reducible rfl
              rotate_left
              ·simp only [Act.put, List.setIfInBounds_toArray, List.set_cons_zero, List.set_cons_succ, i64_w, i32_w]
               rfl
              refine pure_ (i := 3) (N := some 50) (v := ?_) (a' := ?_) #[true, true, true, true, false, false, false, false, false, false, false, false, false, false, false, false, false, false, false, false, false, false, false, false, false] rfl rfl (any_of HT_.out (by kernel_rfl)) (fun _ _ _ h => h) (Or.inl ⟨by rfl, ?_⟩) ?_ ?_
              rotate_left
              ·intro w'
               go_simp
               with_reducible rfl
              rotate_left
              ·simp only [Act.put, List.setIfInBounds_toArray, List.set_cons_zero, List.set_cons_succ, i64_w, i32_w]
               rfl
              refine pure_ (i := 5) (N := some 52) (v := ?_) (a' := ?_) #[true, true, true, true, false, true, false, false, false, false, false, false, false, false, false, false, false, false, false, false, false, false, false, false, false] rfl rfl (any_of HT_.out (by kernel_rfl)) (fun _ _ _ h => h) (Or.inl ⟨by rfl, ?_⟩) ?_ ?_
              rotate_left
              ·intro w'
               go_simp
               with_reducible rfl
              rotate_left
              ·simp only [Act.put, List.setIfInBounds_toArray, List.set_cons_zero, List.set_cons_succ, i64_w, i32_w]
               rfl
              refine pure_ (i := 6) (N := some 53) (v := ?_) (a' := ?_) #[true, true, true, true, false, true, true, false, false, false, false, false, false, false, false, false, false, false, false, false, false, false, false, false, false] rfl rfl (any_of HT_.out (by kernel_rfl)) (fun _ _ _ h => h) (Or.inl ⟨by rfl, ?_⟩) ?_ ?_
              rotate_left
              ·intro w'
               go_simp
               with_reducible rfl
              rotate_left
              ·simp only [Act.put, List.setIfInBounds_toArray, List.set_cons_zero, List.set_cons_succ, i64_w, i32_w]
               rfl
              refine pure_ (i := 7) (N := some 54) (v := ?_) (a' := ?_) #[true, true, true, true, false, true, true, true, false, false, false, false, false, false, false, false, false, false, false, false, false, false, false, false, false] rfl rfl (any_of HT_.out (by kernel_rfl)) (fun _ _ _ h => h) (Or.inl ⟨by rfl, ?_⟩) ?_ ?_
              rotate_left
              ·intro w'
               go_simp
               with_reducible rfl
              rotate_left
              ·simp only [Act.put, List.setIfInBounds_toArray, List.set_cons_zero, List.set_cons_succ, i64_w, i32_w]
               rfl
              refine pure_ (i := 8) (N := some 55) (v := ?_) (a' := ?_) #[true, true, true, true, false, true, true, true, true, false, false, false, false, false, false, false, false, false, false, false, false, false, false, false, false] rfl rfl (any_of HT_.out (by kernel_rfl)) (fun _ _ _ h => h) (Or.inl ⟨by rfl, ?_⟩) ?_ ?_
              rotate_left
              ·intro w'
               go_simp
               with_reducible rfl
              rotate_left
              ·simp only [Act.put, List.setIfInBounds_toArray, List.set_cons_zero, List.set_cons_succ, i64_w, i32_w]
               rfl
              refine take_ (i := 4) (N := some 51) (v := ?_) (a' := ?_) #[true, true, true, true, true, true, true, true, true, false, false, false, false, false, false, false, false, false, false, false, false, false, false, false, false] rfl rfl (take_ofW HT_.out HW_.out (by kernel_rfl)) (fun _ _ _ h => h) (Or.inl ⟨by rfl, ?_⟩) hHeld ?_ ?_
              rotate_left
              ·rintro w' ⟨s0, s1, s2, s3, s4, s5, s6, s7⟩
               go_simp
               with_reducible rfl
              rotate_left
              ·simp only [Act.put, List.setIfInBounds_toArray, List.set_cons_zero, List.set_cons_succ, i64_w, i32_w]
               rfl
              refine take_ (i := 9) (N := some 56) (v := ?_) (a' := ?_) #[true, true, true, true, true, true, true, true, true, true, false, false, false, false, false, false, false, false, false, false, false, false, false, false, false] rfl rfl (take_ofW HT_.out HW_.out (by kernel_rfl)) (fun _ _ _ h => h) (Or.inl ⟨by rfl, ?_⟩) hHeld ?_ ?_
              rotate_left
              ·rintro w' ⟨s0, s1, s2, s3, s4, s5, s6, s7⟩
               go_simp
               with_reducible rfl
              rotate_left
              ·simp only [Act.put, List.setIfInBounds_toArray, List.set_cons_zero, List.set_cons_succ, i64_w, i32_w]
               rfl
              refine pure_ (i := 10) (N := some 57) (v := ?_) (a' := ?_) #[true, true, true, true, true, true, true, true, true, true, true, false, false, false, false, false, false, false, false, false, false, false, false, false, false] rfl rfl (any_of HT_.out (by kernel_rfl)) (fun _ _ _ h => h) (Or.inl ⟨by rfl, ?_⟩) ?_ ?_
              rotate_left
              ·intro w'
               go_simp
               with_reducible rfl
              rotate_left
              ·simp only [Act.put, List.setIfInBounds_toArray, List.set_cons_zero, List.set_cons_succ, i64_w, i32_w]
               rfl
              refine pure_ (i := 11) (N := some 58) (v := ?_) (a' := ?_) #[true, true, true, true, true, true, true, true, true, true, true, true, false, false, false, false, false, false, false, false, false, false, false, false, false] rfl rfl (any_of HT_.out (by kernel_rfl)) (fun _ _ _ h => h) (Or.inl ⟨by rfl, ?_⟩) ?_ ?_
              rotate_left
              ·intro w'
               go_simp
               with_reducible rfl
              rotate_left
              ·simp only [Act.put, List.setIfInBounds_toArray, List.set_cons_zero, List.set_cons_succ, i64_w, i32_w]
               rfl
              refine pure_ (i := 12) (N := some 59) (v := ?_) (a' := ?_) #[true, true, true, true, true, true, true, true, true, true, true, true, true, false, false, false, false, false, false, false, false, false, false, false, false] rfl rfl (any_of HT_.out (by kernel_rfl)) (fun _ _ _ h => h) (Or.inl ⟨by rfl, ?_⟩) ?_ ?_
              rotate_left
              ·intro w'
               go_simp
               with_reducible rfl
              rotate_left
              ·simp only [Act.put, List.setIfInBounds_toArray, List.set_cons_zero, List.set_cons_succ, i64_w, i32_w]
               rfl
              refine pure_ (i := 13) (N := some 60) (v := ?_) (a' := ?_) #[true, true, true, true, true, true, true, true, true, true, true, true, true, true, false, false, false, false, false, false, false, false, false, false, false] rfl rfl (any_of HT_.out (by kernel_rfl)) (fun _ _ _ h => h) (Or.inl ⟨by rfl, ?_⟩) ?_ ?_
              rotate_left
              ·intro w'
               go_simp
               with_reducible rfl
              rotate_left
              ·simp only [Act.put, List.setIfInBounds_toArray, List.set_cons_zero, List.set_cons_succ, i64_w, i32_w]
               rfl
              refine pure_ (i := 14) (N := some 61) (v := ?_) (a' := ?_) #[true, true, true, true, true, true, true, true, true, true, true, true, true, true, true, false, false, false, false, false, false, false, false, false, false] rfl rfl (any_of HT_.out (by kernel_rfl)) (fun _ _ _ h => h) (Or.inl ⟨by rfl, ?_⟩) ?_ ?_
              rotate_left
              ·intro w'
               go_simp
               with_reducible rfl
              rotate_left
              ·simp only [Act.put, List.setIfInBounds_toArray, List.set_cons_zero, List.set_cons_succ, i64_w, i32_w]
               rfl
              refine pure_ (i := 15) (N := some 62) (v := ?_) (a' := ?_) #[true, true, true, true, true, true, true, true, true, true, true, true, true, true, true, true, false, false, false, false, false, false, false, false, false] rfl rfl (any_of HT_.out (by kernel_rfl)) (fun _ _ _ h => h) (Or.inl ⟨by rfl, ?_⟩) ?_ ?_
              rotate_left
              ·intro w'
               go_simp
               with_reducible rfl
              rotate_left
              ·simp only [Act.put, List.setIfInBounds_toArray, List.set_cons_zero, List.set_cons_succ, i64_w, i32_w]
               rfl
              refine pure_ (i := 17) (N := some 64) (v := ?_) (a' := ?_) #[true, true, true, true, true, true, true, true, true, true, true, true, true, true, true, true, false, true, false, false, false, false, false, false, false] rfl rfl (any_of HT_.out (by kernel_rfl)) (fun _ _ _ h => h) (Or.inl ⟨by rfl, ?_⟩) ?_ ?_
              rotate_left
              ·intro w'
               go_simp
               with_reducible rfl
              rotate_left
              ·simp only [Act.put, List.setIfInBounds_toArray, List.set_cons_zero, List.set_cons_succ, i64_w, i32_w]
               rfl
              refine pure_ (i := 18) (N := some 65) (v := ?_) (a' := ?_) #[true, true, true, true, true, true, true, true, true, true, true, true, true, true, true, true, false, true, true, false, false, false, false, false, false] rfl rfl (any_of HT_.out (by kernel_rfl)) (fun _ _ _ h => h) (Or.inl ⟨by rfl, ?_⟩) ?_ ?_
              rotate_left
              ·intro w'
               go_simp
               with_reducible rfl
              rotate_left
              ·simp only [Act.put, List.setIfInBounds_toArray, List.set_cons_zero, List.set_cons_succ, i64_w, i32_w]
               rfl
              refine pure_ (i := 19) (N := some 66) (v := ?_) (a' := ?_) #[true, true, true, true, true, true, true, true, true, true, true, true, true, true, true, true, false, true, true, true, false, false, false, false, false] rfl rfl (any_of HT_.out (by kernel_rfl)) (fun _ _ _ h => h) (Or.inl ⟨by rfl, ?_⟩) ?_ ?_
              rotate_left
              ·intro w'
               go_simp
               with_reducible rfl
              rotate_left
              ·simp only [Act.put, List.setIfInBounds_toArray, List.set_cons_zero, List.set_cons_succ, i64_w, i32_w]
               rfl
              refine pure_ (i := 20) (N := some 67) (v := ?_) (a' := ?_) #[true, true, true, true, true, true, true, true, true, true, true, true, true, true, true, true, false, true, true, true, true, false, false, false, false] rfl rfl (any_of HT_.out (by kernel_rfl)) (fun _ _ _ h => h) (Or.inl ⟨by rfl, ?_⟩) ?_ ?_
              rotate_left
              ·intro w'
               go_simp
               with_reducible rfl
              rotate_left
              ·simp only [Act.put, List.setIfInBounds_toArray, List.set_cons_zero, List.set_cons_succ, i64_w, i32_w]
               rfl
              refine take_ (i := 16) (N := some 63) (v := ?_) (a' := ?_) #[true, true, true, true, true, true, true, true, true, true, true, true, true, true, true, true, true, true, true, true, true, false, false, false, false] rfl rfl (take_ofW HT_.out HW_.out (by kernel_rfl)) (fun _ _ _ h => h) (Or.inl ⟨by rfl, ?_⟩) hHeld ?_ ?_
              rotate_left
              ·rintro w' ⟨s0, s1, s2, s3, s4, s5, s6, s7⟩
               go_simp
               with_reducible rfl
              rotate_left
              ·simp only [Act.put, List.setIfInBounds_toArray, List.set_cons_zero, List.set_cons_succ, i64_w, i32_w]
               rfl
              refine take_ (i := 21) (N := some 68) (v := ?_) (a' := ?_) #[true, true, true, true, true, true, true, true, true, true, true, true, true, true, true, true, true, true, true, true, true, true, false, false, false] rfl rfl (take_ofW HT_.out HW_.out (by kernel_rfl)) (fun _ _ _ h => h) (Or.inl ⟨by rfl, ?_⟩) hHeld ?_ ?_
              rotate_left
              ·rintro w' ⟨s0, s1, s2, s3, s4, s5, s6, s7⟩
               go_simp
               with_reducible rfl
              rotate_left
              ·simp only [Act.put, List.setIfInBounds_toArray, List.set_cons_zero, List.set_cons_succ, i64_w, i32_w]
               rfl
              refine one_ (i := 22) (N := some 69) #[true, true, true, true, true, true, true, true, true, true, true, true, true, true, true, true, true, true, true, true, true, true, true, false, false] rfl rfl (one_of HT_.out (by kernel_rfl)) (by decide) (fun K hK => ?_)
              refine goes_ Tryd.func26 (by kernel_rfl) rfl #[.slice A210_1 ((rd_T44 t199 x9_3).f1).length c210_1, .slice A211_1 ((rd_T46 t206 x9_3).f1).length c211_1] (by rfl) rfl rfl (by (try simp only [List.map_toArray, List.map_cons, List.map_nil]); first | done | rfl | (simp only [List.length_drop, List.length_take]; rfl) | (rw [wrap_sum2 (by assumption)]; rfl)) ?_
              with_reducible refine (rootcellarlaw12_sameSteps.calls k3 _ _ ((rd_T44 t199 x9_3).f1) _ _ ((rd_T46 t206 x9_3).f1) true _ ?side1 ?side2 ?side3 ?side4 A24.out).mono ?_
              (case side1 => repeat (first | exact (by repeat (first | (with_reducible exact HR212_1.out) | (with_reducible refine Kd.C_alloc ?_ _) | (with_reducible refine Kd.C_drewN ?_ _) | (with_reducible refine Kd.C_drew ?_) | exact HR212_1.out)) | (with_reducible refine Kd.C_alloc ?_ _) | (with_reducible refine Kd.C_drewN ?_ _) | (with_reducible refine Kd.C_drew ?_)))
              (case side2 => exact HC212_1.out)
              (case side3 => repeat (first | exact (by repeat (first | (with_reducible exact HR213_1.out) | (with_reducible refine Kd.C_alloc ?_ _) | (with_reducible refine Kd.C_drewN ?_ _) | (with_reducible refine Kd.C_drew ?_) | exact HR213_1.out)) | (with_reducible refine Kd.C_alloc ?_ _) | (with_reducible refine Kd.C_drewN ?_ _) | (with_reducible refine Kd.C_drew ?_)))
              (case side4 => exact HC213_1.out)
              rintro e w29 ⟨rfl, hb⟩
              have HS0_ := (hb.cell (World.block_lt_of_cell? _ _ (hHeld.1))).trans (hHeld.1)
              have HS1_ := (hb.cell (World.block_lt_of_cell? _ _ (hHeld.2.1))).trans (hHeld.2.1)
              have HS2_ := (hb.cell (World.block_lt_of_cell? _ _ (hHeld.2.2.1))).trans (hHeld.2.2.1)
              have HS3_ := (hb.cell (World.block_lt_of_cell? _ _ (hHeld.2.2.2.1))).trans (hHeld.2.2.2.1)
              have HS4_ := (hb.cell (World.block_lt_of_cell? _ _ (hHeld.2.2.2.2.1))).trans (hHeld.2.2.2.2.1)
              have HS5_ := (hb.cell (World.block_lt_of_cell? _ _ (hHeld.2.2.2.2.2.1))).trans (hHeld.2.2.2.2.2.1)
              have HS6_ := (hb.cell (World.block_lt_of_cell? _ _ (hHeld.2.2.2.2.2.2.1))).trans (hHeld.2.2.2.2.2.2.1)
              have HS7_ := (hb.cell (World.block_lt_of_cell? _ _ (hHeld.2.2.2.2.2.2.2))).trans (hHeld.2.2.2.2.2.2.2)
              refine ⟨_, rfl, ?_⟩
              have n0_ := Aside0.mk (Kd.S_below (by (with_reducible repeat (first | apply Kd.S_alloc | apply Kd.S_drewN | apply Kd.S_drew)); exact HO_5.out) hb)
              have n1_ := Aside0.mk (Kd.S_below (by (with_reducible repeat (first | apply Kd.S_alloc | apply Kd.S_drewN | apply Kd.S_drew)); exact HO_7.out) hb)
              have n2_ := Aside0.mk (Kd.R_below (by (with_reducible repeat (first | apply Kd.R_alloc | apply Kd.R_drewN | apply Kd.R_drew)); exact HL210_1.out) hb)
              have n3_ := Aside0.mk (Kd.R_below (by (with_reducible repeat (first | apply Kd.R_alloc | apply Kd.R_drewN | apply Kd.R_drew)); exact HL211_1.out) hb)
              have n4_ := Aside0.mk (Kd.R_below (by (with_reducible repeat (first | apply Kd.R_alloc | apply Kd.R_drewN | apply Kd.R_drew)); exact HL212_1.out) hb)
              have n5_ := Aside0.mk (Kd.R_below (by (with_reducible repeat (first | apply Kd.R_alloc | apply Kd.R_drewN | apply Kd.R_drew)); exact HL213_1.out) hb)
              have n6_ := Aside0.mk (Kd.C_below (by repeat (first | (with_reducible exact HR210_1.out) | (with_reducible refine Kd.C_alloc ?_ _) | (with_reducible refine Kd.C_drewN ?_ _) | (with_reducible refine Kd.C_drew ?_) | exact HR210_1.out)) hb)
              have n7_ := Aside0.mk (Kd.C_below (by repeat (first | (with_reducible exact HR211_1.out) | (with_reducible refine Kd.C_alloc ?_ _) | (with_reducible refine Kd.C_drewN ?_ _) | (with_reducible refine Kd.C_drew ?_) | exact HR211_1.out)) hb)
              have n8_ := Aside0.mk (Kd.C_below (by repeat (first | (with_reducible exact HR212_1.out) | (with_reducible refine Kd.C_alloc ?_ _) | (with_reducible refine Kd.C_drewN ?_ _) | (with_reducible refine Kd.C_drew ?_) | exact HR212_1.out)) hb)
              have n9_ := Aside0.mk (Kd.C_below (by repeat (first | (with_reducible exact HR213_1.out) | (with_reducible refine Kd.C_alloc ?_ _) | (with_reducible refine Kd.C_drewN ?_ _) | (with_reducible refine Kd.C_drew ?_) | exact HR213_1.out)) hb)
              have n10_ := Aside0.mk (below_step (by repeat (first | (with_reducible first | exact HB.out | apply below_alloc | apply pw_below_drewN | apply below_drew1) | exact HB.out)) hb)
              clear HO_5
              clear HO_7
              clear HL210_1
              clear HL211_1
              clear HL212_1
              clear HL213_1
              clear HR210_1
              clear HR211_1
              clear HR212_1
              clear HR213_1
              clear HB
              have HO_5 := n0_
              have HO_7 := n1_
              have HL210_1 := n2_
              have HL211_1 := n3_
              have HL212_1 := n4_
              have HL213_1 := n5_
              have HR210_1 := n6_
              have HR211_1 := n7_
              have HR212_1 := n8_
              have HR213_1 := n9_
              have HB := n10_
              clear n0_ n1_ n2_ n3_ n4_ n5_ n6_ n7_ n8_ n9_ n10_
              (try clear hb)
              (try clear hb2)
              (try clear hk)
              (try clear hi)
              refine hK.out _ _ ⟨HS0_, HS1_, HS2_, HS3_, HS4_, HS5_, HS6_, HS7_⟩ (fun hHeld => ?_)
              clear hK K
              refine norm_ (a' := ?_) ?_ ?_
              rotate_left
              ·show Act.put _ (some 69) _ = _
               simp only [Act.put, List.setIfInBounds_toArray, List.set_cons_zero, List.set_cons_succ, i64_w, i32_w]
               rfl
              refine pure_ (i := 23) (N := some 70) (v := ?_) (a' := ?_) #[true, true, true, true, true, true, true, true, true, true, true, true, true, true, true, true, true, true, true, true, true, true, true, true, false] rfl rfl (any_of HT_.out (by kernel_rfl)) (fun _ _ _ h => h) (Or.inl ⟨by rfl, ?_⟩) ?_ ?_
              rotate_left
              ·intro w'
               go_simp
               with_reducible rfl
              rotate_left
              ·simp only [Act.put, List.setIfInBounds_toArray, List.set_cons_zero, List.set_cons_succ, i64_w, i32_w]
               rfl
              refine pure_ (i := 24) (N := some 71) (v := ?_) (a' := ?_) #[true, true, true, true, true, true, true, true, true, true, true, true, true, true, true, true, true, true, true, true, true, true, true, true, true] rfl rfl (any_of HT_.out (by kernel_rfl)) (fun _ _ _ h => h) (Or.inl ⟨by rfl, ?_⟩) ?_ ?_
              rotate_left
              ·intro w'
               go_simp
               with_reducible rfl
              rotate_left
              ·simp only [Act.put, List.setIfInBounds_toArray, List.set_cons_zero, List.set_cons_succ, i64_w, i32_w]
               rfl
              refine done_ (done_of HT_.out (by kernel_rfl)) ?_
              try go_wp2
              go_roundg k3
              case measure => have := HJ3.out; have := HJ10.out; have := HK3.out; omega
              case rel => exact ⟨(wrap64 (x9_3 + 1)), (by first | rfl | (simp; done) | (simp [*]; done)), H', ⟨by have := HJ3.out; have := HJ10.out; have := HK3.out; omega⟩, ⟨by (with_reducible repeat (first | apply Kd.S_alloc | apply Kd.S_drewN | apply Kd.S_drew)); exact HO_5.out⟩, ⟨by (with_reducible repeat (first | apply Kd.S_alloc | apply Kd.S_drewN | apply Kd.S_drew)); exact HO_7.out⟩, ⟨by repeat (first | (with_reducible first | exact HB.out | apply below_alloc | apply pw_below_drewN | apply below_drew1) | exact HB.out)⟩⟩
             ·replace c25 := Bool.eq_false_iff.mpr c25
              subst c25
              have H1 : (some false) = some r := by rw [if_neg (show ¬ (false = true) by decide)] at H; exact H
              clear H
              have H := H1
              clear H1
              obtain rfl := Option.some.inj H
              obtain ⟨Ao30, co30, eo30⟩ := Kd.S_slice HO_5.out
              subst eo30
              try go_wp2
              have n0_ := Aside0.mk (Kd.S_drew HO_5.out)
              have n1_ := Aside0.mk (Kd.S_drew HO_7.out)
              have n2_ := Aside0.mk (below_drew1 HB.out)
              clear HO_5
              clear HO_7
              clear HB
              have HO_5 := n0_
              have HO_7 := n1_
              have HB := n2_
              clear n0_ n1_ n2_
              have p210 : 0 ≤ (x9_3 : Int) := of_decide_eq_true (by first | (with_reducible assumption) | assumption)
              have q210 : x9_3 < (t199.length : Int) := of_decide_eq_true (by first | (with_reducible assumption) | assumption)
              obtain ⟨ad210, A210_1, c210_1, e210, hx210_0, hx210_1, hl210_1, hi210_1⟩ := at_T44 (Kd.S_reads' HO_5.out).2.2 x9_3 p210 q210
              cases e210
              obtain ⟨ce210, hce210, hMe210, hcc210⟩ := Kd.S_get HO_5.out z44 x9_3 p210 (by first | exact q210 | exact of_decide_eq_true (by first | (with_reducible assumption) | assumption) | (have e_ := (Kd.S_reads' HO_5.out).1; omega))
              obtain ⟨ve210_1, rfl, ge210_1⟩ := k44_openM hMe210
              have hv210_1 := hcc210 1 _ rfl
              rw [add_field _ _ 1 (by omega)] at hv210_1
              replace hv210_1 := Option.some.inj (hv210_1.symm.trans hx210_1)
              rw [hv210_1] at ge210_1
              have HL210_1 := Aside0.mk (show Kd.R k24 24 _ _ _ _ ((rd_T44 t199 x9_3).f1) from ge210_1)
              clear hv210_1 ge210_1
              clear hcc210 hce210
              have HR210_1 := Aside0.mk hi210_1
              have HC210_1 := Aside0.mk hl210_1
              clear hi210_1 hl210_1
              replace p210 := eq_true p210
              replace q210 := eq_true q210
              obtain ⟨Ao32, co32, eo32⟩ := Kd.S_slice HO_7.out
              (first | subst eo32 | (injection eo32 with f1_ f2_ f3_; have f4_ := f1_.symm; have f5_ := f3_.symm; clear f1_ f2_ f3_; subst f4_; subst f5_))
              have p211 : 0 ≤ (x9_3 : Int) := of_decide_eq_true (by first | (with_reducible assumption) | assumption)
              have q211 : x9_3 < (t206.length : Int) := of_decide_eq_true (by first | (with_reducible assumption) | assumption)
              obtain ⟨ad211, A211_1, c211_1, e211, hx211_0, hx211_1, hl211_1, hi211_1⟩ := at_T46 (Kd.S_reads' HO_7.out).2.2 x9_3 p211 q211
              cases e211
              obtain ⟨ce211, hce211, hMe211, hcc211⟩ := Kd.S_get HO_7.out z46 x9_3 p211 (by first | exact q211 | exact of_decide_eq_true (by first | (with_reducible assumption) | assumption) | (have e_ := (Kd.S_reads' HO_7.out).1; omega))
              obtain ⟨ve211_1, rfl, ge211_1⟩ := k46_openM hMe211
              have hv211_1 := hcc211 1 _ rfl
              rw [add_field _ _ 1 (by omega)] at hv211_1
              replace hv211_1 := Option.some.inj (hv211_1.symm.trans hx211_1)
              rw [hv211_1] at ge211_1
              have HL211_1 := Aside0.mk (show Kd.R k26 26 _ _ _ _ ((rd_T46 t206 x9_3).f1) from ge211_1)
              clear hv211_1 ge211_1
              clear hcc211 hce211
              have HR211_1 := Aside0.mk hi211_1
              have HC211_1 := Aside0.mk hl211_1
              clear hi211_1 hl211_1
              replace p211 := eq_true p211
              replace q211 := eq_true q211
              have p212 : 0 ≤ (x9_3 : Int) := of_decide_eq_true (by first | (with_reducible assumption) | assumption)
              have q212 : x9_3 < (t199.length : Int) := of_decide_eq_true (by first | (with_reducible assumption) | assumption)
              obtain ⟨ad212, A212_1, c212_1, e212, hx212_0, hx212_1, hl212_1, hi212_1⟩ := at_T44 (Kd.S_reads' HO_5.out).2.2 x9_3 p212 q212
              obtain rfl : ad210 = ad212 := (by injection e212)
              obtain ⟨ce212, hce212, hMe212, hcc212⟩ := Kd.S_get HO_5.out z44 x9_3 p212 (by first | exact q212 | exact of_decide_eq_true (by first | (with_reducible assumption) | assumption) | (have e_ := (Kd.S_reads' HO_5.out).1; omega))
              obtain ⟨ve212_1, rfl, ge212_1⟩ := k44_openM hMe212
              have hv212_1 := hcc212 1 _ rfl
              rw [add_field _ _ 1 (by omega)] at hv212_1
              replace hv212_1 := Option.some.inj (hv212_1.symm.trans hx212_1)
              rw [hv212_1] at ge212_1
              have HL212_1 := Aside0.mk (show Kd.R k24 24 _ _ _ _ ((rd_T44 t199 x9_3).f1) from ge212_1)
              clear hv212_1 ge212_1
              clear hcc212 hce212
              have HR212_1 := Aside0.mk hi212_1
              have HC212_1 := Aside0.mk hl212_1
              clear hi212_1 hl212_1
              replace p212 := eq_true p212
              replace q212 := eq_true q212
              have ea_ := Option.some.inj (hx210_1.symm.trans hx212_1)
              injection ea_ with ea_ en_ ec_
              subst ea_
              subst ec_
              clear en_
              have p213 : 0 ≤ (x9_3 : Int) := of_decide_eq_true (by first | (with_reducible assumption) | assumption)
              have q213 : x9_3 < (t206.length : Int) := of_decide_eq_true (by first | (with_reducible assumption) | assumption)
              obtain ⟨ad213, A213_1, c213_1, e213, hx213_0, hx213_1, hl213_1, hi213_1⟩ := at_T46 (Kd.S_reads' HO_7.out).2.2 x9_3 p213 q213
              obtain rfl : ad211 = ad213 := (by injection e213)
              obtain ⟨ce213, hce213, hMe213, hcc213⟩ := Kd.S_get HO_7.out z46 x9_3 p213 (by first | exact q213 | exact of_decide_eq_true (by first | (with_reducible assumption) | assumption) | (have e_ := (Kd.S_reads' HO_7.out).1; omega))
              obtain ⟨ve213_1, rfl, ge213_1⟩ := k46_openM hMe213
              have hv213_1 := hcc213 1 _ rfl
              rw [add_field _ _ 1 (by omega)] at hv213_1
              replace hv213_1 := Option.some.inj (hv213_1.symm.trans hx213_1)
              rw [hv213_1] at ge213_1
              have HL213_1 := Aside0.mk (show Kd.R k26 26 _ _ _ _ ((rd_T46 t206 x9_3).f1) from ge213_1)
              clear hv213_1 ge213_1
              clear hcc213 hce213
              have HR213_1 := Aside0.mk hi213_1
              have HC213_1 := Aside0.mk hl213_1
              clear hi213_1 hl213_1
              replace p213 := eq_true p213
              replace q213 := eq_true q213
              have ea_ := Option.some.inj (hx211_1.symm.trans hx213_1)
              injection ea_ with ea_ en_ ec_
              subst ea_
              subst ec_
              clear en_
              refine start_ (n := 25) (S := fun w' => w'.cell? (ad210.add ((x9_3).toNat * 2)) = some (.int .u64 ((rd_T44 t199 x9_3).f0)) ∧ w'.cell? ⟨(ad210.add ((x9_3).toNat * 2)).block, (ad210.add ((x9_3).toNat * 2)).off + 1, none⟩ = some (.slice A210_1 ((rd_T44 t199 x9_3).f1).length c210_1) ∧ w'.cell? (ad211.add ((x9_3).toNat * 2)) = some (.int .u64 ((rd_T46 t206 x9_3).f0)) ∧ w'.cell? ⟨(ad211.add ((x9_3).toNat * 2)).block, (ad211.add ((x9_3).toNat * 2)).off + 1, none⟩ = some (.slice A211_1 ((rd_T46 t206 x9_3).f1).length c211_1) ∧ w'.cell? (ad210.add ((x9_3).toNat * 2)) = some (.int .u64 ((rd_T44 t199 x9_3).f0)) ∧ w'.cell? ⟨(ad210.add ((x9_3).toNat * 2)).block, (ad210.add ((x9_3).toNat * 2)).off + 1, none⟩ = some (.slice A210_1 ((rd_T44 t199 x9_3).f1).length c210_1) ∧ w'.cell? (ad211.add ((x9_3).toNat * 2)) = some (.int .u64 ((rd_T46 t206 x9_3).f0)) ∧ w'.cell? ⟨(ad211.add ((x9_3).toNat * 2)).block, (ad211.add ((x9_3).toNat * 2)).off + 1, none⟩ = some (.slice A211_1 ((rd_T46 t206 x9_3).f1).length c211_1)) (ds := []) #[false, false, false, false, false, false, false, false, false, false, false, false, false, false, false, false, false, false, false, false, false, false, false, false, false] (by kernel_rfl) rfl rfl ⟨hx210_0, hx210_1, hx211_0, hx211_1, hx212_0, hx212_1, hx213_0, hx213_1⟩ (fun hHeld => ?_); refine with_tabW rootcellarlaw12_StepGroups.tab12 rootcellarlaw12_StepGroups.bits12 (fun HT_ HW_ => ?_)
              generalize wr.drew = w31 at HO_5 HO_7 HB HL210_1 HL211_1 HL212_1 HL213_1 HR210_1 HR211_1 HR212_1 HR213_1 hx210_0 hx210_1 hx211_0 hx211_1 hx212_0 hx212_1 hx213_0 hx213_1 hHeld ⊢
              refine pure_ (i := 0) (N := some 47) (v := ?_) (a' := ?_) #[true, false, false, false, false, false, false, false, false, false, false, false, false, false, false, false, false, false, false, false, false, false, false, false, false] rfl rfl (any_of HT_.out (by kernel_rfl)) (fun _ _ _ h => h) (Or.inl ⟨by rfl, ?_⟩) ?_ ?_
              rotate_left
              ·intro w'
               go_simp
               with_reducible rfl
              rotate_left
              ·simp only [Act.put, List.setIfInBounds_toArray, List.set_cons_zero, List.set_cons_succ, i64_w, i32_w]
               rfl
              refine pure_ (i := 1) (N := some 48) (v := ?_) (a' := ?_) #[true, true, false, false, false, false, false, false, false, false, false, false, false, false, false, false, false, false, false, false, false, false, false, false, false] rfl rfl (any_of HT_.out (by kernel_rfl)) (fun _ _ _ h => h) (Or.inl ⟨by rfl, ?_⟩) ?_ ?_
              rotate_left
              ·intro w'
               go_simp
               with_reducible rfl
              rotate_left
              ·simp only [Act.put, List.setIfInBounds_toArray, List.set_cons_zero, List.set_cons_succ, i64_w, i32_w]
               rfl
              refine pure_ (i := 2) (N := some 49) (v := ?_) (a' := ?_) #[true, true, true, false, false, false, false, false, false, false, false, false, false, false, false, false, false, false, false, false, false, false, false, false, false] rfl rfl (any_of HT_.out (by kernel_rfl)) (fun _ _ _ h => h) (Or.inl ⟨by rfl, ?_⟩) ?_ ?_
              rotate_left
              ·intro w'
               go_simp
               with_reducible rfl
              rotate_left
              ·simp only [Act.put, List.setIfInBounds_toArray, List.set_cons_zero, List.set_cons_succ, i64_w, i32_w]
               rfl
              refine pure_ (i := 3) (N := some 50) (v := ?_) (a' := ?_) #[true, true, true, true, false, false, false, false, false, false, false, false, false, false, false, false, false, false, false, false, false, false, false, false, false] rfl rfl (any_of HT_.out (by kernel_rfl)) (fun _ _ _ h => h) (Or.inl ⟨by rfl, ?_⟩) ?_ ?_
              rotate_left
              ·intro w'
               go_simp
               with_reducible rfl
              rotate_left
              ·simp only [Act.put, List.setIfInBounds_toArray, List.set_cons_zero, List.set_cons_succ, i64_w, i32_w]
               rfl
              refine pure_ (i := 5) (N := some 52) (v := ?_) (a' := ?_) #[true, true, true, true, false, true, false, false, false, false, false, false, false, false, false, false, false, false, false, false, false, false, false, false, false] rfl rfl (any_of HT_.out (by kernel_rfl)) (fun _ _ _ h => h) (Or.inl ⟨by rfl, ?_⟩) ?_ ?_
              rotate_left
              ·intro w'
               go_simp
               with_reducible rfl
              rotate_left
              ·simp only [Act.put, List.setIfInBounds_toArray, List.set_cons_zero, List.set_cons_succ, i64_w, i32_w]
               rfl
              refine pure_ (i := 6) (N := some 53) (v := ?_) (a' := ?_) #[true, true, true, true, false, true, true, false, false, false, false, false, false, false, false, false, false, false, false, false, false, false, false, false, false] rfl rfl (any_of HT_.out (by kernel_rfl)) (fun _ _ _ h => h) (Or.inl ⟨by rfl, ?_⟩) ?_ ?_
              rotate_left
              ·intro w'
               go_simp
               with_reducible rfl
              rotate_left
              ·simp only [Act.put, List.setIfInBounds_toArray, List.set_cons_zero, List.set_cons_succ, i64_w, i32_w]
               rfl
              refine pure_ (i := 7) (N := some 54) (v := ?_) (a' := ?_) #[true, true, true, true, false, true, true, true, false, false, false, false, false, false, false, false, false, false, false, false, false, false, false, false, false] rfl rfl (any_of HT_.out (by kernel_rfl)) (fun _ _ _ h => h) (Or.inl ⟨by rfl, ?_⟩) ?_ ?_
              rotate_left
              ·intro w'
               go_simp
               with_reducible rfl
              rotate_left
              ·simp only [Act.put, List.setIfInBounds_toArray, List.set_cons_zero, List.set_cons_succ, i64_w, i32_w]
               rfl
              refine pure_ (i := 8) (N := some 55) (v := ?_) (a' := ?_) #[true, true, true, true, false, true, true, true, true, false, false, false, false, false, false, false, false, false, false, false, false, false, false, false, false] rfl rfl (any_of HT_.out (by kernel_rfl)) (fun _ _ _ h => h) (Or.inl ⟨by rfl, ?_⟩) ?_ ?_
              rotate_left
              ·intro w'
               go_simp
               with_reducible rfl
              rotate_left
              ·simp only [Act.put, List.setIfInBounds_toArray, List.set_cons_zero, List.set_cons_succ, i64_w, i32_w]
               rfl
              refine take_ (i := 4) (N := some 51) (v := ?_) (a' := ?_) #[true, true, true, true, true, true, true, true, true, false, false, false, false, false, false, false, false, false, false, false, false, false, false, false, false] rfl rfl (take_ofW HT_.out HW_.out (by kernel_rfl)) (fun _ _ _ h => h) (Or.inl ⟨by rfl, ?_⟩) hHeld ?_ ?_
              rotate_left
              ·rintro w' ⟨s0, s1, s2, s3, s4, s5, s6, s7⟩
               go_simp
               with_reducible rfl
              rotate_left
              ·simp only [Act.put, List.setIfInBounds_toArray, List.set_cons_zero, List.set_cons_succ, i64_w, i32_w]
               rfl
              refine take_ (i := 9) (N := some 56) (v := ?_) (a' := ?_) #[true, true, true, true, true, true, true, true, true, true, false, false, false, false, false, false, false, false, false, false, false, false, false, false, false] rfl rfl (take_ofW HT_.out HW_.out (by kernel_rfl)) (fun _ _ _ h => h) (Or.inl ⟨by rfl, ?_⟩) hHeld ?_ ?_
              rotate_left
              ·rintro w' ⟨s0, s1, s2, s3, s4, s5, s6, s7⟩
               go_simp
               with_reducible rfl
              rotate_left
              ·simp only [Act.put, List.setIfInBounds_toArray, List.set_cons_zero, List.set_cons_succ, i64_w, i32_w]
               rfl
              refine pure_ (i := 10) (N := some 57) (v := ?_) (a' := ?_) #[true, true, true, true, true, true, true, true, true, true, true, false, false, false, false, false, false, false, false, false, false, false, false, false, false] rfl rfl (any_of HT_.out (by kernel_rfl)) (fun _ _ _ h => h) (Or.inl ⟨by rfl, ?_⟩) ?_ ?_
              rotate_left
              ·intro w'
               go_simp
               with_reducible rfl
              rotate_left
              ·simp only [Act.put, List.setIfInBounds_toArray, List.set_cons_zero, List.set_cons_succ, i64_w, i32_w]
               rfl
              refine pure_ (i := 11) (N := some 58) (v := ?_) (a' := ?_) #[true, true, true, true, true, true, true, true, true, true, true, true, false, false, false, false, false, false, false, false, false, false, false, false, false] rfl rfl (any_of HT_.out (by kernel_rfl)) (fun _ _ _ h => h) (Or.inl ⟨by rfl, ?_⟩) ?_ ?_
              rotate_left
              ·intro w'
               go_simp
               with_reducible rfl
              rotate_left
              ·simp only [Act.put, List.setIfInBounds_toArray, List.set_cons_zero, List.set_cons_succ, i64_w, i32_w]
               rfl
              refine pure_ (i := 12) (N := some 59) (v := ?_) (a' := ?_) #[true, true, true, true, true, true, true, true, true, true, true, true, true, false, false, false, false, false, false, false, false, false, false, false, false] rfl rfl (any_of HT_.out (by kernel_rfl)) (fun _ _ _ h => h) (Or.inl ⟨by rfl, ?_⟩) ?_ ?_
              rotate_left
              ·intro w'
               go_simp
               with_reducible rfl
              rotate_left
              ·simp only [Act.put, List.setIfInBounds_toArray, List.set_cons_zero, List.set_cons_succ, i64_w, i32_w]
               rfl
              refine pure_ (i := 13) (N := some 60) (v := ?_) (a' := ?_) #[true, true, true, true, true, true, true, true, true, true, true, true, true, true, false, false, false, false, false, false, false, false, false, false, false] rfl rfl (any_of HT_.out (by kernel_rfl)) (fun _ _ _ h => h) (Or.inl ⟨by rfl, ?_⟩) ?_ ?_
              rotate_left
              ·intro w'
               go_simp
               with_reducible rfl
              rotate_left
              ·simp only [Act.put, List.setIfInBounds_toArray, List.set_cons_zero, List.set_cons_succ, i64_w, i32_w]
               rfl
              refine pure_ (i := 14) (N := some 61) (v := ?_) (a' := ?_) #[true, true, true, true, true, true, true, true, true, true, true, true, true, true, true, false, false, false, false, false, false, false, false, false, false] rfl rfl (any_of HT_.out (by kernel_rfl)) (fun _ _ _ h => h) (Or.inl ⟨by rfl, ?_⟩) ?_ ?_
              rotate_left
              ·intro w'
               go_simp
               with_reducible rfl
              rotate_left
              ·simp only [Act.put, List.setIfInBounds_toArray, List.set_cons_zero, List.set_cons_succ, i64_w, i32_w]
               rfl
              refine pure_ (i := 15) (N := some 62) (v := ?_) (a' := ?_) #[true, true, true, true, true, true, true, true, true, true, true, true, true, true, true, true, false, false, false, false, false, false, false, false, false] rfl rfl (any_of HT_.out (by kernel_rfl)) (fun _ _ _ h => h) (Or.inl ⟨by rfl, ?_⟩) ?_ ?_
              rotate_left
              ·intro w'
               go_simp
               with_reducible rfl
              rotate_left
              ·simp only [Act.put, List.setIfInBounds_toArray, List.set_cons_zero, List.set_cons_succ, i64_w, i32_w]
               rfl
              refine pure_ (i := 17) (N := some 64) (v := ?_) (a' := ?_) #[true, true, true, true, true, true, true, true, true, true, true, true, true, true, true, true, false, true, false, false, false, false, false, false, false] rfl rfl (any_of HT_.out (by kernel_rfl)) (fun _ _ _ h => h) (Or.inl ⟨by rfl, ?_⟩) ?_ ?_
              rotate_left
              ·intro w'
               go_simp
               with_reducible rfl
              rotate_left
              ·simp only [Act.put, List.setIfInBounds_toArray, List.set_cons_zero, List.set_cons_succ, i64_w, i32_w]
               rfl
              refine pure_ (i := 18) (N := some 65) (v := ?_) (a' := ?_) #[true, true, true, true, true, true, true, true, true, true, true, true, true, true, true, true, false, true, true, false, false, false, false, false, false] rfl rfl (any_of HT_.out (by kernel_rfl)) (fun _ _ _ h => h) (Or.inl ⟨by rfl, ?_⟩) ?_ ?_
              rotate_left
              ·intro w'
               go_simp
               with_reducible rfl
              rotate_left
              ·simp only [Act.put, List.setIfInBounds_toArray, List.set_cons_zero, List.set_cons_succ, i64_w, i32_w]
               rfl
              refine pure_ (i := 19) (N := some 66) (v := ?_) (a' := ?_) #[true, true, true, true, true, true, true, true, true, true, true, true, true, true, true, true, false, true, true, true, false, false, false, false, false] rfl rfl (any_of HT_.out (by kernel_rfl)) (fun _ _ _ h => h) (Or.inl ⟨by rfl, ?_⟩) ?_ ?_
              rotate_left
              ·intro w'
               go_simp
               with_reducible rfl
              rotate_left
              ·simp only [Act.put, List.setIfInBounds_toArray, List.set_cons_zero, List.set_cons_succ, i64_w, i32_w]
               rfl
              refine pure_ (i := 20) (N := some 67) (v := ?_) (a' := ?_) #[true, true, true, true, true, true, true, true, true, true, true, true, true, true, true, true, false, true, true, true, true, false, false, false, false] rfl rfl (any_of HT_.out (by kernel_rfl)) (fun _ _ _ h => h) (Or.inl ⟨by rfl, ?_⟩) ?_ ?_
              rotate_left
              ·intro w'
               go_simp
               with_reducible rfl
              rotate_left
              ·simp only [Act.put, List.setIfInBounds_toArray, List.set_cons_zero, List.set_cons_succ, i64_w, i32_w]
               rfl
              refine take_ (i := 16) (N := some 63) (v := ?_) (a' := ?_) #[true, true, true, true, true, true, true, true, true, true, true, true, true, true, true, true, true, true, true, true, true, false, false, false, false] rfl rfl (take_ofW HT_.out HW_.out (by kernel_rfl)) (fun _ _ _ h => h) (Or.inl ⟨by rfl, ?_⟩) hHeld ?_ ?_
              rotate_left
              ·rintro w' ⟨s0, s1, s2, s3, s4, s5, s6, s7⟩
               go_simp
               with_reducible rfl
              rotate_left
              ·simp only [Act.put, List.setIfInBounds_toArray, List.set_cons_zero, List.set_cons_succ, i64_w, i32_w]
               rfl
              refine take_ (i := 21) (N := some 68) (v := ?_) (a' := ?_) #[true, true, true, true, true, true, true, true, true, true, true, true, true, true, true, true, true, true, true, true, true, true, false, false, false] rfl rfl (take_ofW HT_.out HW_.out (by kernel_rfl)) (fun _ _ _ h => h) (Or.inl ⟨by rfl, ?_⟩) hHeld ?_ ?_
              rotate_left
              ·rintro w' ⟨s0, s1, s2, s3, s4, s5, s6, s7⟩
               go_simp
               with_reducible rfl
              rotate_left
              ·simp only [Act.put, List.setIfInBounds_toArray, List.set_cons_zero, List.set_cons_succ, i64_w, i32_w]
               rfl
              refine one_ (i := 22) (N := some 69) #[true, true, true, true, true, true, true, true, true, true, true, true, true, true, true, true, true, true, true, true, true, true, true, false, false] rfl rfl (one_of HT_.out (by kernel_rfl)) (by decide) (fun K hK => ?_)
              refine goes_ Tryd.func26 (by kernel_rfl) rfl #[.slice A210_1 ((rd_T44 t199 x9_3).f1).length c210_1, .slice A211_1 ((rd_T46 t206 x9_3).f1).length c211_1] (by rfl) rfl rfl (by (try simp only [List.map_toArray, List.map_cons, List.map_nil]); first | done | rfl | (simp only [List.length_drop, List.length_take]; rfl) | (rw [wrap_sum2 (by assumption)]; rfl)) ?_
              with_reducible refine (rootcellarlaw12_sameSteps.calls k3 _ _ ((rd_T44 t199 x9_3).f1) _ _ ((rd_T46 t206 x9_3).f1) false _ ?side1 ?side2 ?side3 ?side4 A24.out).mono ?_
              (case side1 => repeat (first | exact (by repeat (first | (with_reducible exact HR212_1.out) | (with_reducible refine Kd.C_alloc ?_ _) | (with_reducible refine Kd.C_drewN ?_ _) | (with_reducible refine Kd.C_drew ?_) | exact HR212_1.out)) | (with_reducible refine Kd.C_alloc ?_ _) | (with_reducible refine Kd.C_drewN ?_ _) | (with_reducible refine Kd.C_drew ?_)))
              (case side2 => exact HC212_1.out)
              (case side3 => repeat (first | exact (by repeat (first | (with_reducible exact HR213_1.out) | (with_reducible refine Kd.C_alloc ?_ _) | (with_reducible refine Kd.C_drewN ?_ _) | (with_reducible refine Kd.C_drew ?_) | exact HR213_1.out)) | (with_reducible refine Kd.C_alloc ?_ _) | (with_reducible refine Kd.C_drewN ?_ _) | (with_reducible refine Kd.C_drew ?_)))
              (case side4 => exact HC213_1.out)
              rintro e w33 ⟨rfl, hb⟩
              have HS0_ := (hb.cell (World.block_lt_of_cell? _ _ (hHeld.1))).trans (hHeld.1)
              have HS1_ := (hb.cell (World.block_lt_of_cell? _ _ (hHeld.2.1))).trans (hHeld.2.1)
              have HS2_ := (hb.cell (World.block_lt_of_cell? _ _ (hHeld.2.2.1))).trans (hHeld.2.2.1)
              have HS3_ := (hb.cell (World.block_lt_of_cell? _ _ (hHeld.2.2.2.1))).trans (hHeld.2.2.2.1)
              have HS4_ := (hb.cell (World.block_lt_of_cell? _ _ (hHeld.2.2.2.2.1))).trans (hHeld.2.2.2.2.1)
              have HS5_ := (hb.cell (World.block_lt_of_cell? _ _ (hHeld.2.2.2.2.2.1))).trans (hHeld.2.2.2.2.2.1)
              have HS6_ := (hb.cell (World.block_lt_of_cell? _ _ (hHeld.2.2.2.2.2.2.1))).trans (hHeld.2.2.2.2.2.2.1)
              have HS7_ := (hb.cell (World.block_lt_of_cell? _ _ (hHeld.2.2.2.2.2.2.2))).trans (hHeld.2.2.2.2.2.2.2)
              refine ⟨_, rfl, ?_⟩
              have n0_ := Aside0.mk (Kd.S_below (by (with_reducible repeat (first | apply Kd.S_alloc | apply Kd.S_drewN | apply Kd.S_drew)); exact HO_5.out) hb)
              have n1_ := Aside0.mk (Kd.S_below (by (with_reducible repeat (first | apply Kd.S_alloc | apply Kd.S_drewN | apply Kd.S_drew)); exact HO_7.out) hb)
              have n2_ := Aside0.mk (Kd.R_below (by (with_reducible repeat (first | apply Kd.R_alloc | apply Kd.R_drewN | apply Kd.R_drew)); exact HL210_1.out) hb)
              have n3_ := Aside0.mk (Kd.R_below (by (with_reducible repeat (first | apply Kd.R_alloc | apply Kd.R_drewN | apply Kd.R_drew)); exact HL211_1.out) hb)
              have n4_ := Aside0.mk (Kd.R_below (by (with_reducible repeat (first | apply Kd.R_alloc | apply Kd.R_drewN | apply Kd.R_drew)); exact HL212_1.out) hb)
              have n5_ := Aside0.mk (Kd.R_below (by (with_reducible repeat (first | apply Kd.R_alloc | apply Kd.R_drewN | apply Kd.R_drew)); exact HL213_1.out) hb)
              have n6_ := Aside0.mk (Kd.C_below (by repeat (first | (with_reducible exact HR210_1.out) | (with_reducible refine Kd.C_alloc ?_ _) | (with_reducible refine Kd.C_drewN ?_ _) | (with_reducible refine Kd.C_drew ?_) | exact HR210_1.out)) hb)
              have n7_ := Aside0.mk (Kd.C_below (by repeat (first | (with_reducible exact HR211_1.out) | (with_reducible refine Kd.C_alloc ?_ _) | (with_reducible refine Kd.C_drewN ?_ _) | (with_reducible refine Kd.C_drew ?_) | exact HR211_1.out)) hb)
              have n8_ := Aside0.mk (Kd.C_below (by repeat (first | (with_reducible exact HR212_1.out) | (with_reducible refine Kd.C_alloc ?_ _) | (with_reducible refine Kd.C_drewN ?_ _) | (with_reducible refine Kd.C_drew ?_) | exact HR212_1.out)) hb)
              have n9_ := Aside0.mk (Kd.C_below (by repeat (first | (with_reducible exact HR213_1.out) | (with_reducible refine Kd.C_alloc ?_ _) | (with_reducible refine Kd.C_drewN ?_ _) | (with_reducible refine Kd.C_drew ?_) | exact HR213_1.out)) hb)
              have n10_ := Aside0.mk (below_step (by repeat (first | (with_reducible first | exact HB.out | apply below_alloc | apply pw_below_drewN | apply below_drew1) | exact HB.out)) hb)
              clear HO_5
              clear HO_7
              clear HL210_1
              clear HL211_1
              clear HL212_1
              clear HL213_1
              clear HR210_1
              clear HR211_1
              clear HR212_1
              clear HR213_1
              clear HB
              have HO_5 := n0_
              have HO_7 := n1_
              have HL210_1 := n2_
              have HL211_1 := n3_
              have HL212_1 := n4_
              have HL213_1 := n5_
              have HR210_1 := n6_
              have HR211_1 := n7_
              have HR212_1 := n8_
              have HR213_1 := n9_
              have HB := n10_
              clear n0_ n1_ n2_ n3_ n4_ n5_ n6_ n7_ n8_ n9_ n10_
              (try clear hb)
              (try clear hb2)
              (try clear hk)
              (try clear hi)
              refine hK.out _ _ ⟨HS0_, HS1_, HS2_, HS3_, HS4_, HS5_, HS6_, HS7_⟩ (fun hHeld => ?_)
              clear hK K
              refine norm_ (a' := ?_) ?_ ?_
              rotate_left
              ·show Act.put _ (some 69) _ = _
               simp only [Act.put, List.setIfInBounds_toArray, List.set_cons_zero, List.set_cons_succ, i64_w, i32_w]
               rfl
              refine pure_ (i := 23) (N := some 70) (v := ?_) (a' := ?_) #[true, true, true, true, true, true, true, true, true, true, true, true, true, true, true, true, true, true, true, true, true, true, true, true, false] rfl rfl (any_of HT_.out (by kernel_rfl)) (fun _ _ _ h => h) (Or.inl ⟨by rfl, ?_⟩) ?_ ?_
              rotate_left
              ·intro w'
               go_simp
               with_reducible rfl
              rotate_left
              ·simp only [Act.put, List.setIfInBounds_toArray, List.set_cons_zero, List.set_cons_succ, i64_w, i32_w]
               rfl
              refine pure_ (i := 24) (N := some 71) (v := ?_) (a' := ?_) #[true, true, true, true, true, true, true, true, true, true, true, true, true, true, true, true, true, true, true, true, true, true, true, true, true] rfl rfl (any_of HT_.out (by kernel_rfl)) (fun _ _ _ h => h) (Or.inl ⟨by rfl, ?_⟩) ?_ ?_
              rotate_left
              ·intro w'
               go_simp
               with_reducible rfl
              rotate_left
              ·simp only [Act.put, List.setIfInBounds_toArray, List.set_cons_zero, List.set_cons_succ, i64_w, i32_w]
               rfl
              refine done_ (done_of HT_.out (by kernel_rfl)) ?_
              try go_wp2
              go_ret
              exact ⟨by first | rfl | (simp [errW_none, errW_some] <;> rfl) | (simp [*, errW_none, errW_some] <;> rfl), by repeat (first | (with_reducible first | exact HB.out | apply below_alloc | apply pw_below_drewN | apply below_drew1) | exact HB.out)⟩
            ·rw [if_neg c23] at H
             have c23b0 : (((rd_T44 t199 x9_3).f0) == ((rd_T46 t206 x9_3).f0)) = false := beq_eq_false_iff_ne.mpr c23
             have c23b1 : (((rd_T44 t199 x9_3).f0) != ((rd_T46 t206 x9_3).f0)) = true := bne_iff_ne.mpr c23
             obtain rfl := Option.some.inj H
             obtain ⟨Ao34, co34, eo34⟩ := Kd.S_slice HO_5.out
             subst eo34
             try go_wp2
             have n0_ := Aside0.mk (Kd.S_drew HO_5.out)
             have n1_ := Aside0.mk (Kd.S_drew HO_7.out)
             have n2_ := Aside0.mk (below_drew1 HB.out)
             clear HO_5
             clear HO_7
             clear HB
             have HO_5 := n0_
             have HO_7 := n1_
             have HB := n2_
             clear n0_ n1_ n2_
             have p210 : 0 ≤ (x9_3 : Int) := of_decide_eq_true (by first | (with_reducible assumption) | assumption)
             have q210 : x9_3 < (t199.length : Int) := of_decide_eq_true (by first | (with_reducible assumption) | assumption)
             obtain ⟨ad210, A210_1, c210_1, e210, hx210_0, hx210_1, hl210_1, hi210_1⟩ := at_T44 (Kd.S_reads' HO_5.out).2.2 x9_3 p210 q210
             cases e210
             obtain ⟨ce210, hce210, hMe210, hcc210⟩ := Kd.S_get HO_5.out z44 x9_3 p210 (by first | exact q210 | exact of_decide_eq_true (by first | (with_reducible assumption) | assumption) | (have e_ := (Kd.S_reads' HO_5.out).1; omega))
             obtain ⟨ve210_1, rfl, ge210_1⟩ := k44_openM hMe210
             have hv210_1 := hcc210 1 _ rfl
             rw [add_field _ _ 1 (by omega)] at hv210_1
             replace hv210_1 := Option.some.inj (hv210_1.symm.trans hx210_1)
             rw [hv210_1] at ge210_1
             have HL210_1 := Aside0.mk (show Kd.R k24 24 _ _ _ _ ((rd_T44 t199 x9_3).f1) from ge210_1)
             clear hv210_1 ge210_1
             clear hcc210 hce210
             have HR210_1 := Aside0.mk hi210_1
             have HC210_1 := Aside0.mk hl210_1
             clear hi210_1 hl210_1
             replace p210 := eq_true p210
             replace q210 := eq_true q210
             obtain ⟨Ao36, co36, eo36⟩ := Kd.S_slice HO_7.out
             (first | subst eo36 | (injection eo36 with f1_ f2_ f3_; have f4_ := f1_.symm; have f5_ := f3_.symm; clear f1_ f2_ f3_; subst f4_; subst f5_))
             have p211 : 0 ≤ (x9_3 : Int) := of_decide_eq_true (by first | (with_reducible assumption) | assumption)
             have q211 : x9_3 < (t206.length : Int) := of_decide_eq_true (by first | (with_reducible assumption) | assumption)
             obtain ⟨ad211, A211_1, c211_1, e211, hx211_0, hx211_1, hl211_1, hi211_1⟩ := at_T46 (Kd.S_reads' HO_7.out).2.2 x9_3 p211 q211
             cases e211
             obtain ⟨ce211, hce211, hMe211, hcc211⟩ := Kd.S_get HO_7.out z46 x9_3 p211 (by first | exact q211 | exact of_decide_eq_true (by first | (with_reducible assumption) | assumption) | (have e_ := (Kd.S_reads' HO_7.out).1; omega))
             obtain ⟨ve211_1, rfl, ge211_1⟩ := k46_openM hMe211
             have hv211_1 := hcc211 1 _ rfl
             rw [add_field _ _ 1 (by omega)] at hv211_1
             replace hv211_1 := Option.some.inj (hv211_1.symm.trans hx211_1)
             rw [hv211_1] at ge211_1
             have HL211_1 := Aside0.mk (show Kd.R k26 26 _ _ _ _ ((rd_T46 t206 x9_3).f1) from ge211_1)
             clear hv211_1 ge211_1
             clear hcc211 hce211
             have HR211_1 := Aside0.mk hi211_1
             have HC211_1 := Aside0.mk hl211_1
             clear hi211_1 hl211_1
             replace p211 := eq_true p211
             replace q211 := eq_true q211
             refine start_ (n := 25) (S := fun w' => w'.cell? (ad210.add ((x9_3).toNat * 2)) = some (.int .u64 ((rd_T44 t199 x9_3).f0)) ∧ w'.cell? ⟨(ad210.add ((x9_3).toNat * 2)).block, (ad210.add ((x9_3).toNat * 2)).off + 1, none⟩ = some (.slice A210_1 ((rd_T44 t199 x9_3).f1).length c210_1) ∧ w'.cell? (ad211.add ((x9_3).toNat * 2)) = some (.int .u64 ((rd_T46 t206 x9_3).f0)) ∧ w'.cell? ⟨(ad211.add ((x9_3).toNat * 2)).block, (ad211.add ((x9_3).toNat * 2)).off + 1, none⟩ = some (.slice A211_1 ((rd_T46 t206 x9_3).f1).length c211_1)) (ds := []) #[false, false, false, false, false, false, false, false, false, false, false, false, false, false, false, false, false, false, false, false, false, false, false, false, false] (by kernel_rfl) rfl rfl ⟨hx210_0, hx210_1, hx211_0, hx211_1⟩ (fun hHeld => ?_); refine with_tabW rootcellarlaw12_StepGroups.tab12 rootcellarlaw12_StepGroups.bits12 (fun HT_ HW_ => ?_)
             generalize wr.drew = w35 at HO_5 HO_7 HB HL210_1 HL211_1 HR210_1 HR211_1 hx210_0 hx210_1 hx211_0 hx211_1 hHeld ⊢
             refine pure_ (i := 0) (N := some 47) (v := ?_) (a' := ?_) #[true, false, false, false, false, false, false, false, false, false, false, false, false, false, false, false, false, false, false, false, false, false, false, false, false] rfl rfl (any_of HT_.out (by kernel_rfl)) (fun _ _ _ h => h) (Or.inl ⟨by rfl, ?_⟩) ?_ ?_
             rotate_left
             ·intro w'
              go_simp
              with_reducible rfl
             rotate_left
             ·simp only [Act.put, List.setIfInBounds_toArray, List.set_cons_zero, List.set_cons_succ, i64_w, i32_w]
              rfl
             refine pure_ (i := 1) (N := some 48) (v := ?_) (a' := ?_) #[true, true, false, false, false, false, false, false, false, false, false, false, false, false, false, false, false, false, false, false, false, false, false, false, false] rfl rfl (any_of HT_.out (by kernel_rfl)) (fun _ _ _ h => h) (Or.inl ⟨by rfl, ?_⟩) ?_ ?_
             rotate_left
             ·intro w'
              go_simp
              with_reducible rfl
             rotate_left
             ·simp only [Act.put, List.setIfInBounds_toArray, List.set_cons_zero, List.set_cons_succ, i64_w, i32_w]
              rfl
             refine pure_ (i := 2) (N := some 49) (v := ?_) (a' := ?_) #[true, true, true, false, false, false, false, false, false, false, false, false, false, false, false, false, false, false, false, false, false, false, false, false, false] rfl rfl (any_of HT_.out (by kernel_rfl)) (fun _ _ _ h => h) (Or.inl ⟨by rfl, ?_⟩) ?_ ?_
             rotate_left
             ·intro w'
              go_simp
              with_reducible rfl
             rotate_left
             ·simp only [Act.put, List.setIfInBounds_toArray, List.set_cons_zero, List.set_cons_succ, i64_w, i32_w]
              rfl
             refine pure_ (i := 3) (N := some 50) (v := ?_) (a' := ?_) #[true, true, true, true, false, false, false, false, false, false, false, false, false, false, false, false, false, false, false, false, false, false, false, false, false] rfl rfl (any_of HT_.out (by kernel_rfl)) (fun _ _ _ h => h) (Or.inl ⟨by rfl, ?_⟩) ?_ ?_
             rotate_left
             ·intro w'
              go_simp
              with_reducible rfl
             rotate_left
             ·simp only [Act.put, List.setIfInBounds_toArray, List.set_cons_zero, List.set_cons_succ, i64_w, i32_w]
              rfl
             refine pure_ (i := 5) (N := some 52) (v := ?_) (a' := ?_) #[true, true, true, true, false, true, false, false, false, false, false, false, false, false, false, false, false, false, false, false, false, false, false, false, false] rfl rfl (any_of HT_.out (by kernel_rfl)) (fun _ _ _ h => h) (Or.inl ⟨by rfl, ?_⟩) ?_ ?_
             rotate_left
             ·intro w'
              go_simp
              with_reducible rfl
             rotate_left
             ·simp only [Act.put, List.setIfInBounds_toArray, List.set_cons_zero, List.set_cons_succ, i64_w, i32_w]
              rfl
             refine pure_ (i := 6) (N := some 53) (v := ?_) (a' := ?_) #[true, true, true, true, false, true, true, false, false, false, false, false, false, false, false, false, false, false, false, false, false, false, false, false, false] rfl rfl (any_of HT_.out (by kernel_rfl)) (fun _ _ _ h => h) (Or.inl ⟨by rfl, ?_⟩) ?_ ?_
             rotate_left
             ·intro w'
              go_simp
              with_reducible rfl
             rotate_left
             ·simp only [Act.put, List.setIfInBounds_toArray, List.set_cons_zero, List.set_cons_succ, i64_w, i32_w]
              rfl
             refine pure_ (i := 7) (N := some 54) (v := ?_) (a' := ?_) #[true, true, true, true, false, true, true, true, false, false, false, false, false, false, false, false, false, false, false, false, false, false, false, false, false] rfl rfl (any_of HT_.out (by kernel_rfl)) (fun _ _ _ h => h) (Or.inl ⟨by rfl, ?_⟩) ?_ ?_
             rotate_left
             ·intro w'
              go_simp
              with_reducible rfl
             rotate_left
             ·simp only [Act.put, List.setIfInBounds_toArray, List.set_cons_zero, List.set_cons_succ, i64_w, i32_w]
              rfl
             refine pure_ (i := 8) (N := some 55) (v := ?_) (a' := ?_) #[true, true, true, true, false, true, true, true, true, false, false, false, false, false, false, false, false, false, false, false, false, false, false, false, false] rfl rfl (any_of HT_.out (by kernel_rfl)) (fun _ _ _ h => h) (Or.inl ⟨by rfl, ?_⟩) ?_ ?_
             rotate_left
             ·intro w'
              go_simp
              with_reducible rfl
             rotate_left
             ·simp only [Act.put, List.setIfInBounds_toArray, List.set_cons_zero, List.set_cons_succ, i64_w, i32_w]
              rfl
             refine take_ (i := 4) (N := some 51) (v := ?_) (a' := ?_) #[true, true, true, true, true, true, true, true, true, false, false, false, false, false, false, false, false, false, false, false, false, false, false, false, false] rfl rfl (take_ofW HT_.out HW_.out (by kernel_rfl)) (fun _ _ _ h => h) (Or.inl ⟨by rfl, ?_⟩) hHeld ?_ ?_
             rotate_left
             ·rintro w' ⟨s0, s1, s2, s3⟩
              go_simp
              with_reducible rfl
             rotate_left
             ·simp only [Act.put, List.setIfInBounds_toArray, List.set_cons_zero, List.set_cons_succ, i64_w, i32_w]
              rfl
             refine take_ (i := 9) (N := some 56) (v := ?_) (a' := ?_) #[true, true, true, true, true, true, true, true, true, true, false, false, false, false, false, false, false, false, false, false, false, false, false, false, false] rfl rfl (take_ofW HT_.out HW_.out (by kernel_rfl)) (fun _ _ _ h => h) (Or.inl ⟨by rfl, ?_⟩) hHeld ?_ ?_
             rotate_left
             ·rintro w' ⟨s0, s1, s2, s3⟩
              go_simp
              with_reducible rfl
             rotate_left
             ·simp only [Act.put, List.setIfInBounds_toArray, List.set_cons_zero, List.set_cons_succ, i64_w, i32_w]
              rfl
             refine pure_ (i := 10) (N := some 57) (v := ?_) (a' := ?_) #[true, true, true, true, true, true, true, true, true, true, true, false, false, false, false, false, false, false, false, false, false, false, false, false, false] rfl rfl (any_of HT_.out (by kernel_rfl)) (fun _ _ _ h => h) (Or.inl ⟨by rfl, ?_⟩) ?_ ?_
             rotate_left
             ·intro w'
              go_simp
              with_reducible rfl
             rotate_left
             ·simp only [Act.put, List.setIfInBounds_toArray, List.set_cons_zero, List.set_cons_succ, i64_w, i32_w]
              rfl
             refine pure_ (i := 11) (N := some 58) (v := ?_) (a' := ?_) #[true, true, true, true, true, true, true, true, true, true, true, true, false, false, false, false, false, false, false, false, false, false, false, false, false] rfl rfl (any_of HT_.out (by kernel_rfl)) (fun _ _ _ h => h) (Or.inl ⟨by rfl, ?_⟩) ?_ ?_
             rotate_left
             ·intro w'
              go_simp
              with_reducible rfl
             rotate_left
             ·simp only [Act.put, List.setIfInBounds_toArray, List.set_cons_zero, List.set_cons_succ, i64_w, i32_w]
              rfl
             refine pure_ (i := 12) (N := some 59) (v := undef) (a' := ?_) #[true, true, true, true, true, true, true, true, true, true, true, true, true, false, false, false, false, false, false, false, false, false, false, false, false] rfl rfl (any_of HT_.out (by kernel_rfl)) (fun _ _ _ h => h) (Or.inr ⟨by rfl, rfl⟩) ?_ ?_
             rotate_left
             ·simp only [Act.put, List.setIfInBounds_toArray, List.set_cons_zero, List.set_cons_succ, i64_w, i32_w]
              rfl
             refine pure_ (i := 13) (N := some 60) (v := undef) (a' := ?_) #[true, true, true, true, true, true, true, true, true, true, true, true, true, true, false, false, false, false, false, false, false, false, false, false, false] rfl rfl (any_of HT_.out (by kernel_rfl)) (fun _ _ _ h => h) (Or.inr ⟨by rfl, rfl⟩) ?_ ?_
             rotate_left
             ·simp only [Act.put, List.setIfInBounds_toArray, List.set_cons_zero, List.set_cons_succ, i64_w, i32_w]
              rfl
             refine pure_ (i := 14) (N := some 61) (v := undef) (a' := ?_) #[true, true, true, true, true, true, true, true, true, true, true, true, true, true, true, false, false, false, false, false, false, false, false, false, false] rfl rfl (any_of HT_.out (by kernel_rfl)) (fun _ _ _ h => h) (Or.inr ⟨by rfl, rfl⟩) ?_ ?_
             rotate_left
             ·simp only [Act.put, List.setIfInBounds_toArray, List.set_cons_zero, List.set_cons_succ, i64_w, i32_w]
              rfl
             refine pure_ (i := 15) (N := some 62) (v := undef) (a' := ?_) #[true, true, true, true, true, true, true, true, true, true, true, true, true, true, true, true, false, false, false, false, false, false, false, false, false] rfl rfl (any_of HT_.out (by kernel_rfl)) (fun _ _ _ h => h) (Or.inr ⟨by rfl, rfl⟩) ?_ ?_
             rotate_left
             ·simp only [Act.put, List.setIfInBounds_toArray, List.set_cons_zero, List.set_cons_succ, i64_w, i32_w]
              rfl
             refine pure_ (i := 16) (N := some 63) (v := undef) (a' := ?_) #[true, true, true, true, true, true, true, true, true, true, true, true, true, true, true, true, true, false, false, false, false, false, false, false, false] rfl rfl (any_of HT_.out (by kernel_rfl)) (fun _ _ _ h => h) (Or.inr ⟨by rfl, rfl⟩) ?_ ?_
             rotate_left
             ·simp only [Act.put, List.setIfInBounds_toArray, List.set_cons_zero, List.set_cons_succ, i64_w, i32_w]
              rfl
             refine pure_ (i := 17) (N := some 64) (v := undef) (a' := ?_) #[true, true, true, true, true, true, true, true, true, true, true, true, true, true, true, true, true, true, false, false, false, false, false, false, false] rfl rfl (any_of HT_.out (by kernel_rfl)) (fun _ _ _ h => h) (Or.inr ⟨by rfl, rfl⟩) ?_ ?_
             rotate_left
             ·simp only [Act.put, List.setIfInBounds_toArray, List.set_cons_zero, List.set_cons_succ, i64_w, i32_w]
              rfl
             refine pure_ (i := 18) (N := some 65) (v := undef) (a' := ?_) #[true, true, true, true, true, true, true, true, true, true, true, true, true, true, true, true, true, true, true, false, false, false, false, false, false] rfl rfl (any_of HT_.out (by kernel_rfl)) (fun _ _ _ h => h) (Or.inr ⟨by rfl, rfl⟩) ?_ ?_
             rotate_left
             ·simp only [Act.put, List.setIfInBounds_toArray, List.set_cons_zero, List.set_cons_succ, i64_w, i32_w]
              rfl
             refine pure_ (i := 19) (N := some 66) (v := undef) (a' := ?_) #[true, true, true, true, true, true, true, true, true, true, true, true, true, true, true, true, true, true, true, true, false, false, false, false, false] rfl rfl (any_of HT_.out (by kernel_rfl)) (fun _ _ _ h => h) (Or.inr ⟨by rfl, rfl⟩) ?_ ?_
             rotate_left
             ·simp only [Act.put, List.setIfInBounds_toArray, List.set_cons_zero, List.set_cons_succ, i64_w, i32_w]
              rfl
             refine pure_ (i := 20) (N := some 67) (v := undef) (a' := ?_) #[true, true, true, true, true, true, true, true, true, true, true, true, true, true, true, true, true, true, true, true, true, false, false, false, false] rfl rfl (any_of HT_.out (by kernel_rfl)) (fun _ _ _ h => h) (Or.inr ⟨by rfl, rfl⟩) ?_ ?_
             rotate_left
             ·simp only [Act.put, List.setIfInBounds_toArray, List.set_cons_zero, List.set_cons_succ, i64_w, i32_w]
              rfl
             refine pure_ (i := 21) (N := some 68) (v := undef) (a' := ?_) #[true, true, true, true, true, true, true, true, true, true, true, true, true, true, true, true, true, true, true, true, true, true, false, false, false] rfl rfl (any_of HT_.out (by kernel_rfl)) (fun _ _ _ h => h) (Or.inr ⟨by rfl, rfl⟩) ?_ ?_
             rotate_left
             ·simp only [Act.put, List.setIfInBounds_toArray, List.set_cons_zero, List.set_cons_succ, i64_w, i32_w]
              rfl
             refine pure_ (i := 22) (N := some 69) (v := undef) (a' := ?_) #[true, true, true, true, true, true, true, true, true, true, true, true, true, true, true, true, true, true, true, true, true, true, true, false, false] rfl rfl (any_of HT_.out (by kernel_rfl)) (fun _ _ _ h => h) (Or.inr ⟨by rfl, rfl⟩) ?_ ?_
             rotate_left
             ·simp only [Act.put, List.setIfInBounds_toArray, List.set_cons_zero, List.set_cons_succ, i64_w, i32_w]
              rfl
             refine pure_ (i := 23) (N := some 70) (v := undef) (a' := ?_) #[true, true, true, true, true, true, true, true, true, true, true, true, true, true, true, true, true, true, true, true, true, true, true, true, false] rfl rfl (any_of HT_.out (by kernel_rfl)) (fun _ _ _ h => h) (Or.inr ⟨by rfl, rfl⟩) ?_ ?_
             rotate_left
             ·simp only [Act.put, List.setIfInBounds_toArray, List.set_cons_zero, List.set_cons_succ, i64_w, i32_w]
              rfl
             refine pure_ (i := 24) (N := some 71) (v := ?_) (a' := ?_) #[true, true, true, true, true, true, true, true, true, true, true, true, true, true, true, true, true, true, true, true, true, true, true, true, true] rfl rfl (any_of HT_.out (by kernel_rfl)) (fun _ _ _ h => h) (Or.inl ⟨by rfl, ?_⟩) ?_ ?_
             rotate_left
             ·intro w'
              go_simp
              with_reducible rfl
             rotate_left
             ·simp only [Act.put, List.setIfInBounds_toArray, List.set_cons_zero, List.set_cons_succ, i64_w, i32_w]
              rfl
             refine done_ (done_of HT_.out (by kernel_rfl)) ?_
             try go_wp2
             go_ret
             exact ⟨by first | rfl | (simp [errW_none, errW_some] <;> rfl) | (simp [*, errW_none, errW_some] <;> rfl), by repeat (first | (with_reducible first | exact HB.out | apply below_alloc | apply pw_below_drewN | apply below_drew1) | exact HB.out)⟩
           ·rw [if_neg c22] at H
            exact absurd H (by simp)
          ·rw [if_neg c21] at H
           exact absurd H (by simp)
         ·rw [if_neg c20] at H
          have c20b0 : decide (x9_3 < (t199.length : Int)) = false := decide_eq_false c20
          clear c20
          obtain rfl := Option.some.inj H
          obtain ⟨Ao37, co37, eo37⟩ := Kd.S_slice HO_5.out
          subst eo37
          go_wp2
          go_ret
          exact ⟨by first | rfl | (simp [errW_none, errW_some] <;> rfl) | (simp [*, errW_none, errW_some] <;> rfl), by repeat (first | (with_reducible first | exact HB.out | apply below_alloc | apply pw_below_drewN | apply below_drew1) | exact HB.out)⟩

end Go.Proofs.YtboommbclbjlnaaDoor.Fn
end
