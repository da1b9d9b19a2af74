-- Packed by pack.py, a program of this session, out of texts of this claim.
import Derived.Test.YtjoaiolacalemaaDoorClDateBack1
import Derived.Test.YtjoaiolacalemaaDoorClDateBackLfRead
section
-- Written by printx.py, a program of this session over the kit's print: each Go function as a plain Lean function, and that the Go code computes it.


namespace Go.Proofs.YtjoaiolacalemaaDoor.Fn
open Go.RowKit Go.Proofs.YtjoaiolacalemaaDoorW.PrintWords Go.Proofs.YtjoaiolacalemaaDoorW.PrintLast Go.Proofs.YtjoaiolacalemaaDoorW.PrintMore Go.Proofs.YtjoaiolacalemaaDoor.Lf
attribute [local go_sem] max2_int min2_int max_two min_two max_three min_three max_four min_four   -- for this text's walks alone
set_option linter.unusedVariables false
set_option linter.unusedSimpArgs false

/-! ### date_Read: function 6 -/
/-- date.Read: walked by hand (LfRead). -/
def date_Read.f (a0 : ByteArray) : Option (Int × Int) := Lf.readF a0
theorem date_Read.calls (a0 : ByteArray) (r1 r2 : Int) (w : World) (h : date_Read.f a0 = some (r1, r2)) (HT : Tabs w) :
  Calls Tryd.prog 6 #[.string a0] w fun e w' => e = .returned (.tuple #[.int .u64 r1, .int .i64 r2]) ∧ Below w.heap.size w w' := Lf.read_calls a0 r1 r2 w h HT

end Go.Proofs.YtjoaiolacalemaaDoor.Fn
end
section
-- Written by printx.py, a program of this session over the kit's print: each Go function as a plain Lean function, and that the Go code computes it.







namespace Go.Proofs.YtjoaiolacalemaaDoor.Fn
open Go.RowKit Go.Proofs.YtjoaiolacalemaaDoorW.PrintWords Go.Proofs.YtjoaiolacalemaaDoorW.PrintLast Go.Proofs.YtjoaiolacalemaaDoorW.PrintMore Go.Proofs.YtjoaiolacalemaaDoor.Lf
attribute [local go_sem] max2_int min2_int max_two min_two max_three min_three max_four min_four   -- for this text's walks alone
set_option linter.unusedVariables false
set_option linter.unusedSimpArgs false

/-! ### rootcellarlaw15_DateBack: function 4 -/
mutual
def rootcellarlaw15_DateBack.j0 : Nat → Int → Bool → Option (Bool)
 | 0, _, _ => none
 | k + 1, x0, x33 => if x33 = true then (some false) else (if x0 < 0 then (rootcellarlaw15_DateBack.j1 k x0 true) else (rootcellarlaw15_DateBack.j1 k x0 (decide (x0 ≥ 281474976710656))))
def rootcellarlaw15_DateBack.j1 : Nat → Int → Bool → Option (Bool)
 | 0, _, _ => none
 | k + 1, x0, x39 => if x39 = true then (some true) else ((date_Civil.f k x0).bind fun bt153 => ((date_Day.f k bt153.1 bt153.2.1 bt153.2.2).bind fun bt156 => ((date_Civil.f k (wrap64 (x0 + 1))).bind fun bt158 => (if bt156.2 = true then (if bt156.1 = x0 then (if bt153.2.2 < 1 then (rootcellarlaw15_DateBack.j2 k bt153.1 bt153.2.1 bt153.2.2 bt158.1 bt158.2.1 bt158.2.2 true) else ((date_Long.f bt153.1 bt153.2.1).bind fun t161 => (if bt153.2.2 > t161 then (rootcellarlaw15_DateBack.j2 k bt153.1 bt153.2.1 bt153.2.2 bt158.1 bt158.2.1 bt158.2.2 true) else (if bt153.2.1 < 1 then (rootcellarlaw15_DateBack.j2 k bt153.1 bt153.2.1 bt153.2.2 bt158.1 bt158.2.1 bt158.2.2 true) else (rootcellarlaw15_DateBack.j2 k bt153.1 bt153.2.1 bt153.2.2 bt158.1 bt158.2.1 bt158.2.2 (decide (bt153.2.1 > 12))))))) else (rootcellarlaw15_DateBack.j2 k bt153.1 bt153.2.1 bt153.2.2 bt158.1 bt158.2.1 bt158.2.2 true)) else (rootcellarlaw15_DateBack.j2 k bt153.1 bt153.2.1 bt153.2.2 bt158.1 bt158.2.1 bt158.2.2 true)))))
def rootcellarlaw15_DateBack.j2 : Nat → Int → Int → Int → Int → Int → Int → Bool → Option (Bool)
 | 0, _, _, _, _, _, _, _ => none
 | k + 1, x8, x9, x10, x13, x14, x15, x85 => if x85 = true then (some false) else ((date_Long.f x8 x9).bind fun t162 => (if x10 < t162 then (if x13 = x8 then (if x14 = x9 then (some (x15 == (wrap64 (x10 + 1)))) else (some false)) else (some false)) else (if x9 < 12 then (if x13 = x8 then (if x14 = (wrap64 (x9 + 1)) then (some (x15 == 1)) else (some false)) else (some false)) else (if x13 = (wrap64 (x8 + 1)) then (if x14 = 1 then (some (x15 == 1)) else (some false)) else (some false)))))
end
def rootcellarlaw15_DateBack.f (k : Nat) (a0 : Int) (a1 : Int) : Option (Bool) := (rootcellarlaw15_shown.f k).bind fun t149 => ((date_Stamp.f k a1).bind fun t150 => ((date_Read.f t150).bind fun bt151 => (if t149 = true then (if bt151.1 = a1 then (rootcellarlaw15_DateBack.j0 k a0 (bt151.2 != 0)) else (rootcellarlaw15_DateBack.j0 k a0 true)) else (rootcellarlaw15_DateBack.j0 k a0 true))))
theorem rootcellarlaw15_DateBack.mono_l : ∀ k, (∀ y0 y1, LeO (rootcellarlaw15_DateBack.j0 k y0 y1) (rootcellarlaw15_DateBack.j0 (k + 1) y0 y1)) ∧ (∀ y0 y1, LeO (rootcellarlaw15_DateBack.j1 k y0 y1) (rootcellarlaw15_DateBack.j1 (k + 1) y0 y1)) ∧ (∀ y0 y1 y2 y3 y4 y5 y6, LeO (rootcellarlaw15_DateBack.j2 k y0 y1 y2 y3 y4 y5 y6) (rootcellarlaw15_DateBack.j2 (k + 1) y0 y1 y2 y3 y4 y5 y6))
 | 0 => ⟨fun _ _ r h => by simp [rootcellarlaw15_DateBack.j0] at h, fun _ _ r h => by simp [rootcellarlaw15_DateBack.j1] at h, fun _ _ _ _ _ _ _ r h => by simp [rootcellarlaw15_DateBack.j2] at h⟩
 | k + 1 => by
  obtain ⟨ih0, ih1, ih2⟩ := rootcellarlaw15_DateBack.mono_l k
  refine ⟨?_, ?_, ?_⟩
  ·intro y0 y1
   unfold rootcellarlaw15_DateBack.j0
   repeat' first
   | (with_reducible exact ih0 _ _)
   | (with_reducible exact ih1 _ _)
   | (with_reducible exact ih2 _ _ _ _ _ _ _)
   | (with_reducible exact date_Civil.mono _ _)
   | (with_reducible exact date_Day.mono _ _ _ _)
   | (with_reducible exact date_Stamp.mono _ _)
   | (with_reducible exact rootcellarlaw15_shown.mono _)
   | (with_reducible exact LeO.refl _)
   | (with_reducible exact LeO.none _)
   | (with_reducible refine LeO.ite ?_ ?_)
   | (with_reducible refine LeO.bind ?_ (fun _ => ?_))
   | exact ih0 _ _
   | exact ih1 _ _
   | exact ih2 _ _ _ _ _ _ _
   | exact date_Civil.mono _ _
   | exact date_Day.mono _ _ _ _
   | exact date_Stamp.mono _ _
   | exact rootcellarlaw15_shown.mono _
   | exact LeO.none _
   | refine LeO.ite ?_ ?_
   | refine LeO.bind ?_ (fun _ => ?_)
  ·intro y0 y1
   unfold rootcellarlaw15_DateBack.j1
   repeat' first
   | (with_reducible exact ih0 _ _)
   | (with_reducible exact ih1 _ _)
   | (with_reducible exact ih2 _ _ _ _ _ _ _)
   | (with_reducible exact date_Civil.mono _ _)
   | (with_reducible exact date_Day.mono _ _ _ _)
   | (with_reducible exact date_Stamp.mono _ _)
   | (with_reducible exact rootcellarlaw15_shown.mono _)
   | (with_reducible exact LeO.refl _)
   | (with_reducible exact LeO.none _)
   | (with_reducible refine LeO.ite ?_ ?_)
   | (with_reducible refine LeO.bind ?_ (fun _ => ?_))
   | exact ih0 _ _
   | exact ih1 _ _
   | exact ih2 _ _ _ _ _ _ _
   | exact date_Civil.mono _ _
   | exact date_Day.mono _ _ _ _
   | exact date_Stamp.mono _ _
   | exact rootcellarlaw15_shown.mono _
   | exact LeO.none _
   | refine LeO.ite ?_ ?_
   | refine LeO.bind ?_ (fun _ => ?_)
  ·intro y0 y1 y2 y3 y4 y5 y6
   unfold rootcellarlaw15_DateBack.j2
   repeat' first
   | (with_reducible exact ih0 _ _)
   | (with_reducible exact ih1 _ _)
   | (with_reducible exact ih2 _ _ _ _ _ _ _)
   | (with_reducible exact date_Civil.mono _ _)
   | (with_reducible exact date_Day.mono _ _ _ _)
   | (with_reducible exact date_Stamp.mono _ _)
   | (with_reducible exact rootcellarlaw15_shown.mono _)
   | (with_reducible exact LeO.refl _)
   | (with_reducible exact LeO.none _)
   | (with_reducible refine LeO.ite ?_ ?_)
   | (with_reducible refine LeO.bind ?_ (fun _ => ?_))
   | exact ih0 _ _
   | exact ih1 _ _
   | exact ih2 _ _ _ _ _ _ _
   | exact date_Civil.mono _ _
   | exact date_Day.mono _ _ _ _
   | exact date_Stamp.mono _ _
   | exact rootcellarlaw15_shown.mono _
   | exact LeO.none _
   | refine LeO.ite ?_ ?_
   | refine LeO.bind ?_ (fun _ => ?_)
theorem rootcellarlaw15_DateBack.mono : ∀ a0 a1 k, LeO (rootcellarlaw15_DateBack.f k a0 a1) (rootcellarlaw15_DateBack.f (k + 1) a0 a1) := by
 intro a0 a1 k
 obtain ⟨ih0, ih1, ih2⟩ := rootcellarlaw15_DateBack.mono_l k
 unfold rootcellarlaw15_DateBack.f
 repeat' first
   | (with_reducible exact ih0 _ _)
   | (with_reducible exact ih1 _ _)
   | (with_reducible exact ih2 _ _ _ _ _ _ _)
   | (with_reducible exact date_Civil.mono _ _)
   | (with_reducible exact date_Day.mono _ _ _ _)
   | (with_reducible exact date_Stamp.mono _ _)
   | (with_reducible exact rootcellarlaw15_shown.mono _)
   | (with_reducible exact LeO.refl _)
   | (with_reducible exact LeO.none _)
   | (with_reducible refine LeO.ite ?_ ?_)
   | (with_reducible refine LeO.bind ?_ (fun _ => ?_))
   | exact ih0 _ _
   | exact ih1 _ _
   | exact ih2 _ _ _ _ _ _ _
   | exact date_Civil.mono _ _
   | exact date_Day.mono _ _ _ _
   | exact date_Stamp.mono _ _
   | exact rootcellarlaw15_shown.mono _
   | exact LeO.none _
   | refine LeO.ite ?_ ?_
   | refine LeO.bind ?_ (fun _ => ?_)
set_option maxHeartbeats 8000000 in
set_option maxRecDepth 100000 in
theorem rootcellarlaw15_DateBack.calls (k : Nat) (a0 : Int) (a1 : Int) (r : Bool) (w : World) (h : rootcellarlaw15_DateBack.f k a0 a1 = some r) (HT : Tabs w) :
  Calls Tryd.prog 4 #[.int .i64 a0, .int .u64 a1] w fun e w' => e = .returned (.bool r) ∧ Below w.heap.size w w' := by
 have HB := Aside0.mk (Below.refl w.heap.size w)
 have H : ((rootcellarlaw15_shown.f k).bind fun t149 => ((date_Stamp.f k a1).bind fun t150 => ((date_Read.f t150).bind fun bt151 => (if t149 = true then (if bt151.1 = a1 then (rootcellarlaw15_DateBack.j0 k a0 (bt151.2 != 0)) else (rootcellarlaw15_DateBack.j0 k a0 true)) else (rootcellarlaw15_DateBack.j0 k a0 true))))) = some r := h
 clear h
 replace H := Option.bind_eq_some_iff.mp H
 obtain ⟨t149, A30, H⟩ := H
 replace H : ((date_Stamp.f k a1).bind fun t150 => ((date_Read.f t150).bind fun bt151 => (if t149 = true then (if bt151.1 = a1 then (rootcellarlaw15_DateBack.j0 k a0 (bt151.2 != 0)) else (rootcellarlaw15_DateBack.j0 k a0 true)) else (rootcellarlaw15_DateBack.j0 k a0 true)))) = some r := H
 have A3 := Aside0.mk A30
 clear A30
 replace H := Option.bind_eq_some_iff.mp H
 obtain ⟨t150, A40, H⟩ := H
 replace H : ((date_Read.f t150).bind fun bt151 => (if t149 = true then (if bt151.1 = a1 then (rootcellarlaw15_DateBack.j0 k a0 (bt151.2 != 0)) else (rootcellarlaw15_DateBack.j0 k a0 true)) else (rootcellarlaw15_DateBack.j0 k a0 true))) = some r := H
 have A4 := Aside0.mk A40
 clear A40
 replace H := Option.bind_eq_some_iff.mp H
 obtain ⟨⟨t151, t152⟩, A50, H⟩ := H
 replace H : (if t149 = true then (if t151 = a1 then (rootcellarlaw15_DateBack.j0 k a0 (t152 != 0)) else (rootcellarlaw15_DateBack.j0 k a0 true)) else (rootcellarlaw15_DateBack.j0 k a0 true)) = some r := H
 have A5 := Aside0.mk A50
 clear A50
 have HC6 := Aside0.mk H
 clear H
 go_enter Tryd.func4, Tryd.ntmps4
 go_upto_region 3 with (first | ((with_reducible refine gate_callee (f := 5) rfl ?_); refine goesL_ (some 16) rfl rfl Tryd.func5 (by kernel_rfl) rfl #[] rfl (by (try simp only [List.map_toArray, List.map_cons, List.map_nil]); first | done | rfl | (simp only [List.length_drop, List.length_take]; rfl) | (rw [wrap_sum2 (by assumption)]; rfl)) ?_; (with_reducible refine (rootcellarlaw15_shown.calls k  t149 _ A3.out (HT.below (by repeat (first | (with_reducible first | exact HB.out | apply below_alloc | apply pw_below_drewN | apply below_drew1) | exact HB.out)))).mono ?_); rintro e w7 ⟨rfl, hb⟩; refine ⟨_, rfl, ?_⟩; have n0_ := Aside0.mk (below_step (by repeat (first | (with_reducible first | exact HB.out | apply below_alloc | apply pw_below_drewN | apply below_drew1) | exact HB.out)) hb); clear HB; have HB := n0_; clear n0_; (try clear hb); (try clear hb2); (try clear hk); (try clear hi)) | ((with_reducible refine gate_callee (f := 8) rfl ?_); refine goesL_ (some 19) rfl rfl Tryd.func8 (by kernel_rfl) rfl #[.int .u64 a1] rfl (by (try simp only [List.map_toArray, List.map_cons, List.map_nil]); first | done | rfl | (simp only [List.length_drop, List.length_take]; rfl) | (rw [wrap_sum2 (by assumption)]; rfl)) ?_; (with_reducible refine (date_Stamp.calls k a1 t150 _ A4.out (HT.below (by repeat (first | (with_reducible first | exact HB.out | apply below_alloc | apply pw_below_drewN | apply below_drew1) | exact HB.out)))).mono ?_); rintro e w8 ⟨rfl, hb⟩; refine ⟨_, rfl, ?_⟩; have n0_ := Aside0.mk (below_step (by repeat (first | (with_reducible first | exact HB.out | apply below_alloc | apply pw_below_drewN | apply below_drew1) | exact HB.out)) hb); clear HB; have HB := n0_; clear n0_; (try clear hb); (try clear hb2); (try clear hk); (try clear hi)) | ((with_reducible refine gate_callee (f := 6) rfl ?_); refine goesL_ (some 20) rfl rfl Tryd.func6 (by kernel_rfl) rfl #[.string t150] rfl (by (try simp only [List.map_toArray, List.map_cons, List.map_nil]); first | done | rfl | (simp only [List.length_drop, List.length_take]; rfl) | (rw [wrap_sum2 (by assumption)]; rfl)) ?_; (with_reducible refine (date_Read.calls t150 t151 t152 _ A5.out (HT.below (by repeat (first | (with_reducible first | exact HB.out | apply below_alloc | apply pw_below_drewN | apply below_drew1) | exact HB.out)))).mono ?_); rintro e w9 ⟨rfl, hb⟩; refine ⟨_, rfl, ?_⟩; have n0_ := Aside0.mk (below_step (by repeat (first | (with_reducible first | exact HB.out | apply below_alloc | apply pw_below_drewN | apply below_drew1) | exact HB.out)) hb); clear HB; have HB := n0_; clear n0_; (try clear hb); (try clear hb2); (try clear hk); (try clear hi)))
 (try simp only [Act.put, List.setIfInBounds_toArray, List.set_cons_zero, List.set_cons_succ])
 go_cut [33] (fun v33 wc => ∃ (kq : Nat) (x33_5 : Bool), v33 = .bool x33_5 ∧ Aside0 (rootcellarlaw15_DateBack.j0 kq a0 x33_5 = some r) ∧ Aside0 (kq ≤ k) ∧ Aside0 (Below w.heap.size w wc))
 case first =>
  have H := HC6.out
  clear HC6
  by_cases c10 : t149 = true
  ·subst c10
   have H1 : (if t151 = a1 then (rootcellarlaw15_DateBack.j0 k a0 (t152 != 0)) else (rootcellarlaw15_DateBack.j0 k a0 true)) = some r := by rw [if_pos rfl] at H; exact H
   clear H
   have H := H1
   clear H1
   by_cases c11 : t151 = a1
   ·rw [if_pos c11] at H
    have c11b0 : (t151 == a1) = true := beq_iff_eq.mpr c11
    have c11b1 : (t151 != a1) = false := bne_eq_false_iff_eq.mpr c11
    clear c11
    (first | rw [c11b0] | (simp only [i64_w, i32_w]; rw [c11b0]) | skip)
    have H' := Aside0.mk H
    clear H
    go_wp2
    go_meet
    case rel => exact ⟨_, ((t152 != 0)), (by first | rfl | (simp; done) | (simp [*]; done)), H', ⟨by first | omega | exact Nat.le_refl _⟩, ⟨by repeat (first | (with_reducible first | exact HB.out | apply below_alloc | apply pw_below_drewN | apply below_drew1) | exact HB.out)⟩⟩
   ·rw [if_neg c11] at H
    have c11b0 : (t151 == a1) = false := beq_eq_false_iff_ne.mpr c11
    have c11b1 : (t151 != a1) = true := bne_iff_ne.mpr c11
    (first | rw [c11b0] | (simp only [i64_w, i32_w]; rw [c11b0]) | skip)
    have H' := Aside0.mk H
    clear H
    go_wp2
    go_meet
    case rel => exact ⟨_, (true), (by first | rfl | (simp; done) | (simp [*]; done)), H', ⟨by first | omega | exact Nat.le_refl _⟩, ⟨by repeat (first | (with_reducible first | exact HB.out | apply below_alloc | apply pw_below_drewN | apply below_drew1) | exact HB.out)⟩⟩
  ·replace c10 := Bool.eq_false_iff.mpr c10
   subst c10
   have H1 : (rootcellarlaw15_DateBack.j0 k a0 true) = some r := by rw [if_neg (show ¬ (false = true) by decide)] at H; exact H
   clear H
   have H := H1
   clear H1
   have H' := Aside0.mk H
   clear H
   go_wp2
   go_meet
   case rel => exact ⟨_, (true), (by first | rfl | (simp; done) | (simp [*]; done)), H', ⟨by first | omega | exact Nat.le_refl _⟩, ⟨by repeat (first | (with_reducible first | exact HB.out | apply below_alloc | apply pw_below_drewN | apply below_drew1) | exact HB.out)⟩⟩
 case rest =>
  clear HC6
  try clear c1
  try clear p2
  try clear c4
  try clear c5
  try clear c6
  try clear c8
  try clear c10
  try clear c11
  try clear c11b0
  try clear c11b1
  obtain ⟨kq, x33_5, rfl, HA, HJ5, HB⟩ := hcut
  cases kq with
  | zero => exact absurd HA.out (by simp [rootcellarlaw15_DateBack.j0])
  | succ kj5 =>
   have H := HA.out
   clear HA
   simp only [rootcellarlaw15_DateBack.j0] at H
   by_cases c12 : x33_5 = true
   ·subst c12
    have H1 : (some false) = some r := by rw [if_pos rfl] at H; exact H
    clear H
    have H := H1
    clear H1
    obtain rfl := Option.some.inj H
    go_wp2
    go_ret
    exact ⟨by first | rfl | (simp [errW_none, errW_some] <;> rfl) | (simp [*, errW_none, errW_some] <;> rfl), by repeat (first | (with_reducible first | exact HB.out | apply below_alloc | apply pw_below_drewN | apply below_drew1) | exact HB.out)⟩
   ·replace c12 := Bool.eq_false_iff.mpr c12
    subst c12
    have H1 : (if a0 < 0 then (rootcellarlaw15_DateBack.j1 kj5 a0 true) else (rootcellarlaw15_DateBack.j1 kj5 a0 (decide (a0 ≥ 281474976710656)))) = some r := by rw [if_neg (show ¬ (false = true) by decide)] at H; exact H
    clear H
    have H := H1
    clear H1
    have HC13 := Aside0.mk H
    clear H
    go_upto_region 5 with (fail)
    go_cut [39] (fun v39 wc => ∃ (kq : Nat) (x39_12 : Bool), v39 = .bool x39_12 ∧ Aside0 (rootcellarlaw15_DateBack.j1 kq a0 x39_12 = some r) ∧ Aside0 (kq ≤ kj5) ∧ Aside0 (Below w.heap.size w wc))
    case first =>
     have H := HC13.out
     clear HC13
     by_cases c14 : a0 < 0
     ·rw [if_pos c14] at H
      have c14b0 : decide (a0 < 0) = true := decide_eq_true c14
      clear c14
      (first | rw [c14b0] | (simp only [i64_w, i32_w]; rw [c14b0]) | skip)
      have H' := Aside0.mk H
      clear H
      go_wp2
      go_meet
      case rel => exact ⟨_, (true), (by first | rfl | (simp; done) | (simp [*]; done)), H', ⟨by have := HJ5.out; first | omega | exact Nat.le_refl _⟩, ⟨by repeat (first | (with_reducible first | exact HB.out | apply below_alloc | apply pw_below_drewN | apply below_drew1) | exact HB.out)⟩⟩
     ·rw [if_neg c14] at H
      have c14b0 : decide (a0 < 0) = false := decide_eq_false c14
      clear c14
      (first | rw [c14b0] | (simp only [i64_w, i32_w]; rw [c14b0]) | skip)
      have H' := Aside0.mk H
      clear H
      go_wp2
      go_meet
      case rel => exact ⟨_, (decide (a0 ≥ 281474976710656)), (by first | rfl | (simp; done) | (simp [*]; done)), H', ⟨by have := HJ5.out; first | omega | exact Nat.le_refl _⟩, ⟨by repeat (first | (with_reducible first | exact HB.out | apply below_alloc | apply pw_below_drewN | apply below_drew1) | exact HB.out)⟩⟩
    case rest =>
     clear HC13
     try clear c1
     try clear p2
     try clear c4
     try clear c5
     try clear c6
     try clear c8
     try clear c10
     try clear c11
     try clear c11b0
     try clear c11b1
     try clear c12
     try clear c14
     try clear c14b0
     try clear p2
     obtain ⟨kq, x39_12, rfl, HA, HJ12, HB⟩ := hcut
     cases kq with
     | zero => exact absurd HA.out (by simp [rootcellarlaw15_DateBack.j1])
     | succ kj12 =>
      have H := HA.out
      clear HA
      simp only [rootcellarlaw15_DateBack.j1] at H
      by_cases c15 : x39_12 = true
      ·subst c15
       have H1 : (some true) = some r := by rw [if_pos rfl] at H; exact H
       clear H
       have H := H1
       clear H1
       obtain rfl := Option.some.inj H
       go_wp2
       go_ret
       exact ⟨by first | rfl | (simp [errW_none, errW_some] <;> rfl) | (simp [*, errW_none, errW_some] <;> rfl), by repeat (first | (with_reducible first | exact HB.out | apply below_alloc | apply pw_below_drewN | apply below_drew1) | exact HB.out)⟩
      ·replace c15 := Bool.eq_false_iff.mpr c15
       subst c15
       have H1 : ((date_Civil.f kj12 a0).bind fun bt153 => ((date_Day.f kj12 bt153.1 bt153.2.1 bt153.2.2).bind fun bt156 => ((date_Civil.f kj12 (wrap64 (a0 + 1))).bind fun bt158 => (if bt156.2 = true then (if bt156.1 = a0 then (if bt153.2.2 < 1 then (rootcellarlaw15_DateBack.j2 kj12 bt153.1 bt153.2.1 bt153.2.2 bt158.1 bt158.2.1 bt158.2.2 true) else ((date_Long.f bt153.1 bt153.2.1).bind fun t161 => (if bt153.2.2 > t161 then (rootcellarlaw15_DateBack.j2 kj12 bt153.1 bt153.2.1 bt153.2.2 bt158.1 bt158.2.1 bt158.2.2 true) else (if bt153.2.1 < 1 then (rootcellarlaw15_DateBack.j2 kj12 bt153.1 bt153.2.1 bt153.2.2 bt158.1 bt158.2.1 bt158.2.2 true) else (rootcellarlaw15_DateBack.j2 kj12 bt153.1 bt153.2.1 bt153.2.2 bt158.1 bt158.2.1 bt158.2.2 (decide (bt153.2.1 > 12))))))) else (rootcellarlaw15_DateBack.j2 kj12 bt153.1 bt153.2.1 bt153.2.2 bt158.1 bt158.2.1 bt158.2.2 true)) else (rootcellarlaw15_DateBack.j2 kj12 bt153.1 bt153.2.1 bt153.2.2 bt158.1 bt158.2.1 bt158.2.2 true))))) = some r := by rw [if_neg (show ¬ (false = true) by decide)] at H; exact H
       clear H
       have H := H1
       clear H1
       replace H := Option.bind_eq_some_iff.mp H
       obtain ⟨⟨t153, t154, t155⟩, A160, H⟩ := H
       replace H : ((date_Day.f kj12 t153 t154 t155).bind fun bt156 => ((date_Civil.f kj12 (wrap64 (a0 + 1))).bind fun bt158 => (if bt156.2 = true then (if bt156.1 = a0 then (if t155 < 1 then (rootcellarlaw15_DateBack.j2 kj12 t153 t154 t155 bt158.1 bt158.2.1 bt158.2.2 true) else ((date_Long.f t153 t154).bind fun t161 => (if t155 > t161 then (rootcellarlaw15_DateBack.j2 kj12 t153 t154 t155 bt158.1 bt158.2.1 bt158.2.2 true) else (if t154 < 1 then (rootcellarlaw15_DateBack.j2 kj12 t153 t154 t155 bt158.1 bt158.2.1 bt158.2.2 true) else (rootcellarlaw15_DateBack.j2 kj12 t153 t154 t155 bt158.1 bt158.2.1 bt158.2.2 (decide (t154 > 12))))))) else (rootcellarlaw15_DateBack.j2 kj12 t153 t154 t155 bt158.1 bt158.2.1 bt158.2.2 true)) else (rootcellarlaw15_DateBack.j2 kj12 t153 t154 t155 bt158.1 bt158.2.1 bt158.2.2 true)))) = some r := H
       have A16 := Aside0.mk A160
       clear A160
       replace H := Option.bind_eq_some_iff.mp H
       obtain ⟨⟨t156, t157⟩, A170, H⟩ := H
       replace H : ((date_Civil.f kj12 (wrap64 (a0 + 1))).bind fun bt158 => (if t157 = true then (if t156 = a0 then (if t155 < 1 then (rootcellarlaw15_DateBack.j2 kj12 t153 t154 t155 bt158.1 bt158.2.1 bt158.2.2 true) else ((date_Long.f t153 t154).bind fun t161 => (if t155 > t161 then (rootcellarlaw15_DateBack.j2 kj12 t153 t154 t155 bt158.1 bt158.2.1 bt158.2.2 true) else (if t154 < 1 then (rootcellarlaw15_DateBack.j2 kj12 t153 t154 t155 bt158.1 bt158.2.1 bt158.2.2 true) else (rootcellarlaw15_DateBack.j2 kj12 t153 t154 t155 bt158.1 bt158.2.1 bt158.2.2 (decide (t154 > 12))))))) else (rootcellarlaw15_DateBack.j2 kj12 t153 t154 t155 bt158.1 bt158.2.1 bt158.2.2 true)) else (rootcellarlaw15_DateBack.j2 kj12 t153 t154 t155 bt158.1 bt158.2.1 bt158.2.2 true))) = some r := H
       have A17 := Aside0.mk A170
       clear A170
       replace H := Option.bind_eq_some_iff.mp H
       obtain ⟨⟨t158, t159, t160⟩, A180, H⟩ := H
       replace H : (if t157 = true then (if t156 = a0 then (if t155 < 1 then (rootcellarlaw15_DateBack.j2 kj12 t153 t154 t155 t158 t159 t160 true) else ((date_Long.f t153 t154).bind fun t161 => (if t155 > t161 then (rootcellarlaw15_DateBack.j2 kj12 t153 t154 t155 t158 t159 t160 true) else (if t154 < 1 then (rootcellarlaw15_DateBack.j2 kj12 t153 t154 t155 t158 t159 t160 true) else (rootcellarlaw15_DateBack.j2 kj12 t153 t154 t155 t158 t159 t160 (decide (t154 > 12))))))) else (rootcellarlaw15_DateBack.j2 kj12 t153 t154 t155 t158 t159 t160 true)) else (rootcellarlaw15_DateBack.j2 kj12 t153 t154 t155 t158 t159 t160 true)) = some r := H
       have A18 := Aside0.mk A180
       clear A180
       have HC19 := Aside0.mk H
       clear H
       go_upto_region 10 with (first | ((with_reducible refine gate_callee (f := 9) rfl ?_); refine goesL_ (some 42) rfl rfl Tryd.func9 (by kernel_rfl) rfl #[.int .i64 a0] rfl (by (try simp only [List.map_toArray, List.map_cons, List.map_nil]); first | done | rfl | (simp only [List.length_drop, List.length_take]; rfl) | (rw [wrap_sum2 (by assumption)]; rfl)) ?_; (with_reducible refine (date_Civil.calls kj12 a0 t153 t154 t155 _ A16.out).mono ?_); rintro e w' ⟨rfl, ⟨nd, rfl⟩⟩; refine ⟨_, rfl, ?_⟩) | ((with_reducible refine gate_callee (f := 10) rfl ?_); refine goesL_ (some 50) rfl rfl Tryd.func10 (by kernel_rfl) rfl #[.int .i64 t153, .int .i64 t154, .int .i64 t155] rfl (by (try simp only [List.map_toArray, List.map_cons, List.map_nil]); first | done | rfl | (simp only [List.length_drop, List.length_take]; rfl) | (rw [wrap_sum2 (by assumption)]; rfl)) ?_; (with_reducible refine (date_Day.calls kj12 t153 t154 t155 t156 t157 _ A17.out).mono ?_); rintro e w20 ⟨rfl, hb⟩; refine ⟨_, rfl, ?_⟩; have n0_ := Aside0.mk (below_step (by repeat (first | (with_reducible first | exact HB.out | apply below_alloc | apply pw_below_drewN | apply below_drew1) | exact HB.out)) hb); clear HB; have HB := n0_; clear n0_; (try clear hb); (try clear hb2); (try clear hk); (try clear hi)) | ((with_reducible refine gate_callee (f := 9) rfl ?_); refine goesL_ (some 56) rfl rfl Tryd.func9 (by kernel_rfl) rfl #[.int .i64 (wrap64 (a0 + 1))] rfl (by (try simp only [List.map_toArray, List.map_cons, List.map_nil]); first | done | rfl | (simp only [List.length_drop, List.length_take]; rfl) | (rw [wrap_sum2 (by assumption)]; rfl)) ?_; (with_reducible refine (date_Civil.calls kj12 (wrap64 (a0 + 1)) t158 t159 t160 _ A18.out).mono ?_); rintro e w' ⟨rfl, ⟨nd, rfl⟩⟩; refine ⟨_, rfl, ?_⟩))
       (try simp only [Act.put, List.setIfInBounds_toArray, List.set_cons_zero, List.set_cons_succ])
       go_cut [85] (fun v85 wc => ∃ (kq : Nat) (x85_18 : Bool), v85 = .bool x85_18 ∧ Aside0 (rootcellarlaw15_DateBack.j2 kq t153 t154 t155 t158 t159 t160 x85_18 = some r) ∧ Aside0 (kq ≤ kj12) ∧ Aside0 (Below w.heap.size w wc))
       case first =>
        have H := HC19.out
        clear HC19
        by_cases c21 : t157 = true
        ·subst c21
         have H1 : (if t156 = a0 then (if t155 < 1 then (rootcellarlaw15_DateBack.j2 kj12 t153 t154 t155 t158 t159 t160 true) else ((date_Long.f t153 t154).bind fun t161 => (if t155 > t161 then (rootcellarlaw15_DateBack.j2 kj12 t153 t154 t155 t158 t159 t160 true) else (if t154 < 1 then (rootcellarlaw15_DateBack.j2 kj12 t153 t154 t155 t158 t159 t160 true) else (rootcellarlaw15_DateBack.j2 kj12 t153 t154 t155 t158 t159 t160 (decide (t154 > 12))))))) else (rootcellarlaw15_DateBack.j2 kj12 t153 t154 t155 t158 t159 t160 true)) = some r := by rw [if_pos rfl] at H; exact H
         clear H
         have H := H1
         clear H1
         by_cases c22 : t156 = a0
         ·rw [if_pos c22] at H
          have c22b0 : (t156 == a0) = true := beq_iff_eq.mpr c22
          have c22b1 : (t156 != a0) = false := bne_eq_false_iff_eq.mpr c22
          clear c22
          (first | rw [c22b0] | (simp only [i64_w, i32_w]; rw [c22b0]) | skip)
          by_cases c23 : t155 < 1
          ·rw [if_pos c23] at H
           have c23b0 : decide (t155 < 1) = true := decide_eq_true c23
           clear c23
           have H' := Aside0.mk H
           clear H
           go_wp2
           go_meet
           case rel => exact ⟨_, (true), (by first | rfl | (simp; done) | (simp [*]; done)), H', ⟨by have := HJ5.out; have := HJ12.out; first | omega | exact Nat.le_refl _⟩, ⟨by repeat (first | (with_reducible first | exact HB.out | apply below_alloc | apply pw_below_drewN | apply below_drew1) | exact HB.out)⟩⟩
          ·rw [if_neg c23] at H
           have c23b0 : decide (t155 < 1) = false := decide_eq_false c23
           clear c23
           replace H := Option.bind_eq_some_iff.mp H
           obtain ⟨t161, A240, H⟩ := H
           replace H : (if t155 > t161 then (rootcellarlaw15_DateBack.j2 kj12 t153 t154 t155 t158 t159 t160 true) else (if t154 < 1 then (rootcellarlaw15_DateBack.j2 kj12 t153 t154 t155 t158 t159 t160 true) else (rootcellarlaw15_DateBack.j2 kj12 t153 t154 t155 t158 t159 t160 (decide (t154 > 12))))) = some r := H
           have A24 := Aside0.mk A240
           clear A240
           by_cases c25 : t155 > t161
           ·rw [if_pos c25] at H
            have c25b0 : decide (t161 < t155) = true := decide_eq_true c25
            clear c25
            have H' := Aside0.mk H
            clear H
            go_wp2_with (first | (go_at_call 11; (with_reducible refine (date_Long.calls t153 t154 t161 _ A24.out).mono ?_); rintro e w26 ⟨rfl, hb⟩; have n0_ := Aside0.mk (below_step (by repeat (first | (with_reducible first | exact HB.out | apply below_alloc | apply pw_below_drewN | apply below_drew1) | exact HB.out)) hb); clear HB; have HB := n0_; clear n0_; (try clear hb); (try clear hb2); (try clear hk); (try clear hi)))
            go_meet
            case rel => exact ⟨_, (true), (by first | rfl | (simp; done) | (simp [*]; done)), H', ⟨by have := HJ5.out; have := HJ12.out; first | omega | exact Nat.le_refl _⟩, ⟨by repeat (first | (with_reducible first | exact HB.out | apply below_alloc | apply pw_below_drewN | apply below_drew1) | exact HB.out)⟩⟩
           ·rw [if_neg c25] at H
            have c25b0 : decide (t161 < t155) = false := decide_eq_false c25
            clear c25
            by_cases c27 : t154 < 1
            ·rw [if_pos c27] at H
             have c27b0 : decide (t154 < 1) = true := decide_eq_true c27
             clear c27
             have H' := Aside0.mk H
             clear H
             go_wp2_with (first | (go_at_call 11; (with_reducible refine (date_Long.calls t153 t154 t161 _ A24.out).mono ?_); rintro e w28 ⟨rfl, hb⟩; have n0_ := Aside0.mk (below_step (by repeat (first | (with_reducible first | exact HB.out | apply below_alloc | apply pw_below_drewN | apply below_drew1) | exact HB.out)) hb); clear HB; have HB := n0_; clear n0_; (try clear hb); (try clear hb2); (try clear hk); (try clear hi)))
             go_meet
             case rel => exact ⟨_, (true), (by first | rfl | (simp; done) | (simp [*]; done)), H', ⟨by have := HJ5.out; have := HJ12.out; first | omega | exact Nat.le_refl _⟩, ⟨by repeat (first | (with_reducible first | exact HB.out | apply below_alloc | apply pw_below_drewN | apply below_drew1) | exact HB.out)⟩⟩
            ·rw [if_neg c27] at H
             have c27b0 : decide (t154 < 1) = false := decide_eq_false c27
             clear c27
             have H' := Aside0.mk H
             clear H
             go_wp2_with (first | (go_at_call 11; (with_reducible refine (date_Long.calls t153 t154 t161 _ A24.out).mono ?_); rintro e w29 ⟨rfl, hb⟩; have n0_ := Aside0.mk (below_step (by repeat (first | (with_reducible first | exact HB.out | apply below_alloc | apply pw_below_drewN | apply below_drew1) | exact HB.out)) hb); clear HB; have HB := n0_; clear n0_; (try clear hb); (try clear hb2); (try clear hk); (try clear hi)))
             go_meet
             case rel => exact ⟨_, (decide (t154 > 12)), (by first | rfl | (simp; done) | (simp [*]; done)), H', ⟨by have := HJ5.out; have := HJ12.out; first | omega | exact Nat.le_refl _⟩, ⟨by repeat (first | (with_reducible first | exact HB.out | apply below_alloc | apply pw_below_drewN | apply below_drew1) | exact HB.out)⟩⟩
         ·rw [if_neg c22] at H
          have c22b0 : (t156 == a0) = false := beq_eq_false_iff_ne.mpr c22
          have c22b1 : (t156 != a0) = true := bne_iff_ne.mpr c22
          (first | rw [c22b0] | (simp only [i64_w, i32_w]; rw [c22b0]) | skip)
          have H' := Aside0.mk H
          clear H
          go_wp2
          go_meet
          case rel => exact ⟨_, (true), (by first | rfl | (simp; done) | (simp [*]; done)), H', ⟨by have := HJ5.out; have := HJ12.out; first | omega | exact Nat.le_refl _⟩, ⟨by repeat (first | (with_reducible first | exact HB.out | apply below_alloc | apply pw_below_drewN | apply below_drew1) | exact HB.out)⟩⟩
        ·replace c21 := Bool.eq_false_iff.mpr c21
         subst c21
         have H1 : (rootcellarlaw15_DateBack.j2 kj12 t153 t154 t155 t158 t159 t160 true) = some r := by rw [if_neg (show ¬ (false = true) by decide)] at H; exact H
         clear H
         have H := H1
         clear H1
         have H' := Aside0.mk H
         clear H
         go_wp2
         go_meet
         case rel => exact ⟨_, (true), (by first | rfl | (simp; done) | (simp [*]; done)), H', ⟨by have := HJ5.out; have := HJ12.out; first | omega | exact Nat.le_refl _⟩, ⟨by repeat (first | (with_reducible first | exact HB.out | apply below_alloc | apply pw_below_drewN | apply below_drew1) | exact HB.out)⟩⟩
       case rest =>
        clear HC19
        try clear c1
        try clear c2
        try clear p2
        try clear c4
        try clear c5
        try clear c6
        try clear p6
        try clear c8
        try clear c9
        try clear c10
        try clear c11
        try clear c11b0
        try clear c11b1
        try clear c12
        try clear c14
        try clear c14b0
        try clear c15
        try clear c21
        try clear c22
        try clear c22b0
        try clear c22b1
        try clear c23
        try clear c23b0
        try clear c25
        try clear c25b0
        try clear c27
        try clear c27b0
        try clear p2
        obtain ⟨kq, x85_18, rfl, HA, HJ18, HB⟩ := hcut
        cases kq with
        | zero => exact absurd HA.out (by simp [rootcellarlaw15_DateBack.j2])
        | succ kj18 =>
         have H := HA.out
         clear HA
         simp only [rootcellarlaw15_DateBack.j2] at H
         by_cases c30 : x85_18 = true
         ·subst c30
          have H1 : (some false) = some r := by rw [if_pos rfl] at H; exact H
          clear H
          have H := H1
          clear H1
          obtain rfl := Option.some.inj H
          go_wp2
          go_ret
          exact ⟨by first | rfl | (simp [errW_none, errW_some] <;> rfl) | (simp [*, errW_none, errW_some] <;> rfl), by repeat (first | (with_reducible first | exact HB.out | apply below_alloc | apply pw_below_drewN | apply below_drew1) | exact HB.out)⟩
         ·replace c30 := Bool.eq_false_iff.mpr c30
          subst c30
          have H1 : ((date_Long.f t153 t154).bind fun t162 => (if t155 < t162 then (if t158 = t153 then (if t159 = t154 then (some (t160 == (wrap64 (t155 + 1)))) else (some false)) else (some false)) else (if t154 < 12 then (if t158 = t153 then (if t159 = (wrap64 (t154 + 1)) then (some (t160 == 1)) else (some false)) else (some false)) else (if t158 = (wrap64 (t153 + 1)) then (if t159 = 1 then (some (t160 == 1)) else (some false)) else (some false))))) = some r := by rw [if_neg (show ¬ (false = true) by decide)] at H; exact H
          clear H
          have H := H1
          clear H1
          replace H := Option.bind_eq_some_iff.mp H
          obtain ⟨t162, A310, H⟩ := H
          replace H : (if t155 < t162 then (if t158 = t153 then (if t159 = t154 then (some (t160 == (wrap64 (t155 + 1)))) else (some false)) else (some false)) else (if t154 < 12 then (if t158 = t153 then (if t159 = (wrap64 (t154 + 1)) then (some (t160 == 1)) else (some false)) else (some false)) else (if t158 = (wrap64 (t153 + 1)) then (if t159 = 1 then (some (t160 == 1)) else (some false)) else (some false)))) = some r := H
          have A31 := Aside0.mk A310
          clear A310
          by_cases c32 : t155 < t162
          ·rw [if_pos c32] at H
           have c32b0 : decide (t155 < t162) = true := decide_eq_true c32
           clear c32
           by_cases c33 : t158 = t153
           ·rw [if_pos c33] at H
            have c33b0 : (t158 == t153) = true := beq_iff_eq.mpr c33
            have c33b1 : (t158 != t153) = false := bne_eq_false_iff_eq.mpr c33
            clear c33
            by_cases c34 : t159 = t154
            ·rw [if_pos c34] at H
             have c34b0 : (t159 == t154) = true := beq_iff_eq.mpr c34
             have c34b1 : (t159 != t154) = false := bne_eq_false_iff_eq.mpr c34
             clear c34
             obtain rfl := Option.some.inj H
             go_wp2_with (first | ((with_reducible refine gate_callee (f := 11) rfl ?_); refine goesL_ (some 89) rfl rfl Tryd.func11 (by kernel_rfl) rfl #[.int .i64 t153, .int .i64 t154] rfl (by (try simp only [List.map_toArray, List.map_cons, List.map_nil]); first | done | rfl | (simp only [List.length_drop, List.length_take]; rfl) | (rw [wrap_sum2 (by assumption)]; rfl)) ?_; (with_reducible refine (date_Long.calls t153 t154 t162 _ A31.out).mono ?_); rintro e w35 ⟨rfl, hb⟩; refine ⟨_, rfl, ?_⟩; have n0_ := Aside0.mk (below_step (by repeat (first | (with_reducible first | exact HB.out | apply below_alloc | apply pw_below_drewN | apply below_drew1) | exact HB.out)) hb); clear HB; have HB := n0_; clear n0_; (try clear hb); (try clear hb2); (try clear hk); (try clear hi)))
             go_ret
             exact ⟨by first | rfl | (simp [errW_none, errW_some] <;> rfl) | (simp [*, errW_none, errW_some] <;> rfl), by repeat (first | (with_reducible first | exact HB.out | apply below_alloc | apply pw_below_drewN | apply below_drew1) | exact HB.out)⟩
            ·rw [if_neg c34] at H
             have c34b0 : (t159 == t154) = false := beq_eq_false_iff_ne.mpr c34
             have c34b1 : (t159 != t154) = true := bne_iff_ne.mpr c34
             obtain rfl := Option.some.inj H
             go_wp2_with (first | ((with_reducible refine gate_callee (f := 11) rfl ?_); refine goesL_ (some 89) rfl rfl Tryd.func11 (by kernel_rfl) rfl #[.int .i64 t153, .int .i64 t154] rfl (by (try simp only [List.map_toArray, List.map_cons, List.map_nil]); first | done | rfl | (simp only [List.length_drop, List.length_take]; rfl) | (rw [wrap_sum2 (by assumption)]; rfl)) ?_; (with_reducible refine (date_Long.calls t153 t154 t162 _ A31.out).mono ?_); rintro e w36 ⟨rfl, hb⟩; refine ⟨_, rfl, ?_⟩; have n0_ := Aside0.mk (below_step (by repeat (first | (with_reducible first | exact HB.out | apply below_alloc | apply pw_below_drewN | apply below_drew1) | exact HB.out)) hb); clear HB; have HB := n0_; clear n0_; (try clear hb); (try clear hb2); (try clear hk); (try clear hi)))
             go_ret
             exact ⟨by first | rfl | (simp [errW_none, errW_some] <;> rfl) | (simp [*, errW_none, errW_some] <;> rfl), by repeat (first | (with_reducible first | exact HB.out | apply below_alloc | apply pw_below_drewN | apply below_drew1) | exact HB.out)⟩
           ·rw [if_neg c33] at H
            have c33b0 : (t158 == t153) = false := beq_eq_false_iff_ne.mpr c33
            have c33b1 : (t158 != t153) = true := bne_iff_ne.mpr c33
            obtain rfl := Option.some.inj H
            go_wp2_with (first | ((with_reducible refine gate_callee (f := 11) rfl ?_); refine goesL_ (some 89) rfl rfl Tryd.func11 (by kernel_rfl) rfl #[.int .i64 t153, .int .i64 t154] rfl (by (try simp only [List.map_toArray, List.map_cons, List.map_nil]); first | done | rfl | (simp only [List.length_drop, List.length_take]; rfl) | (rw [wrap_sum2 (by assumption)]; rfl)) ?_; (with_reducible refine (date_Long.calls t153 t154 t162 _ A31.out).mono ?_); rintro e w37 ⟨rfl, hb⟩; refine ⟨_, rfl, ?_⟩; have n0_ := Aside0.mk (below_step (by repeat (first | (with_reducible first | exact HB.out | apply below_alloc | apply pw_below_drewN | apply below_drew1) | exact HB.out)) hb); clear HB; have HB := n0_; clear n0_; (try clear hb); (try clear hb2); (try clear hk); (try clear hi)))
            go_ret
            exact ⟨by first | rfl | (simp [errW_none, errW_some] <;> rfl) | (simp [*, errW_none, errW_some] <;> rfl), by repeat (first | (with_reducible first | exact HB.out | apply below_alloc | apply pw_below_drewN | apply below_drew1) | exact HB.out)⟩
          ·rw [if_neg c32] at H
           have c32b0 : decide (t155 < t162) = false := decide_eq_false c32
           clear c32
           by_cases c38 : t154 < 12
           ·rw [if_pos c38] at H
            have c38b0 : decide (t154 < 12) = true := decide_eq_true c38
            clear c38
            by_cases c39 : t158 = t153
            ·rw [if_pos c39] at H
             have c39b0 : (t158 == t153) = true := beq_iff_eq.mpr c39
             have c39b1 : (t158 != t153) = false := bne_eq_false_iff_eq.mpr c39
             clear c39
             by_cases c40 : t159 = (wrap64 (t154 + 1))
             ·rw [if_pos c40] at H
              have c40b0 : (t159 == (wrap64 (t154 + 1))) = true := beq_iff_eq.mpr c40
              have c40b1 : (t159 != (wrap64 (t154 + 1))) = false := bne_eq_false_iff_eq.mpr c40
              clear c40
              obtain rfl := Option.some.inj H
              go_wp2_with (first | ((with_reducible refine gate_callee (f := 11) rfl ?_); refine goesL_ (some 89) rfl rfl Tryd.func11 (by kernel_rfl) rfl #[.int .i64 t153, .int .i64 t154] rfl (by (try simp only [List.map_toArray, List.map_cons, List.map_nil]); first | done | rfl | (simp only [List.length_drop, List.length_take]; rfl) | (rw [wrap_sum2 (by assumption)]; rfl)) ?_; (with_reducible refine (date_Long.calls t153 t154 t162 _ A31.out).mono ?_); rintro e w41 ⟨rfl, hb⟩; refine ⟨_, rfl, ?_⟩; have n0_ := Aside0.mk (below_step (by repeat (first | (with_reducible first | exact HB.out | apply below_alloc | apply pw_below_drewN | apply below_drew1) | exact HB.out)) hb); clear HB; have HB := n0_; clear n0_; (try clear hb); (try clear hb2); (try clear hk); (try clear hi)))
              go_ret
              exact ⟨by first | rfl | (simp [errW_none, errW_some] <;> rfl) | (simp [*, errW_none, errW_some] <;> rfl), by repeat (first | (with_reducible first | exact HB.out | apply below_alloc | apply pw_below_drewN | apply below_drew1) | exact HB.out)⟩
             ·rw [if_neg c40] at H
              have c40b0 : (t159 == (wrap64 (t154 + 1))) = false := beq_eq_false_iff_ne.mpr c40
              have c40b1 : (t159 != (wrap64 (t154 + 1))) = true := bne_iff_ne.mpr c40
              obtain rfl := Option.some.inj H
              go_wp2_with (first | ((with_reducible refine gate_callee (f := 11) rfl ?_); refine goesL_ (some 89) rfl rfl Tryd.func11 (by kernel_rfl) rfl #[.int .i64 t153, .int .i64 t154] rfl (by (try simp only [List.map_toArray, List.map_cons, List.map_nil]); first | done | rfl | (simp only [List.length_drop, List.length_take]; rfl) | (rw [wrap_sum2 (by assumption)]; rfl)) ?_; (with_reducible refine (date_Long.calls t153 t154 t162 _ A31.out).mono ?_); rintro e w42 ⟨rfl, hb⟩; refine ⟨_, rfl, ?_⟩; have n0_ := Aside0.mk (below_step (by repeat (first | (with_reducible first | exact HB.out | apply below_alloc | apply pw_below_drewN | apply below_drew1) | exact HB.out)) hb); clear HB; have HB := n0_; clear n0_; (try clear hb); (try clear hb2); (try clear hk); (try clear hi)))
              go_ret
              exact ⟨by first | rfl | (simp [errW_none, errW_some] <;> rfl) | (simp [*, errW_none, errW_some] <;> rfl), by repeat (first | (with_reducible first | exact HB.out | apply below_alloc | apply pw_below_drewN | apply below_drew1) | exact HB.out)⟩
            ·rw [if_neg c39] at H
             have c39b0 : (t158 == t153) = false := beq_eq_false_iff_ne.mpr c39
             have c39b1 : (t158 != t153) = true := bne_iff_ne.mpr c39
             obtain rfl := Option.some.inj H
             go_wp2_with (first | ((with_reducible refine gate_callee (f := 11) rfl ?_); refine goesL_ (some 89) rfl rfl Tryd.func11 (by kernel_rfl) rfl #[.int .i64 t153, .int .i64 t154] rfl (by (try simp only [List.map_toArray, List.map_cons, List.map_nil]); first | done | rfl | (simp only [List.length_drop, List.length_take]; rfl) | (rw [wrap_sum2 (by assumption)]; rfl)) ?_; (with_reducible refine (date_Long.calls t153 t154 t162 _ A31.out).mono ?_); rintro e w43 ⟨rfl, hb⟩; refine ⟨_, rfl, ?_⟩; have n0_ := Aside0.mk (below_step (by repeat (first | (with_reducible first | exact HB.out | apply below_alloc | apply pw_below_drewN | apply below_drew1) | exact HB.out)) hb); clear HB; have HB := n0_; clear n0_; (try clear hb); (try clear hb2); (try clear hk); (try clear hi)))
             go_ret
             exact ⟨by first | rfl | (simp [errW_none, errW_some] <;> rfl) | (simp [*, errW_none, errW_some] <;> rfl), by repeat (first | (with_reducible first | exact HB.out | apply below_alloc | apply pw_below_drewN | apply below_drew1) | exact HB.out)⟩
           ·rw [if_neg c38] at H
            have c38b0 : decide (t154 < 12) = false := decide_eq_false c38
            clear c38
            by_cases c44 : t158 = (wrap64 (t153 + 1))
            ·rw [if_pos c44] at H
             have c44b0 : (t158 == (wrap64 (t153 + 1))) = true := beq_iff_eq.mpr c44
             have c44b1 : (t158 != (wrap64 (t153 + 1))) = false := bne_eq_false_iff_eq.mpr c44
             clear c44
             by_cases c45 : t159 = 1
             ·rw [if_pos c45] at H
              have c45b0 : (t159 == 1) = true := beq_iff_eq.mpr c45
              have c45b1 : (t159 != 1) = false := bne_eq_false_iff_eq.mpr c45
              clear c45
              obtain rfl := Option.some.inj H
              go_wp2_with (first | ((with_reducible refine gate_callee (f := 11) rfl ?_); refine goesL_ (some 89) rfl rfl Tryd.func11 (by kernel_rfl) rfl #[.int .i64 t153, .int .i64 t154] rfl (by (try simp only [List.map_toArray, List.map_cons, List.map_nil]); first | done | rfl | (simp only [List.length_drop, List.length_take]; rfl) | (rw [wrap_sum2 (by assumption)]; rfl)) ?_; (with_reducible refine (date_Long.calls t153 t154 t162 _ A31.out).mono ?_); rintro e w46 ⟨rfl, hb⟩; refine ⟨_, rfl, ?_⟩; have n0_ := Aside0.mk (below_step (by repeat (first | (with_reducible first | exact HB.out | apply below_alloc | apply pw_below_drewN | apply below_drew1) | exact HB.out)) hb); clear HB; have HB := n0_; clear n0_; (try clear hb); (try clear hb2); (try clear hk); (try clear hi)))
              go_ret
              exact ⟨by first | rfl | (simp [errW_none, errW_some] <;> rfl) | (simp [*, errW_none, errW_some] <;> rfl), by repeat (first | (with_reducible first | exact HB.out | apply below_alloc | apply pw_below_drewN | apply below_drew1) | exact HB.out)⟩
             ·rw [if_neg c45] at H
              have c45b0 : (t159 == 1) = false := beq_eq_false_iff_ne.mpr c45
              have c45b1 : (t159 != 1) = true := bne_iff_ne.mpr c45
              obtain rfl := Option.some.inj H
              go_wp2_with (first | ((with_reducible refine gate_callee (f := 11) rfl ?_); refine goesL_ (some 89) rfl rfl Tryd.func11 (by kernel_rfl) rfl #[.int .i64 t153, .int .i64 t154] rfl (by (try simp only [List.map_toArray, List.map_cons, List.map_nil]); first | done | rfl | (simp only [List.length_drop, List.length_take]; rfl) | (rw [wrap_sum2 (by assumption)]; rfl)) ?_; (with_reducible refine (date_Long.calls t153 t154 t162 _ A31.out).mono ?_); rintro e w47 ⟨rfl, hb⟩; refine ⟨_, rfl, ?_⟩; have n0_ := Aside0.mk (below_step (by repeat (first | (with_reducible first | exact HB.out | apply below_alloc | apply pw_below_drewN | apply below_drew1) | exact HB.out)) hb); clear HB; have HB := n0_; clear n0_; (try clear hb); (try clear hb2); (try clear hk); (try clear hi)))
              go_ret
              exact ⟨by first | rfl | (simp [errW_none, errW_some] <;> rfl) | (simp [*, errW_none, errW_some] <;> rfl), by repeat (first | (with_reducible first | exact HB.out | apply below_alloc | apply pw_below_drewN | apply below_drew1) | exact HB.out)⟩
            ·rw [if_neg c44] at H
             have c44b0 : (t158 == (wrap64 (t153 + 1))) = false := beq_eq_false_iff_ne.mpr c44
             have c44b1 : (t158 != (wrap64 (t153 + 1))) = true := bne_iff_ne.mpr c44
             obtain rfl := Option.some.inj H
             go_wp2_with (first | ((with_reducible refine gate_callee (f := 11) rfl ?_); refine goesL_ (some 89) rfl rfl Tryd.func11 (by kernel_rfl) rfl #[.int .i64 t153, .int .i64 t154] rfl (by (try simp only [List.map_toArray, List.map_cons, List.map_nil]); first | done | rfl | (simp only [List.length_drop, List.length_take]; rfl) | (rw [wrap_sum2 (by assumption)]; rfl)) ?_; (with_reducible refine (date_Long.calls t153 t154 t162 _ A31.out).mono ?_); rintro e w48 ⟨rfl, hb⟩; refine ⟨_, rfl, ?_⟩; have n0_ := Aside0.mk (below_step (by repeat (first | (with_reducible first | exact HB.out | apply below_alloc | apply pw_below_drewN | apply below_drew1) | exact HB.out)) hb); clear HB; have HB := n0_; clear n0_; (try clear hb); (try clear hb2); (try clear hk); (try clear hi)))
             go_ret
             exact ⟨by first | rfl | (simp [errW_none, errW_some] <;> rfl) | (simp [*, errW_none, errW_some] <;> rfl), by repeat (first | (with_reducible first | exact HB.out | apply below_alloc | apply pw_below_drewN | apply below_drew1) | exact HB.out)⟩


end Go.Proofs.YtjoaiolacalemaaDoor.Fn
end
