-- Packed by pack.py, a program of this session, out of texts of this claim.
import Derived.Test.YtboommbclbjlnaaDoorClStepTorn1
section
-- Written by printx.py, a program of this session over the kit's print: each Go function as a plain Lean function, and that the Go code computes it.
namespace Go.Proofs.YtboommbclbjlnaaDoor.Fn
open Go.RowKit Go.Proofs.YtboommbclbjlnaaDoorW.PrintWords Go.Proofs.YtboommbclbjlnaaDoorW.PrintLast Go.Proofs.YtboommbclbjlnaaDoorW.PrintMore Go.Proofs.YtboommbclbjlnaaDoor.Lf
open List (setIfInBounds_toArray set_cons_zero set_cons_succ)
attribute [local go_sem] max2_int min2_int max_two min_two max_three min_three max_four min_four   -- for this text's walks alone
set_option linter.unusedVariables false
set_option linter.unusedSimpArgs false
mutual
def l12_StepTorn.j0 : Nat → List (S24) → Int → Int → Bool → Bool → Option (Bool)
 | 0, _, _, _, _, _ => none
 | k + 1, x0, x1, x2, x7, x29 => if x29 = true then (some x7) else (l12_StepTorn.l0 k x0 x1 x2 (⟨#[]⟩ : ByteArray) ([] : List (S24)) ([] : List Int) 0)
def l12_StepTorn.l0 : Nat → List (S24) → Int → Int → ByteArray → List (S24) → List Int → Int → Option (Bool)
 | 0, _, _, _, _, _, _, _ => none
 | k + 1, x0, x1, x2, x9, x10, x11, x12 => if x12 < (x0.length : Int) then (if 0 ≤ x12 then ((step_Put.f k ((rd_T24 x0 x12).f0) ((rd_T24 x0 x12).f1) ((rd_T24 x0 x12).f2) ((rd_T24 x0 x12).f3) ((rd_T24 x0 x12).f4)).bind fun bt140 => (if bt140.2 = 0 then (if x9.size + bt140.1.size ≤ 9223372036854775807 then (if x10.length < 2932031007402 then (if x11.length < 17592186044416 then (l12_StepTorn.l0 k x0 x1 x2 (x9 ++ bt140.1) (x10 ++ [(⟨(rd_T24 x0 x12).f0, (rd_T24 x0 x12).f1, (rd_T24 x0 x12).f2, (rd_T24 x0 x12).f3, (rd_T24 x0 x12).f4⟩ : S24)]) (x11 ++ [((x9 ++ bt140.1).size : Int)]) (wrap64 (x12 + 1))) else (none)) else (none)) else (none)) else (l12_StepTorn.l0 k x0 x1 x2 x9 x10 x11 (wrap64 (x12 + 1))))) else (none)) else (l12_StepTorn.l1 k (mx 0 (mn x1 (x9.size : Int))) x2 x9 x10 x11 0 0)
def l12_StepTorn.j3 : Nat → Int → Int → ByteArray → List (S24) → List Int → Int → Int → Option (Bool)
 | 0, _, _, _, _, _, _, _ => none
 | k + 1, x1, x2, x9, x10, x11, x15, x16 => if 0 ≤ x1 then (if x1 ≤ (x9.size : Int) then ((step_Scan.f k (x9.extract 0 (x1 : Int).toNat)).bind fun bt151 => (if 0 ≤ x15 then (if x15 ≤ (x10.length : Int) then ((l12_steps.f k (x10.take (x15 : Int).toNat)).bind fun t159 => ((l12_sameSteps.f k bt151.1 t159).bind fun t162 => (if t162 = true then (l12_StepTorn.j4 k x2 x9 x10 x11 x15 x16 (bt151.2 != x16)) else (l12_StepTorn.j4 k x2 x9 x10 x11 x15 x16 true)))) else (none)) else (none))) else (none)) else (none)
def l12_StepTorn.j4 : Nat → Int → ByteArray → List (S24) → List Int → Int → Int → Bool → Option (Bool)
 | 0, _, _, _, _, _, _, _ => none
 | k + 1, x2, x9, x10, x11, x15, x16, x103 => if x103 = true then (none) else (if x15 = (x10.length : Int) then (l12_StepTorn.j5 k x2 x9 x10 x15 x16 true) else (if x2 = 0 then (l12_StepTorn.j5 k x2 x9 x10 x15 x16 true) else (if 0 ≤ x15 then (if x15 < (x11.length : Int) then (l12_StepTorn.j5 k x2 x9 x10 x15 x16 (decide ((wrap64 ((rd x11 x15) - x16)) < 8))) else (none)) else (none))))
def l12_StepTorn.j5 : Nat → Int → ByteArray → List (S24) → Int → Int → Bool → Option (Bool)
 | 0, _, _, _, _, _, _ => none
 | k + 1, x2, x9, x10, x15, x16, x120 => if x120 = true then (some true) else (if x9.size ≤ 9223372036854775807 then (l12_StepTorn.l2 k x2 x10 x15 x16 (bytesOf x9) 0) else (none))
def l12_StepTorn.l2 : Nat → Int → List (S24) → Int → Int → List Int → Int → Option (Bool)
 | 0, _, _, _, _, _, _ => none
 | k + 1, x2, x10, x15, x16, x19, x20 => if x20 < 32 then (if 0 ≤ x20 then (if (Go.bits .and .u32 (shr .u32 x2 x20) 1) = 1 then (if 0 ≤ (wrap64 ((wrap64 (x16 + 2)) + (wrap64 (Int.tdiv x20 8)))) then (if (wrap64 ((wrap64 (x16 + 2)) + (wrap64 (Int.tdiv x20 8)))) < (x19.length : Int) then (if 0 ≤ (Int.tmod x20 8) then (l12_StepTorn.l2 k x2 x10 x15 x16 (x19.set ((wrap64 ((wrap64 (x16 + 2)) + (wrap64 (Int.tdiv x20 8)))) : Int).toNat (Go.bits .xor .u8 (rd x19 (wrap64 ((wrap64 (x16 + 2)) + (wrap64 (Int.tdiv x20 8))))) (shl .u8 1 (Int.tmod x20 8)))) (wrap64 (x20 + 1))) else (none)) else (none)) else (none)) else (l12_StepTorn.l2 k x2 x10 x15 x16 x19 (wrap64 (x20 + 1)))) else (none)) else ((step_Scan.f k (strOfNums x19)).bind fun bt169 => (if 0 ≤ x15 then (if x15 ≤ (x10.length : Int) then ((l12_steps.f k (x10.take (x15 : Int).toNat)).bind fun t177 => ((l12_sameSteps.f k bt169.1 t177).bind fun t180 => (if t180 = true then (some (bt169.2 == x16)) else (none)))) else (none)) else (none)))
def l12_StepTorn.l1 : Nat → Int → Int → ByteArray → List (S24) → List Int → Int → Int → Option (Bool)
 | 0, _, _, _, _, _, _, _ => none
 | k + 1, x1, x2, x9, x10, x11, x15, x16 => if x15 < (x10.length : Int) then (if 0 ≤ x15 then (if x15 < (x11.length : Int) then (if (rd x11 x15) ≤ x1 then (l12_StepTorn.l1 k x1 x2 x9 x10 x11 (wrap64 (x15 + 1)) (rd x11 x15)) else (l12_StepTorn.j3 k x1 x2 x9 x10 x11 x15 x16)) else (none)) else (none)) else (l12_StepTorn.j3 k x1 x2 x9 x10 x11 x15 x16)
end
def l12_StepTorn.f (k : Nat) (l0 : List (S24)) (a1 : Int) (a2 : Int) : Option (Bool) := (l12_shown.f k).bind fun t137 => ((l12_shortSteps.f k l0).bind fun t138 => (if t137 = true then (l12_StepTorn.j0 k l0 a1 a2 t137 (!t138)) else (l12_StepTorn.j0 k l0 a1 a2 t137 true)))
theorem l12_StepTorn.mono_l : ∀ k, (∀ y0 y1 y2 y3 y4, LeO (l12_StepTorn.j0 k y0 y1 y2 y3 y4) (l12_StepTorn.j0 (k + 1) y0 y1 y2 y3 y4)) ∧ (∀ y0 y1 y2 y3 y4 y5 y6, LeO (l12_StepTorn.l0 k y0 y1 y2 y3 y4 y5 y6) (l12_StepTorn.l0 (k + 1) y0 y1 y2 y3 y4 y5 y6)) ∧ (∀ y0 y1 y2 y3 y4 y5 y6, LeO (l12_StepTorn.j3 k y0 y1 y2 y3 y4 y5 y6) (l12_StepTorn.j3 (k + 1) y0 y1 y2 y3 y4 y5 y6)) ∧ (∀ y0 y1 y2 y3 y4 y5 y6, LeO (l12_StepTorn.j4 k y0 y1 y2 y3 y4 y5 y6) (l12_StepTorn.j4 (k + 1) y0 y1 y2 y3 y4 y5 y6)) ∧ (∀ y0 y1 y2 y3 y4 y5, LeO (l12_StepTorn.j5 k y0 y1 y2 y3 y4 y5) (l12_StepTorn.j5 (k + 1) y0 y1 y2 y3 y4 y5)) ∧ (∀ y0 y1 y2 y3 y4 y5, LeO (l12_StepTorn.l2 k y0 y1 y2 y3 y4 y5) (l12_StepTorn.l2 (k + 1) y0 y1 y2 y3 y4 y5)) ∧ (∀ y0 y1 y2 y3 y4 y5 y6, LeO (l12_StepTorn.l1 k y0 y1 y2 y3 y4 y5 y6) (l12_StepTorn.l1 (k + 1) y0 y1 y2 y3 y4 y5 y6))
 | 0 => ⟨fun _ _ _ _ _ r h => by simp [l12_StepTorn.j0] at h, fun _ _ _ _ _ _ _ r h => by simp [l12_StepTorn.l0] at h, fun _ _ _ _ _ _ _ r h => by simp [l12_StepTorn.j3] at h, fun _ _ _ _ _ _ _ r h => by simp [l12_StepTorn.j4] at h, fun _ _ _ _ _ _ r h => by simp [l12_StepTorn.j5] at h, fun _ _ _ _ _ _ r h => by simp [l12_StepTorn.l2] at h, fun _ _ _ _ _ _ _ r h => by simp [l12_StepTorn.l1] at h⟩
 | k + 1 => by
  obtain ⟨ih0, ih1, ih2, ih3, ih4, ih5, ih6⟩ := l12_StepTorn.mono_l k
  refine ⟨?_, ?_, ?_, ?_, ?_, ?_, ?_⟩
  ·intro y0 y1 y2 y3 y4
   unfold l12_StepTorn.j0
   repeat' first
   | (with_reducible exact ih0 _ _ _ _ _)
   | (with_reducible exact ih1 _ _ _ _ _ _ _)
   | (with_reducible exact ih2 _ _ _ _ _ _ _)
   | (with_reducible exact ih3 _ _ _ _ _ _ _)
   | (with_reducible exact ih4 _ _ _ _ _ _)
   | (with_reducible exact ih5 _ _ _ _ _ _)
   | (with_reducible exact ih6 _ _ _ _ _ _ _)
   | (with_reducible exact l12_sameSteps.mono _ _ _)
   | (with_reducible exact l12_shortSteps.mono _ _)
   | (with_reducible exact l12_shown.mono _)
   | (with_reducible exact l12_steps.mono _ _)
   | (with_reducible exact step_Put.mono _ _ _ _ _ _)
   | (with_reducible exact step_Scan.mono _ _)
   | (with_reducible exact LeO.refl _)
   | (with_reducible exact LeO.none _)
   | (with_reducible refine LeO.ite ?_ ?_)
   | (with_reducible refine LeO.bind ?_ (fun _ => ?_))
   | exact ih0 _ _ _ _ _
   | exact ih1 _ _ _ _ _ _ _
   | exact ih2 _ _ _ _ _ _ _
   | exact ih3 _ _ _ _ _ _ _
   | exact ih4 _ _ _ _ _ _
   | exact ih5 _ _ _ _ _ _
   | exact ih6 _ _ _ _ _ _ _
   | exact l12_sameSteps.mono _ _ _
   | exact l12_shortSteps.mono _ _
   | exact l12_shown.mono _
   | exact l12_steps.mono _ _
   | exact step_Put.mono _ _ _ _ _ _
   | exact step_Scan.mono _ _
   | exact LeO.none _
   | refine LeO.ite ?_ ?_
   | refine LeO.bind ?_ (fun _ => ?_)
  ·intro y0 y1 y2 y3 y4 y5 y6
   unfold l12_StepTorn.l0
   repeat' first
   | (with_reducible exact ih0 _ _ _ _ _)
   | (with_reducible exact ih1 _ _ _ _ _ _ _)
   | (with_reducible exact ih2 _ _ _ _ _ _ _)
   | (with_reducible exact ih3 _ _ _ _ _ _ _)
   | (with_reducible exact ih4 _ _ _ _ _ _)
   | (with_reducible exact ih5 _ _ _ _ _ _)
   | (with_reducible exact ih6 _ _ _ _ _ _ _)
   | (with_reducible exact l12_sameSteps.mono _ _ _)
   | (with_reducible exact l12_shortSteps.mono _ _)
   | (with_reducible exact l12_shown.mono _)
   | (with_reducible exact l12_steps.mono _ _)
   | (with_reducible exact step_Put.mono _ _ _ _ _ _)
   | (with_reducible exact step_Scan.mono _ _)
   | (with_reducible exact LeO.refl _)
   | (with_reducible exact LeO.none _)
   | (with_reducible refine LeO.ite ?_ ?_)
   | (with_reducible refine LeO.bind ?_ (fun _ => ?_))
   | exact ih0 _ _ _ _ _
   | exact ih1 _ _ _ _ _ _ _
   | exact ih2 _ _ _ _ _ _ _
   | exact ih3 _ _ _ _ _ _ _
   | exact ih4 _ _ _ _ _ _
   | exact ih5 _ _ _ _ _ _
   | exact ih6 _ _ _ _ _ _ _
   | exact l12_sameSteps.mono _ _ _
   | exact l12_shortSteps.mono _ _
   | exact l12_shown.mono _
   | exact l12_steps.mono _ _
   | exact step_Put.mono _ _ _ _ _ _
   | exact step_Scan.mono _ _
   | exact LeO.none _
   | refine LeO.ite ?_ ?_
   | refine LeO.bind ?_ (fun _ => ?_)
  ·intro y0 y1 y2 y3 y4 y5 y6
   unfold l12_StepTorn.j3
   repeat' first
   | (with_reducible exact ih0 _ _ _ _ _)
   | (with_reducible exact ih1 _ _ _ _ _ _ _)
   | (with_reducible exact ih2 _ _ _ _ _ _ _)
   | (with_reducible exact ih3 _ _ _ _ _ _ _)
   | (with_reducible exact ih4 _ _ _ _ _ _)
   | (with_reducible exact ih5 _ _ _ _ _ _)
   | (with_reducible exact ih6 _ _ _ _ _ _ _)
   | (with_reducible exact l12_sameSteps.mono _ _ _)
   | (with_reducible exact l12_shortSteps.mono _ _)
   | (with_reducible exact l12_shown.mono _)
   | (with_reducible exact l12_steps.mono _ _)
   | (with_reducible exact step_Put.mono _ _ _ _ _ _)
   | (with_reducible exact step_Scan.mono _ _)
   | (with_reducible exact LeO.refl _)
   | (with_reducible exact LeO.none _)
   | (with_reducible refine LeO.ite ?_ ?_)
   | (with_reducible refine LeO.bind ?_ (fun _ => ?_))
   | exact ih0 _ _ _ _ _
   | exact ih1 _ _ _ _ _ _ _
   | exact ih2 _ _ _ _ _ _ _
   | exact ih3 _ _ _ _ _ _ _
   | exact ih4 _ _ _ _ _ _
   | exact ih5 _ _ _ _ _ _
   | exact ih6 _ _ _ _ _ _ _
   | exact l12_sameSteps.mono _ _ _
   | exact l12_shortSteps.mono _ _
   | exact l12_shown.mono _
   | exact l12_steps.mono _ _
   | exact step_Put.mono _ _ _ _ _ _
   | exact step_Scan.mono _ _
   | exact LeO.none _
   | refine LeO.ite ?_ ?_
   | refine LeO.bind ?_ (fun _ => ?_)
  ·intro y0 y1 y2 y3 y4 y5 y6
   unfold l12_StepTorn.j4
   repeat' first
   | (with_reducible exact ih0 _ _ _ _ _)
   | (with_reducible exact ih1 _ _ _ _ _ _ _)
   | (with_reducible exact ih2 _ _ _ _ _ _ _)
   | (with_reducible exact ih3 _ _ _ _ _ _ _)
   | (with_reducible exact ih4 _ _ _ _ _ _)
   | (with_reducible exact ih5 _ _ _ _ _ _)
   | (with_reducible exact ih6 _ _ _ _ _ _ _)
   | (with_reducible exact l12_sameSteps.mono _ _ _)
   | (with_reducible exact l12_shortSteps.mono _ _)
   | (with_reducible exact l12_shown.mono _)
   | (with_reducible exact l12_steps.mono _ _)
   | (with_reducible exact step_Put.mono _ _ _ _ _ _)
   | (with_reducible exact step_Scan.mono _ _)
   | (with_reducible exact LeO.refl _)
   | (with_reducible exact LeO.none _)
   | (with_reducible refine LeO.ite ?_ ?_)
   | (with_reducible refine LeO.bind ?_ (fun _ => ?_))
   | exact ih0 _ _ _ _ _
   | exact ih1 _ _ _ _ _ _ _
   | exact ih2 _ _ _ _ _ _ _
   | exact ih3 _ _ _ _ _ _ _
   | exact ih4 _ _ _ _ _ _
   | exact ih5 _ _ _ _ _ _
   | exact ih6 _ _ _ _ _ _ _
   | exact l12_sameSteps.mono _ _ _
   | exact l12_shortSteps.mono _ _
   | exact l12_shown.mono _
   | exact l12_steps.mono _ _
   | exact step_Put.mono _ _ _ _ _ _
   | exact step_Scan.mono _ _
   | exact LeO.none _
   | refine LeO.ite ?_ ?_
   | refine LeO.bind ?_ (fun _ => ?_)
  ·intro y0 y1 y2 y3 y4 y5
   unfold l12_StepTorn.j5
   repeat' first
   | (with_reducible exact ih0 _ _ _ _ _)
   | (with_reducible exact ih1 _ _ _ _ _ _ _)
   | (with_reducible exact ih2 _ _ _ _ _ _ _)
   | (with_reducible exact ih3 _ _ _ _ _ _ _)
   | (with_reducible exact ih4 _ _ _ _ _ _)
   | (with_reducible exact ih5 _ _ _ _ _ _)
   | (with_reducible exact ih6 _ _ _ _ _ _ _)
   | (with_reducible exact l12_sameSteps.mono _ _ _)
   | (with_reducible exact l12_shortSteps.mono _ _)
   | (with_reducible exact l12_shown.mono _)
   | (with_reducible exact l12_steps.mono _ _)
   | (with_reducible exact step_Put.mono _ _ _ _ _ _)
   | (with_reducible exact step_Scan.mono _ _)
   | (with_reducible exact LeO.refl _)
   | (with_reducible exact LeO.none _)
   | (with_reducible refine LeO.ite ?_ ?_)
   | (with_reducible refine LeO.bind ?_ (fun _ => ?_))
   | exact ih0 _ _ _ _ _
   | exact ih1 _ _ _ _ _ _ _
   | exact ih2 _ _ _ _ _ _ _
   | exact ih3 _ _ _ _ _ _ _
   | exact ih4 _ _ _ _ _ _
   | exact ih5 _ _ _ _ _ _
   | exact ih6 _ _ _ _ _ _ _
   | exact l12_sameSteps.mono _ _ _
   | exact l12_shortSteps.mono _ _
   | exact l12_shown.mono _
   | exact l12_steps.mono _ _
   | exact step_Put.mono _ _ _ _ _ _
   | exact step_Scan.mono _ _
   | exact LeO.none _
   | refine LeO.ite ?_ ?_
   | refine LeO.bind ?_ (fun _ => ?_)
  ·intro y0 y1 y2 y3 y4 y5
   unfold l12_StepTorn.l2
   repeat' first
   | (with_reducible exact ih0 _ _ _ _ _)
   | (with_reducible exact ih1 _ _ _ _ _ _ _)
   | (with_reducible exact ih2 _ _ _ _ _ _ _)
   | (with_reducible exact ih3 _ _ _ _ _ _ _)
   | (with_reducible exact ih4 _ _ _ _ _ _)
   | (with_reducible exact ih5 _ _ _ _ _ _)
   | (with_reducible exact ih6 _ _ _ _ _ _ _)
   | (with_reducible exact l12_sameSteps.mono _ _ _)
   | (with_reducible exact l12_shortSteps.mono _ _)
   | (with_reducible exact l12_shown.mono _)
   | (with_reducible exact l12_steps.mono _ _)
   | (with_reducible exact step_Put.mono _ _ _ _ _ _)
   | (with_reducible exact step_Scan.mono _ _)
   | (with_reducible exact LeO.refl _)
   | (with_reducible exact LeO.none _)
   | (with_reducible refine LeO.ite ?_ ?_)
   | (with_reducible refine LeO.bind ?_ (fun _ => ?_))
   | exact ih0 _ _ _ _ _
   | exact ih1 _ _ _ _ _ _ _
   | exact ih2 _ _ _ _ _ _ _
   | exact ih3 _ _ _ _ _ _ _
   | exact ih4 _ _ _ _ _ _
   | exact ih5 _ _ _ _ _ _
   | exact ih6 _ _ _ _ _ _ _
   | exact l12_sameSteps.mono _ _ _
   | exact l12_shortSteps.mono _ _
   | exact l12_shown.mono _
   | exact l12_steps.mono _ _
   | exact step_Put.mono _ _ _ _ _ _
   | exact step_Scan.mono _ _
   | exact LeO.none _
   | refine LeO.ite ?_ ?_
   | refine LeO.bind ?_ (fun _ => ?_)
  ·intro y0 y1 y2 y3 y4 y5 y6
   unfold l12_StepTorn.l1
   repeat' first
   | (with_reducible exact ih0 _ _ _ _ _)
   | (with_reducible exact ih1 _ _ _ _ _ _ _)
   | (with_reducible exact ih2 _ _ _ _ _ _ _)
   | (with_reducible exact ih3 _ _ _ _ _ _ _)
   | (with_reducible exact ih4 _ _ _ _ _ _)
   | (with_reducible exact ih5 _ _ _ _ _ _)
   | (with_reducible exact ih6 _ _ _ _ _ _ _)
   | (with_reducible exact l12_sameSteps.mono _ _ _)
   | (with_reducible exact l12_shortSteps.mono _ _)
   | (with_reducible exact l12_shown.mono _)
   | (with_reducible exact l12_steps.mono _ _)
   | (with_reducible exact step_Put.mono _ _ _ _ _ _)
   | (with_reducible exact step_Scan.mono _ _)
   | (with_reducible exact LeO.refl _)
   | (with_reducible exact LeO.none _)
   | (with_reducible refine LeO.ite ?_ ?_)
   | (with_reducible refine LeO.bind ?_ (fun _ => ?_))
   | exact ih0 _ _ _ _ _
   | exact ih1 _ _ _ _ _ _ _
   | exact ih2 _ _ _ _ _ _ _
   | exact ih3 _ _ _ _ _ _ _
   | exact ih4 _ _ _ _ _ _
   | exact ih5 _ _ _ _ _ _
   | exact ih6 _ _ _ _ _ _ _
   | exact l12_sameSteps.mono _ _ _
   | exact l12_shortSteps.mono _ _
   | exact l12_shown.mono _
   | exact l12_steps.mono _ _
   | exact step_Put.mono _ _ _ _ _ _
   | exact step_Scan.mono _ _
   | exact LeO.none _
   | refine LeO.ite ?_ ?_
   | refine LeO.bind ?_ (fun _ => ?_)
theorem l12_StepTorn.mono : ∀ a0 a1 a2 k, LeO (l12_StepTorn.f k a0 a1 a2) (l12_StepTorn.f (k + 1) a0 a1 a2) := by
 intro a0 a1 a2 k
 obtain ⟨ih0, ih1, ih2, ih3, ih4, ih5, ih6⟩ := l12_StepTorn.mono_l k
 unfold l12_StepTorn.f
 repeat' first
   | (with_reducible exact ih0 _ _ _ _ _)
   | (with_reducible exact ih1 _ _ _ _ _ _ _)
   | (with_reducible exact ih2 _ _ _ _ _ _ _)
   | (with_reducible exact ih3 _ _ _ _ _ _ _)
   | (with_reducible exact ih4 _ _ _ _ _ _)
   | (with_reducible exact ih5 _ _ _ _ _ _)
   | (with_reducible exact ih6 _ _ _ _ _ _ _)
   | (with_reducible exact l12_sameSteps.mono _ _ _)
   | (with_reducible exact l12_shortSteps.mono _ _)
   | (with_reducible exact l12_shown.mono _)
   | (with_reducible exact l12_steps.mono _ _)
   | (with_reducible exact step_Put.mono _ _ _ _ _ _)
   | (with_reducible exact step_Scan.mono _ _)
   | (with_reducible exact LeO.refl _)
   | (with_reducible exact LeO.none _)
   | (with_reducible refine LeO.ite ?_ ?_)
   | (with_reducible refine LeO.bind ?_ (fun _ => ?_))
   | exact ih0 _ _ _ _ _
   | exact ih1 _ _ _ _ _ _ _
   | exact ih2 _ _ _ _ _ _ _
   | exact ih3 _ _ _ _ _ _ _
   | exact ih4 _ _ _ _ _ _
   | exact ih5 _ _ _ _ _ _
   | exact ih6 _ _ _ _ _ _ _
   | exact l12_sameSteps.mono _ _ _
   | exact l12_shortSteps.mono _ _
   | exact l12_shown.mono _
   | exact l12_steps.mono _ _
   | exact step_Put.mono _ _ _ _ _ _
   | exact step_Scan.mono _ _
   | exact LeO.none _
   | refine LeO.ite ?_ ?_
   | refine LeO.bind ?_ (fun _ => ?_)
def l12_StepTorn.T32 : Bool × List (List Nat × List Nat) := (true, [([], []), ([], []), ([1], [1]), ([], []), ([3], [3]), ([2, 4], [2, 4]), ([], []), ([], []), ([7], [7]), ([], []), ([9], [9]), ([8, 10], [8, 10]), ([6, 11], [6, 11]), ([12], [12]), ([], []), ([14], [14]), ([15], [15]), ([13, 16], [13, 16]), ([0, 5, 0, 1, 2, 3, 4, 5, 6, 7, 8, 9, 10, 11, 12, 13, 14, 15, 16, 17], [0, 5]), ([18, 17, 0, 1, 2, 3, 4, 5, 6, 7, 8, 9, 10, 11, 12, 13, 14, 15, 16, 17], [17, 18])])
def l12_StepTorn.B32 : List Nat := [0, 0, 2, 0, 8, 30, 0, 0, 128, 0, 512, 1920, 4032, 8128, 0, 16384, 49152, 131008, 262143, 524287]
theorem l12_StepTorn.tab32 : rtab .any (opsOf Tryd.f9 32) = l12_StepTorn.T32 := by kernel_rfl
theorem l12_StepTorn.bits32 : waitsOk l12_StepTorn.T32.2 l12_StepTorn.B32 = true := by kernel_rfl
set_option maxHeartbeats 8000000 in
set_option maxRecDepth 100000 in
theorem l12_StepTorn.calls (k : Nat) (A0 : Option Addr) (c0 : Nat) (l0 : List (S24)) (a1 : Int) (a2 : Int) (r : Bool) (w : World) (hr0 : Kd.C k24 w A0 l0.length l0) (hc0 : l0.length ≤ c0) (h : l12_StepTorn.f k l0 a1 a2 = some r) (HT : Tabs w) :
  Calls Tryd.prog 9 #[.slice A0 l0.length c0, .int .i64 a1, .int .u32 a2] w fun e w' => e = .returned (.bool r) ∧ Below w.heap.size w w' := by
 have hu24 := Tryd.underlying24
 have HR0 := Ax.mk hr0
 have HC0 := Ax.mk hc0
 clear hr0 hc0
 have HB := Ax.mk (Below.refl w.heap.size w)
 have H : ((l12_shown.f k).bind fun t137 => ((l12_shortSteps.f k l0).bind fun t138 => (if t137 = true then (l12_StepTorn.j0 k l0 a1 a2 t137 (!t138)) else (l12_StepTorn.j0 k l0 a1 a2 t137 true)))) = some r := h
 clear h
 replace H := Option.bind_eq_some_iff.mp H
 obtain ⟨t137, A40, H⟩ := H
 replace H : ((l12_shortSteps.f k l0).bind fun t138 => (if t137 = true then (l12_StepTorn.j0 k l0 a1 a2 t137 (!t138)) else (l12_StepTorn.j0 k l0 a1 a2 t137 true))) = some r := H
 have A4 := Ax.mk A40
 clear A40
 replace H := Option.bind_eq_some_iff.mp H
 obtain ⟨t138, A50, H⟩ := H
 replace H : (if t137 = true then (l12_StepTorn.j0 k l0 a1 a2 t137 (!t138)) else (l12_StepTorn.j0 k l0 a1 a2 t137 true)) = some r := H
 have A5 := Ax.mk A50
 clear A50
 have HC6 := Ax.mk H
 clear H
 go_enter Tryd.func9, Tryd.ntmps9
 go_upto_region 3 with (first | ((with_reducible refine gate_callee (f := 17) rfl ?_); refine goesL_ (some 21) rfl rfl Tryd.func17 (by kernel_rfl) rfl #[] rfl (by (try simp only [List.map_toArray, List.map_cons, List.map_nil]); first | done | rfl | (simp only [List.length_drop, List.length_take]; rfl) | (rw [wrap_sum2 (by assumption)]; rfl)) ?_; (with_reducible refine (l12_shown.calls k  t137 _ A4.out (HT.below bA)).mono ?_); rintro e w7 ⟨rfl, hb⟩; refine ⟨_, rfl, ?_⟩; have n0_ := Ax.mk (bP bA hb); clear HB; have HB := n0_; clear n0_; (try clear hb); (try clear hb2); (try clear hk); (try clear hi)) | ((with_reducible refine gate_callee (f := 23) rfl ?_); refine goesL_ (some 23) rfl rfl Tryd.func23 (by kernel_rfl) rfl #[.slice A0 l0.length c0] rfl (by (try simp only [List.map_toArray, List.map_cons, List.map_nil]); first | done | rfl | (simp only [List.length_drop, List.length_take]; rfl) | (rw [wrap_sum2 (by assumption)]; rfl)) ?_; (with_reducible refine (l12_shortSteps.calls k _ _ l0 t138 _ ?side1 ?side2 A5.out).mono ?_); (case side1 => repeat (first | exact (Kd.C_below HR0.out HB.out) | (with_reducible refine Kd.C_alloc ?_ _) | (with_reducible refine Kd.C_drewN ?_ _) | (with_reducible refine Kd.C_drew ?_))); (case side2 => exact HC0.out); rintro e w' ⟨rfl, ⟨nd, rfl⟩⟩; refine ⟨_, rfl, ?_⟩))
 (try simp only [Act.put, setIfInBounds_toArray, set_cons_zero, set_cons_succ])
 go_cut [29] (fun v29 wc => ∃ (kq : Nat) (x29_5 : Bool), v29 = .bool x29_5 ∧ Ax (l12_StepTorn.j0 kq l0 a1 a2 t137 x29_5 = some r) ∧ Ax (kq ≤ k) ∧ Ax (Below w.heap.size w wc))
 case first =>
  have H := HC6.out
  clear HC6
  by_cases c8 : t137 = true
  ·subst c8
   have H1 : (l12_StepTorn.j0 k l0 a1 a2 true (!t138)) = some r := by rw [if_pos rfl] at H; exact H
   clear H
   have H := H1
   clear H1
   have H' := Ax.mk H
   clear H
   go_wp2
   go_meet
   case rel => exact ⟨_, (!t138), (by first | rfl | (simp; done) | (simp [*]; done)), H', ⟨by first | omega | exact Nat.le_refl _⟩, ⟨bA⟩⟩
  ·replace c8 := Bool.eq_false_iff.mpr c8
   subst c8
   have H1 : (l12_StepTorn.j0 k l0 a1 a2 false true) = some r := by rw [if_neg (show ¬ (false = true) by decide)] at H; exact H
   clear H
   have H := H1
   clear H1
   have H' := Ax.mk H
   clear H
   go_wp2
   go_meet
   case rel => exact ⟨_, (true), (by first | rfl | (simp; done) | (simp [*]; done)), H', ⟨by first | omega | exact Nat.le_refl _⟩, ⟨bA⟩⟩
 case rest =>
  clear HC6
  try clear c1
  try clear c2
  try clear p2
  try clear c8
  obtain ⟨kq, x29_5, rfl, HA, HJ5, HB⟩ := hcut
  cases kq with
  | zero => exact absurd HA.out (by simp [l12_StepTorn.j0])
  | succ kj5 =>
   have H := HA.out
   clear HA
   simp only [l12_StepTorn.j0] at H
   by_cases c9 : x29_5 = true
   ·subst c9
    have H1 : (some t137) = some r := by rw [if_pos rfl] at H; exact H
    clear H
    have H := H1
    clear H1
    obtain rfl := Option.some.inj H
    go_wp2
    go_ret
    exact ⟨by first | rfl | (simp [errW_none, errW_some] <;> rfl) | (simp [*, errW_none, errW_some] <;> rfl), bA⟩
   ·replace c9 := Bool.eq_false_iff.mpr c9
    subst c9
    have H1 : (l12_StepTorn.l0 kj5 l0 a1 a2 (⟨#[]⟩ : ByteArray) ([] : List (S24)) ([] : List Int) 0) = some r := by rw [if_neg (show ¬ (false = true) by decide)] at H; exact H
    clear H
    have H := H1
    clear H1
    have H' := Ax.mk H
    clear H
    go_wp2
    go_loopg [9, 10, 11, 12] kj5 (fun kq v9 v10 v11 v12 w' => ∃ (x9_2 : ByteArray) (x10_2 : List (S24)) (x11_2 : List Int) (x12_2 : Int), v9 = .string x9_2 ∧ v12 = .int .i64 x12_2 ∧ Ax (l12_StepTorn.l0 kq l0 a1 a2 x9_2 x10_2 x11_2 x12_2 = some r) ∧ Ax (kq ≤ kj5) ∧ Ax (Kd.R k24 24 w' w.heap.size (fun _ => True) v10 x10_2) ∧ Ax (Kd.R (Kd.int .i64) 3 w' w.heap.size (fun _ => True) v11 x11_2) ∧ Ax (Below w.heap.size w w'))
    case atStart => exact ⟨((⟨#[]⟩ : ByteArray)), (([] : List (S24))), (([] : List Int)), (0), (by first | rfl | (simp; done) | (simp [*]; done)), (by first | rfl | (simp; done) | (simp [*]; done)), H', ⟨Nat.le_refl _⟩, ⟨by first | exact Kd.R_nil _ _ _ _ _ | exact Kd.N_nil _ _ _ _ _ | exact Kd.V_nil _ _ _ _ _ | exact Kd.Q_nil _ _ _ _ _ | exact Kd.S_nil _ _ _ _ _⟩, ⟨by first | exact Kd.R_nil _ _ _ _ _ | exact Kd.N_nil _ _ _ _ _ | exact Kd.V_nil _ _ _ _ _ | exact Kd.Q_nil _ _ _ _ _ | exact Kd.S_nil _ _ _ _ _⟩, ⟨bA⟩⟩
    case round =>
     clear H'
     try clear c1
     try clear c2
     try clear p2
     try clear c8
     try clear c9
     try clear p2
     obtain ⟨x9_2, x10_2, x11_2, x12_2, rfl, rfl, HA, HK2, HO_10, HO_11, HB⟩ := hrel
     cases gk with
     | zero => exact absurd HA.out (by simp [l12_StepTorn.l0])
     | succ k2 =>
      have H := HA.out
      clear HA
      simp only [l12_StepTorn.l0] at H
      by_cases c10 : x12_2 < (l0.length : Int)
      ·rw [if_pos c10] at H
       have c10b0 : decide (x12_2 < (l0.length : Int)) = true := decide_eq_true c10
       clear c10
       by_cases c11 : 0 ≤ x12_2
       ·rw [if_pos c11] at H
        have c11b0 : decide (0 ≤ x12_2) = true := decide_eq_true c11
        clear c11
        replace H := Option.bind_eq_some_iff.mp H
        obtain ⟨⟨t140, t141⟩, A120, H⟩ := H
        replace H : (if t141 = 0 then (if x9_2.size + t140.size ≤ 9223372036854775807 then (if x10_2.length < 2932031007402 then (if x11_2.length < 17592186044416 then (l12_StepTorn.l0 k2 l0 a1 a2 (x9_2 ++ t140) (x10_2 ++ [(⟨(rd_T24 l0 x12_2).f0, (rd_T24 l0 x12_2).f1, (rd_T24 l0 x12_2).f2, (rd_T24 l0 x12_2).f3, (rd_T24 l0 x12_2).f4⟩ : S24)]) (x11_2 ++ [((x9_2 ++ t140).size : Int)]) (wrap64 (x12_2 + 1))) else (none)) else (none)) else (none)) else (l12_StepTorn.l0 k2 l0 a1 a2 x9_2 x10_2 x11_2 (wrap64 (x12_2 + 1)))) = some r := H
        have A12 := Ax.mk A120
        clear A120
        by_cases c13 : t141 = 0
        ·rw [if_pos c13] at H
         have c13b0 : (t141 == 0) = true := beq_iff_eq.mpr c13
         have c13b1 : (t141 != 0) = false := bne_eq_false_iff_eq.mpr c13
         clear c13
         by_cases c14 : x9_2.size + t140.size ≤ 9223372036854775807
         ·rw [if_pos c14] at H
          have c14b0 := eq_true c14
          have c14b1 : decide (x9_2.size + t140.size ≤ 9223372036854775807) = true := decide_eq_true c14
          try have c14b2 : (9223372036854775807 < x9_2.size + t140.size) = False := eq_false (Nat.not_lt.2 c14)
          by_cases c15 : x10_2.length < 2932031007402
          ·rw [if_pos c15] at H
           have LMc15 := Ax.mk c15
           clear c15
           obtain ⟨y143, hy143⟩ : ∃ y_ : List (S24), y_ = (x10_2 ++ [(⟨(rd_T24 l0 x12_2).f0, (rd_T24 l0 x12_2).f1, (rd_T24 l0 x12_2).f2, (rd_T24 l0 x12_2).f3, (rd_T24 l0 x12_2).f4⟩ : S24)]) := ⟨_, rfl⟩
           replace H : (if x11_2.length < 17592186044416 then (l12_StepTorn.l0 k2 l0 a1 a2 (x9_2 ++ t140) y143 (x11_2 ++ [((x9_2 ++ t140).size : Int)]) (wrap64 (x12_2 + 1))) else (none)) = some r := by first | (rw [hy143]; with_reducible exact H) | (have H2_ := (Option.bind_some _ _).symm.trans H; rw [hy143]; with_reducible exact H2_) | (have H2_ := (Option.bind_some _ _).symm.trans H; with_reducible exact H2_) | with_reducible exact H | (rw [hy143]; exact H) | exact H
           have Ny143 := Ax.mk hy143
           clear hy143
           by_cases c16 : x11_2.length < 17592186044416
           ·rw [if_pos c16] at H
            have LMc16 := Ax.mk c16
            clear c16
            obtain ⟨y146, hy146⟩ : ∃ y_ : List Int, y_ = (x11_2 ++ [((x9_2 ++ t140).size : Int)]) := ⟨_, rfl⟩
            replace H : (l12_StepTorn.l0 k2 l0 a1 a2 (x9_2 ++ t140) y143 y146 (wrap64 (x12_2 + 1))) = some r := by first | (rw [hy146]; with_reducible exact H) | (have H2_ := (Option.bind_some _ _).symm.trans H; rw [hy146]; with_reducible exact H2_) | (have H2_ := (Option.bind_some _ _).symm.trans H; with_reducible exact H2_) | with_reducible exact H | (rw [hy146]; exact H) | exact H
            have Ny146 := Ax.mk (show y146 = (x11_2 ++ [((x9_2.size : Int) + (t140.size : Int))]) from hy146.trans (by rw [ByteArray.size_append, Int.natCast_add]))
            clear hy146
            have H' := Ax.mk H
            clear H
            have p139 : 0 ≤ (x12_2 : Int) := of_decide_eq_true (by first | (with_reducible assumption) | assumption)
            have q139 : x12_2 < (l0.length : Int) := of_decide_eq_true (by first | (with_reducible assumption) | assumption)
            obtain ⟨ad139, e139, hx139_0, hx139_1, hx139_2, hx139_3, hx139_4⟩ := at_T24 HR0.out x12_2 p139 q139
            cases e139
            replace hx139_0 := (HB.out.cell (World.block_lt_of_cell? w _ hx139_0)).trans hx139_0
            replace hx139_1 := (HB.out.cell (World.block_lt_of_cell? w _ hx139_1)).trans hx139_1
            replace hx139_2 := (HB.out.cell (World.block_lt_of_cell? w _ hx139_2)).trans hx139_2
            replace hx139_3 := (HB.out.cell (World.block_lt_of_cell? w _ hx139_3)).trans hx139_3
            replace hx139_4 := (HB.out.cell (World.block_lt_of_cell? w _ hx139_4)).trans hx139_4
            replace p139 := eq_true p139
            replace q139 := eq_true q139
            go_wp2_with (first | ((with_reducible refine gate_callee (f := 19) rfl ?_); refine goesL_ (some 42) rfl rfl Tryd.func19 (by kernel_rfl) rfl #[.agg #[.int .i64 ((rd_T24 l0 x12_2).f0), .int .i64 ((rd_T24 l0 x12_2).f1), .int .i64 ((rd_T24 l0 x12_2).f2), .int .u64 ((rd_T24 l0 x12_2).f3), .string ((rd_T24 l0 x12_2).f4)]] rfl (by (try simp only [List.map_toArray, List.map_cons, List.map_nil]); first | done | rfl | (simp only [List.length_drop, List.length_take]; rfl) | (rw [wrap_sum2 (by assumption)]; rfl)) ?_; (with_reducible refine (step_Put.calls k2 ((rd_T24 l0 x12_2).f0) ((rd_T24 l0 x12_2).f1) ((rd_T24 l0 x12_2).f2) ((rd_T24 l0 x12_2).f3) ((rd_T24 l0 x12_2).f4) t140 t141 _ A12.out (HT.below bA)).mono ?_); rintro e w17 ⟨rfl, hb⟩; refine ⟨_, rfl, ?_⟩; have n0_ := Ax.mk (Kd.R_below (by exact Kd.R_to HO_10.out) hb); have n1_ := Ax.mk (Kd.R_below (by exact Kd.R_to HO_11.out) hb); have n2_ := Ax.mk (bP bA hb); clear HO_10; clear HO_11; clear HB; have HO_10 := n0_; have HO_11 := n1_; have HB := n2_; clear n0_ n1_ n2_; (try clear hb); (try clear hb2); (try clear hk); (try clear hi); have p142 : 0 ≤ (x12_2 : Int) := of_decide_eq_true (by first | (with_reducible assumption) | assumption); have q142 : x12_2 < (l0.length : Int) := of_decide_eq_true (by first | (with_reducible assumption) | assumption); obtain ⟨ad142, e142, hx142_0, hx142_1, hx142_2, hx142_3, hx142_4⟩ := at_T24 HR0.out x12_2 p142 q142; obtain rfl : ad139 = ad142 := (by injection e142); replace hx142_0 := (HB.out.cell (World.block_lt_of_cell? w _ hx142_0)).trans hx142_0; replace hx142_1 := (HB.out.cell (World.block_lt_of_cell? w _ hx142_1)).trans hx142_1; replace hx142_2 := (HB.out.cell (World.block_lt_of_cell? w _ hx142_2)).trans hx142_2; replace hx142_3 := (HB.out.cell (World.block_lt_of_cell? w _ hx142_3)).trans hx142_3; replace hx142_4 := (HB.out.cell (World.block_lt_of_cell? w _ hx142_4)).trans hx142_4; replace p142 := eq_true p142; replace q142 := eq_true q142) | ((with_reducible refine gate_builtin (b := .append) (xs := #[.tmp 50, .tmp 55]) rfl ?_); at_builtin; refine Kd.R_append k24 (w0 := w) w.heap.size rfl (.tmp 50) (.tmp 55) 29 24 (.agg #[(.int .i64 0), (.int .i64 0), (.int .i64 0), (.int .u64 0), (.string ⟨#[]⟩)]) 48 rfl Tryd.underlying29 info24 rfl (by decide) (by omega) u10 x10_2 (⟨(rd_T24 l0 x12_2).f0, (rd_T24 l0 x12_2).f1, (rd_T24 l0 x12_2).f2, (rd_T24 l0 x12_2).f3, (rd_T24 l0 x12_2).f4⟩ : S24) [.int .i64 ((rd_T24 l0 x12_2).f0), .int .i64 ((rd_T24 l0 x12_2).f1), .int .i64 ((rd_T24 l0 x12_2).f2), .int .u64 ((rd_T24 l0 x12_2).f3), .string ((rd_T24 l0 x12_2).f4)] (fun _ => True) (fun _ => False) rfl rfl ?aP (fun _ hk => hk.elim) ?aF ?aO ?aB ?aS ?aL ?_; (case aP => exact k24_mkM _ _ _ (⟨(rd_T24 l0 x12_2).f0, (rd_T24 l0 x12_2).f1, (rd_T24 l0 x12_2).f2, (rd_T24 l0 x12_2).f3, (rd_T24 l0 x12_2).f4⟩ : S24)); (case aB => exact bA); (case aF => exact (fun _ _ => trivial)); (case aO => exact (by exact Kd.R_to HO_10.out)); (case aS => exact (bS bA)); (case aL => have := LMc15.out; omega); intro v144 w18 ho hb hg hat; rw [← Ny143.out] at ho; have n0_ := Ax.mk (Kd.R_over' (by exact Kd.R_to HO_11.out) (Kd.R_typed (by exact Kd.R_to HO_10.out)) (by decide) hg); have n1_ := Ax.mk (hb); have n2_ := Ax.mk (ho); clear HO_11; clear HB; clear HO_10; have HO_11 := n0_; have HB := n1_; have HO145 := n2_; clear n0_ n1_ n2_; clear ho hb hg hat) | ((with_reducible refine gate_builtin (b := .append) (xs := #[.tmp 57, .tmp 60]) rfl ?_); at_builtin; refine Kd.R_append (Kd.int .i64) (w0 := w) w.heap.size rfl (.tmp 57) (.tmp 60) 60 3 (.int .i64 0) 8 rfl Tryd.underlying60 info3 rfl (by decide) (by omega) u11 x11_2 ((x9_2.size : Int) + (t140.size : Int)) [.int .i64 ((x9_2.size : Int) + (t140.size : Int))] (fun _ => True) (fun _ => False) rfl rfl ?aP (fun _ hk => hk.elim) ?aF ?aO ?aB ?aS ?aL ?_; (case aP => exact rfl); (case aB => exact bA); (case aF => exact (fun _ _ => trivial)); (case aO => exact (by exact Kd.R_to HO_11.out)); (case aS => exact (bS bA)); (case aL => have := LMc16.out; omega); intro v147 w19 ho hb hg hat; rw [← Ny146.out] at ho; have n0_ := Ax.mk (Kd.R_over' (by exact Kd.R_to HO145.out) (Kd.R_typed (by exact Kd.R_to HO_11.out)) (by decide) hg); have n1_ := Ax.mk (hb); have n2_ := Ax.mk (ho); clear HO145; clear HB; clear HO_11; have HO145 := n0_; have HB := n1_; have HO148 := n2_; clear n0_ n1_ n2_; clear ho hb hg hat))
            go_roundg k2
            case measure => have := HJ5.out; have := HK2.out; omega
            case rel => exact ⟨(x9_2 ++ t140), (y143), (y146), (wrap64 (x12_2 + 1)), (by first | rfl | (simp; done) | (simp [*]; done)), (by first | rfl | (simp; done) | (simp [*]; done)), H', ⟨by have := HJ5.out; have := HK2.out; omega⟩, ⟨by apply Kd.R_to; exact HO145.out⟩, ⟨by apply Kd.R_to; exact HO148.out⟩, ⟨bA⟩⟩
           ·rw [if_neg c16] at H
            exact absurd H (by simp)
          ·rw [if_neg c15] at H
           exact absurd H (by simp)
         ·rw [if_neg c14] at H
          exact absurd H (by simp)
        ·rw [if_neg c13] at H
         have c13b0 : (t141 == 0) = false := beq_eq_false_iff_ne.mpr c13
         have c13b1 : (t141 != 0) = true := bne_iff_ne.mpr c13
         have H' := Ax.mk H
         clear H
         have p139 : 0 ≤ (x12_2 : Int) := of_decide_eq_true (by first | (with_reducible assumption) | assumption)
         have q139 : x12_2 < (l0.length : Int) := of_decide_eq_true (by first | (with_reducible assumption) | assumption)
         obtain ⟨ad139, e139, hx139_0, hx139_1, hx139_2, hx139_3, hx139_4⟩ := at_T24 HR0.out x12_2 p139 q139
         cases e139
         replace hx139_0 := (HB.out.cell (World.block_lt_of_cell? w _ hx139_0)).trans hx139_0
         replace hx139_1 := (HB.out.cell (World.block_lt_of_cell? w _ hx139_1)).trans hx139_1
         replace hx139_2 := (HB.out.cell (World.block_lt_of_cell? w _ hx139_2)).trans hx139_2
         replace hx139_3 := (HB.out.cell (World.block_lt_of_cell? w _ hx139_3)).trans hx139_3
         replace hx139_4 := (HB.out.cell (World.block_lt_of_cell? w _ hx139_4)).trans hx139_4
         replace p139 := eq_true p139
         replace q139 := eq_true q139
         go_wp2_with (first | ((with_reducible refine gate_callee (f := 19) rfl ?_); refine goesL_ (some 42) rfl rfl Tryd.func19 (by kernel_rfl) rfl #[.agg #[.int .i64 ((rd_T24 l0 x12_2).f0), .int .i64 ((rd_T24 l0 x12_2).f1), .int .i64 ((rd_T24 l0 x12_2).f2), .int .u64 ((rd_T24 l0 x12_2).f3), .string ((rd_T24 l0 x12_2).f4)]] rfl (by (try simp only [List.map_toArray, List.map_cons, List.map_nil]); first | done | rfl | (simp only [List.length_drop, List.length_take]; rfl) | (rw [wrap_sum2 (by assumption)]; rfl)) ?_; (with_reducible refine (step_Put.calls k2 ((rd_T24 l0 x12_2).f0) ((rd_T24 l0 x12_2).f1) ((rd_T24 l0 x12_2).f2) ((rd_T24 l0 x12_2).f3) ((rd_T24 l0 x12_2).f4) t140 t141 _ A12.out (HT.below bA)).mono ?_); rintro e w20 ⟨rfl, hb⟩; refine ⟨_, rfl, ?_⟩; have n0_ := Ax.mk (Kd.R_below (by exact Kd.R_to HO_10.out) hb); have n1_ := Ax.mk (Kd.R_below (by exact Kd.R_to HO_11.out) hb); have n2_ := Ax.mk (bP bA hb); clear HO_10; clear HO_11; clear HB; have HO_10 := n0_; have HO_11 := n1_; have HB := n2_; clear n0_ n1_ n2_; (try clear hb); (try clear hb2); (try clear hk); (try clear hi)))
         go_roundg k2
         case measure => have := HJ5.out; have := HK2.out; omega
         case rel => exact ⟨(x9_2), (x10_2), (x11_2), (wrap64 (x12_2 + 1)), (by first | rfl | (simp; done) | (simp [*]; done)), (by first | rfl | (simp; done) | (simp [*]; done)), H', ⟨by have := HJ5.out; have := HK2.out; omega⟩, ⟨by apply Kd.R_to; exact HO_10.out⟩, ⟨by apply Kd.R_to; exact HO_11.out⟩, ⟨bA⟩⟩
       ·rw [if_neg c11] at H
        exact absurd H (by simp)
      ·rw [if_neg c10] at H
       have c10b0 : decide (x12_2 < (l0.length : Int)) = false := decide_eq_false c10
       clear c10
       obtain ⟨ji21, hji21⟩ : ∃ j_ : Int, (mn a1 (x9_2.size : Int)) = j_ := ⟨_, rfl⟩
       replace H : (l12_StepTorn.l1 k2 (mx 0 (ji21)) a2 x9_2 x10_2 x11_2 0 0) = some r := by first | (rw [hji21] at H; exact H) | (simp only [hji21] at H ⊢; exact H)
       have hji21_ : (if (x9_2.size : Int) < a1 then (x9_2.size : Int) else a1) = ji21 := hji21
       obtain ⟨ji22, hji22⟩ : ∃ j_ : Int, (mx 0 (ji21)) = j_ := ⟨_, rfl⟩
       replace H : (l12_StepTorn.l1 k2 ji22 a2 x9_2 x10_2 x11_2 0 0) = some r := by first | (rw [hji22] at H; exact H) | (simp only [hji22] at H ⊢; exact H)
       have hji22_ : (if 0 < (ji21) then (ji21) else 0) = ji22 := hji22
       have HC23 := Ax.mk H
       clear H
       go_upto_block 2 with (fail)
       go_cut [15, 16] (fun v15 v16 wc => ∃ (kq : Nat) (x15_22 : Int) (x16_22 : Int), v15 = .int .i64 x15_22 ∧ v16 = .int .i64 x16_22 ∧ Ax (l12_StepTorn.j3 kq ji22 a2 x9_2 x10_2 x11_2 x15_22 x16_22 = some r) ∧ Ax (kq ≤ k2) ∧ Ax (Kd.R k24 24 wc w.heap.size (fun _ => True) u10 x10_2) ∧ Ax (Kd.R (Kd.int .i64) 3 wc w.heap.size (fun _ => True) u11 x11_2) ∧ Ax (Below w.heap.size w wc))
       case first =>
        have H := HC23.out
        clear HC23
        have H' := Ax.mk H
        clear H
        go_wp2
        go_loopg [15, 16] k2 (fun kq v15 v16 w' => ∃ (x15_3 : Int) (x16_3 : Int), v15 = .int .i64 x15_3 ∧ v16 = .int .i64 x16_3 ∧ Ax (l12_StepTorn.l1 kq ji22 a2 x9_2 x10_2 x11_2 x15_3 x16_3 = some r) ∧ Ax (kq ≤ k2) ∧ Ax (Kd.R k24 24 w' w.heap.size (fun _ => True) u10 x10_2) ∧ Ax (Kd.R (Kd.int .i64) 3 w' w.heap.size (fun _ => True) u11 x11_2) ∧ Ax (Below w.heap.size w w'))
        case atStart => exact ⟨(0), (0), (by first | rfl | (simp; done) | (simp [*]; done)), (by first | rfl | (simp; done) | (simp [*]; done)), H', ⟨Nat.le_refl _⟩, ⟨by apply Kd.R_to; exact HO_10.out⟩, ⟨by apply Kd.R_to; exact HO_11.out⟩, ⟨bA⟩⟩
        case round =>
         clear H'
         try clear c1
         try clear p1
         try clear q1
         try clear hx1
         try clear c2
         try clear p2
         try clear p6
         try clear c8
         try clear c9
         try clear c10
         try clear c10b0
         try clear c11
         try clear c11b0
         try clear c13
         try clear c13b0
         try clear c13b1
         try clear p13
         try clear q13
         try clear hx13
         try clear c14
         try clear c14b0
         try clear c14b1
         try clear c14b2
         try clear p14
         try clear q14
         try clear hx14
         try clear c15
         try clear c16
         try clear c17
         try clear c19
         try clear c23
         try clear hx139_0
         try clear hx139_1
         try clear hx139_2
         try clear hx139_3
         try clear hx139_4
         try clear hx142_0
         try clear hx142_1
         try clear hx142_2
         try clear hx142_3
         try clear hx142_4
         try clear p139
         try clear p142
         try clear p2
         try clear q139
         try clear q142
         obtain ⟨x15_3, x16_3, rfl, rfl, HA, HK3, HO_10, HO_11, HB⟩ := hrel
         cases gk with
         | zero => exact absurd HA.out (by simp [l12_StepTorn.l1])
         | succ k3 =>
          have H := HA.out
          clear HA
          simp only [l12_StepTorn.l1] at H
          by_cases c24 : x15_3 < (x10_2.length : Int)
          ·rw [if_pos c24] at H
           have c24b0 : decide (x15_3 < (x10_2.length : Int)) = true := decide_eq_true c24
           clear c24
           (first | rw [c24b0] | (simp only [i64_w, i32_w]; rw [c24b0]) | skip)
           by_cases c25 : 0 ≤ x15_3
           ·rw [if_pos c25] at H
            have c25b0 : decide (0 ≤ x15_3) = true := decide_eq_true c25
            clear c25
            by_cases c26 : x15_3 < (x11_2.length : Int)
            ·rw [if_pos c26] at H
             have c26b0 : decide (x15_3 < (x11_2.length : Int)) = true := decide_eq_true c26
             clear c26
             by_cases c27 : (rd x11_2 x15_3) ≤ ji22
             ·rw [if_pos c27] at H
              have c27b0 : decide ((rd x11_2 x15_3) ≤ ji22) = true := decide_eq_true c27
              clear c27
              have H' := Ax.mk H
              clear H
              obtain ⟨Ao28, co28, eo28⟩ := Kd.R_slice HO_10.out
              subst eo28
              obtain ⟨Ao29, co29, eo29⟩ := Kd.R_slice HO_11.out
              subst eo29
              have p149 : 0 ≤ (x15_3 : Int) := of_decide_eq_true (by first | (with_reducible assumption) | assumption)
              have q149 : x15_3 < (x11_2.length : Int) := of_decide_eq_true (by first | (with_reducible assumption) | assumption)
              obtain ⟨ad149, e149, hx149_0⟩ := Kd.at_int (Kd.R_reads' HO_11.out).2.2 x15_3 p149 q149
              cases e149
              replace p149 := eq_true p149
              replace q149 := eq_true q149
              have p150 : 0 ≤ (x15_3 : Int) := of_decide_eq_true (by first | (with_reducible assumption) | assumption)
              have q150 : x15_3 < (x11_2.length : Int) := of_decide_eq_true (by first | (with_reducible assumption) | assumption)
              obtain ⟨ad150, e150, hx150_0⟩ := Kd.at_int (Kd.R_reads' HO_11.out).2.2 x15_3 p150 q150
              obtain rfl : ad149 = ad150 := (by injection e150)
              replace p150 := eq_true p150
              replace q150 := eq_true q150
              go_wp2
              go_roundg k3
              case measure => have := HJ5.out; have := HK2.out; have := HK3.out; omega
              case rel => exact ⟨(wrap64 (x15_3 + 1)), (rd x11_2 x15_3), (by first | rfl | (simp; done) | (simp [*]; done)), (by first | rfl | (simp; done) | (simp [*]; done)), H', ⟨by have := HJ5.out; have := HK2.out; have := HK3.out; omega⟩, ⟨by apply Kd.R_to; exact HO_10.out⟩, ⟨by apply Kd.R_to; exact HO_11.out⟩, ⟨bA⟩⟩
             ·rw [if_neg c27] at H
              have c27b0 : decide ((rd x11_2 x15_3) ≤ ji22) = false := decide_eq_false c27
              clear c27
              have H' := Ax.mk H
              clear H
              obtain ⟨Ao30, co30, eo30⟩ := Kd.R_slice HO_10.out
              subst eo30
              obtain ⟨Ao31, co31, eo31⟩ := Kd.R_slice HO_11.out
              subst eo31
              have p149 : 0 ≤ (x15_3 : Int) := of_decide_eq_true (by first | (with_reducible assumption) | assumption)
              have q149 : x15_3 < (x11_2.length : Int) := of_decide_eq_true (by first | (with_reducible assumption) | assumption)
              obtain ⟨ad149, e149, hx149_0⟩ := Kd.at_int (Kd.R_reads' HO_11.out).2.2 x15_3 p149 q149
              cases e149
              replace p149 := eq_true p149
              replace q149 := eq_true q149
              go_wp2
              go_meet
              case rel => exact ⟨_, (x15_3), (x16_3), (by first | rfl | (simp; done) | (simp [*]; done)), (by first | rfl | (simp; done) | (simp [*]; done)), H', ⟨by have := HJ5.out; have := HK2.out; have := HK3.out; first | omega | exact Nat.le_refl _⟩, ⟨by apply Kd.R_to; exact HO_10.out⟩, ⟨by apply Kd.R_to; exact HO_11.out⟩, ⟨bA⟩⟩
            ·rw [if_neg c26] at H
             exact absurd H (by simp)
           ·rw [if_neg c25] at H
            exact absurd H (by simp)
          ·rw [if_neg c24] at H
           have c24b0 : decide (x15_3 < (x10_2.length : Int)) = false := decide_eq_false c24
           clear c24
           (first | rw [c24b0] | (simp only [i64_w, i32_w]; rw [c24b0]) | skip)
           have H' := Ax.mk H
           clear H
           obtain ⟨Ao32, co32, eo32⟩ := Kd.R_slice HO_10.out
           subst eo32
           go_wp2
           go_meet
           case rel => exact ⟨_, (x15_3), (x16_3), (by first | rfl | (simp; done) | (simp [*]; done)), (by first | rfl | (simp; done) | (simp [*]; done)), H', ⟨by have := HJ5.out; have := HK2.out; have := HK3.out; first | omega | exact Nat.le_refl _⟩, ⟨by apply Kd.R_to; exact HO_10.out⟩, ⟨by apply Kd.R_to; exact HO_11.out⟩, ⟨bA⟩⟩
       case rest =>
        clear HC23
        try clear c1
        try clear p1
        try clear q1
        try clear hx1
        try clear c2
        try clear p2
        try clear p6
        try clear c8
        try clear c9
        try clear c10
        try clear c10b0
        try clear c11
        try clear c11b0
        try clear c13
        try clear c13b0
        try clear c13b1
        try clear p13
        try clear q13
        try clear hx13
        try clear c14
        try clear c14b0
        try clear c14b1
        try clear c14b2
        try clear p14
        try clear q14
        try clear hx14
        try clear c15
        try clear p15
        try clear q15
        try clear hx15
        try clear c16
        try clear c17
        try clear c19
        try clear c23
        try clear c24
        try clear c24b0
        try clear c25
        try clear c25b0
        try clear c26
        try clear c26b0
        try clear c27
        try clear c27b0
        try clear hx139_0
        try clear hx139_1
        try clear hx139_2
        try clear hx139_3
        try clear hx139_4
        try clear hx142_0
        try clear hx142_1
        try clear hx142_2
        try clear hx142_3
        try clear hx142_4
        try clear hx149_0
        try clear hx150_0
        try clear p1
        try clear p13
        try clear p139
        try clear p14
        try clear p142
        try clear p149
        try clear p150
        try clear p2
        try clear p6
        try clear q1
        try clear q13
        try clear q139
        try clear q14
        try clear q142
        try clear q149
        try clear q150
        obtain ⟨kq, x15_22, x16_22, rfl, rfl, HA, HJ22, HO_10, HO_11, HB⟩ := hcut
        cases kq with
        | zero => exact absurd HA.out (by simp [l12_StepTorn.j3])
        | succ kj22 =>
         have H := HA.out
         clear HA
         simp only [l12_StepTorn.j3] at H
         by_cases c33 : 0 ≤ ji22
         ·rw [if_pos c33] at H
          have c33b0 := eq_true c33
          have c33b1 : decide (0 ≤ ji22) = true := decide_eq_true c33
          clear c33
          by_cases c34 : ji22 ≤ (x9_2.size : Int)
          ·rw [if_pos c34] at H
           have c34b0 := eq_true c34
           have c34b1 : decide (ji22 ≤ (x9_2.size : Int)) = true := decide_eq_true c34
           clear c34
           replace H := Option.bind_eq_some_iff.mp H
           obtain ⟨⟨t151, t152⟩, A350, H⟩ := H
           replace H : (if 0 ≤ x15_22 then (if x15_22 ≤ (x10_2.length : Int) then ((l12_steps.f kj22 (x10_2.take (x15_22 : Int).toNat)).bind fun t159 => ((l12_sameSteps.f kj22 t151 t159).bind fun t162 => (if t162 = true then (l12_StepTorn.j4 kj22 a2 x9_2 x10_2 x11_2 x15_22 x16_22 (t152 != x16_22)) else (l12_StepTorn.j4 kj22 a2 x9_2 x10_2 x11_2 x15_22 x16_22 true)))) else (none)) else (none)) = some r := H
           have A35 := Ax.mk A350
           clear A350
           have HC36 := Ax.mk H
           clear H
           go_upto_region 23 with (first | ((with_reducible refine gate_callee (f := 29) rfl ?_); refine goesL_ (some 89) rfl rfl Tryd.func29 (by kernel_rfl) rfl #[.string (x9_2.extract 0 (ji22 : Int).toNat)] rfl (by (try simp only [List.map_toArray, List.map_cons, List.map_nil]); first | done | (simp only [hji22]; rfl) | rfl | (simp only [List.length_drop, List.length_take]; rfl) | (rw [wrap_sum2 (by assumption)]; rfl)) ?_; (with_reducible refine (step_Scan.calls kj22 (x9_2.extract 0 (ji22 : Int).toNat) t151 t152 _ A35.out (HT.below bA)).mono ?_); rintro e w37 ⟨v153, rfl, ho0, hb⟩; refine ⟨_, rfl, ?_⟩; have n0_ := Ax.mk (Kd.R_elder' (by exact Kd.R_to HO_10.out) (Kd.R_base ho0) hb); have n1_ := Ax.mk (Kd.R_below (by exact Kd.R_to HO_11.out) hb); have n2_ := Ax.mk (Kd.R_lower (Kd.R_new' ho0 (Kd.R_lt (by exact Kd.R_to HO_10.out))) (bS bA)); have n3_ := Ax.mk (bP bA hb); clear HO_10; clear HO_11; clear HB; have HO_10 := n0_; have HO_11 := n1_; have HO154 := n2_; have HB := n3_; clear n0_ n1_ n2_ n3_; (try clear hb); (try clear hb2); (try clear hk); (try clear hi); (try clear ho0)))
           (try simp only [Act.put, setIfInBounds_toArray, set_cons_zero, set_cons_succ])
           go_cut [103] (fun v103 wc => ∃ (kq : Nat) (x103_35 : Bool), v103 = .bool x103_35 ∧ Ax (l12_StepTorn.j4 kq a2 x9_2 x10_2 x11_2 x15_22 x16_22 x103_35 = some r) ∧ Ax (kq ≤ kj22) ∧ Ax (Kd.R k24 24 wc w.heap.size (fun _ => True) u10 x10_2) ∧ Ax (Kd.R (Kd.int .i64) 3 wc w.heap.size (fun _ => True) u11 x11_2) ∧ Ax (Below w.heap.size w wc))
           case first =>
            have H := HC36.out
            clear HC36
            by_cases c38 : 0 ≤ x15_22
            ·rw [if_pos c38] at H
             have c38b0 := eq_true c38
             have c38b1 : decide (0 ≤ x15_22) = true := decide_eq_true c38
             clear c38
             by_cases c39 : x15_22 ≤ (x10_2.length : Int)
             ·rw [if_pos c39] at H
              have c39b0 := eq_true c39
              have c39b1 : decide (x15_22 ≤ (x10_2.length : Int)) = true := decide_eq_true c39
              clear c39
              obtain ⟨y155, hy155⟩ : ∃ y_ : List (S24), y_ = (x10_2.take (x15_22 : Int).toNat) := ⟨_, rfl⟩
              replace H : ((l12_steps.f kj22 y155).bind fun t159 => ((l12_sameSteps.f kj22 t151 t159).bind fun t162 => (if t162 = true then (l12_StepTorn.j4 kj22 a2 x9_2 x10_2 x11_2 x15_22 x16_22 (t152 != x16_22)) else (l12_StepTorn.j4 kj22 a2 x9_2 x10_2 x11_2 x15_22 x16_22 true)))) = some r := by first | (rw [hy155]; with_reducible exact H) | (have H2_ := (Option.bind_some _ _).symm.trans H; rw [hy155]; with_reducible exact H2_) | (have H2_ := (Option.bind_some _ _).symm.trans H; with_reducible exact H2_) | with_reducible exact H | (rw [hy155]; exact H) | exact H
              have Ny155 := Ax.mk hy155
              clear hy155
              replace H := Option.bind_eq_some_iff.mp H
              obtain ⟨t159, A400, H⟩ := H
              replace H : ((l12_sameSteps.f kj22 t151 t159).bind fun t162 => (if t162 = true then (l12_StepTorn.j4 kj22 a2 x9_2 x10_2 x11_2 x15_22 x16_22 (t152 != x16_22)) else (l12_StepTorn.j4 kj22 a2 x9_2 x10_2 x11_2 x15_22 x16_22 true))) = some r := H
              have A40 := Ax.mk A400
              clear A400
              replace H := Option.bind_eq_some_iff.mp H
              obtain ⟨t162, A410, H⟩ := H
              replace H : (if t162 = true then (l12_StepTorn.j4 kj22 a2 x9_2 x10_2 x11_2 x15_22 x16_22 (t152 != x16_22)) else (l12_StepTorn.j4 kj22 a2 x9_2 x10_2 x11_2 x15_22 x16_22 true)) = some r := H
              have A41 := Ax.mk A410
              clear A410
              by_cases c42 : t162 = true
              ·subst c42
               have H1 : (l12_StepTorn.j4 kj22 a2 x9_2 x10_2 x11_2 x15_22 x16_22 (t152 != x16_22)) = some r := by rw [if_pos rfl] at H; exact H
               clear H
               have H := H1
               clear H1
               have H' := Ax.mk H
               clear H
               obtain ⟨Ao44, co44, eo44⟩ := Kd.R_slice HO_10.out
               subst eo44
               have q43 : (x15_22 : Int) ≤ ((x10_2.length : Int) : Int) := of_decide_eq_true (by first | (with_reducible assumption) | assumption)
               obtain ⟨i043, hi043, _, hsz43, _⟩ := info_parts info24
               have hroom43 : x10_2.length ≤ co44 := (Kd.R_reads' HO_10.out).2.1
               have hC43 : Kd.C k24 _ Ao44 x10_2.length x10_2 := (Kd.R_reads' HO_10.out).2.2
               have hcut43 := cut_to (P := Tryd.prog) 29 24 .i64 Tryd.underlying29 hi043 Ao44 x10_2.length co44 x15_22 (of_decide_eq_true (by first | (with_reducible assumption) | assumption)) q43 hroom43
               have hr43 := Kd.C_take (m := (x15_22 : Int).toNat) hC43 (by omega)
               have hy43 : y155.length = (x15_22 : Int).toNat := (by rw [Ny155.out, List.length_take]; omega)
               rw [← Ny155.out] at hr43
               rw [← hy43] at hcut43
               have HR158 := Ax.mk hr43
               have HC158 := Ax.mk (show y155.length ≤ co44 from by omega)
               clear hr43 hC43 hroom43 hi043 hsz43
               have KY43 := Ax.mk hy43
               clear hy43
               have KL43 := Ax.mk (show (x15_22 : Int).toNat ≤ x10_2.length from by omega)
               replace q43 := eq_true q43
               go_wp2_with (first | ((with_reducible refine gate_callee (f := 18) rfl ?_); refine goesL_ (some 96) rfl rfl Tryd.func18 (by kernel_rfl) rfl #[.slice Ao44 y155.length co44] rfl (by (try simp only [List.map_toArray, List.map_cons, List.map_nil]); first | done | rfl | (simp only [List.length_drop, List.length_take]; rfl) | (rw [wrap_sum2 (by assumption)]; rfl)) ?_; (with_reducible refine (l12_steps.calls kj22 _ _ y155 t159 _ ?side1 ?side2 A40.out).mono ?_); (case side1 => repeat (first | exact (by repeat (first | (with_reducible exact HR158.out) | (with_reducible refine Kd.C_alloc ?_ _) | (with_reducible refine Kd.C_drewN ?_ _) | (with_reducible refine Kd.C_drew ?_) | exact HR158.out)) | (with_reducible refine Kd.C_alloc ?_ _) | (with_reducible refine Kd.C_drewN ?_ _) | (with_reducible refine Kd.C_drew ?_))); (case side2 => exact HC158.out); rintro e w45 ⟨v160, rfl, ho0, hb⟩; refine ⟨_, rfl, ?_⟩; have n0_ := Ax.mk (Kd.R_below (by exact Kd.R_to HO_10.out) hb); have n1_ := Ax.mk (Kd.R_below (by exact Kd.R_to HO_11.out) hb); have n2_ := Ax.mk (Kd.R_below (by exact Kd.R_to HO154.out) hb); have n3_ := Ax.mk (Kd.R_lower ho0 (bS bA)); have n4_ := Ax.mk (Kd.C_below (by repeat (first | (with_reducible exact HR158.out) | (with_reducible refine Kd.C_alloc ?_ _) | (with_reducible refine Kd.C_drewN ?_ _) | (with_reducible refine Kd.C_drew ?_) | exact HR158.out)) hb); have n5_ := Ax.mk (bP bA hb); clear HO_10; clear HO_11; clear HO154; clear HR158; clear HB; have HO_10 := n0_; have HO_11 := n1_; have HO154 := n2_; have HO161 := n3_; have HR158 := n4_; have HB := n5_; clear n0_ n1_ n2_ n3_ n4_ n5_; (try clear hb); (try clear hb2); (try clear hk); (try clear hi); (try clear ho0); obtain ⟨Ao46, co46, eo46⟩ := Kd.R_slice HO154.out; subst eo46; obtain ⟨Ao47, co47, eo47⟩ := Kd.R_slice HO161.out; subst eo47) | ((with_reducible refine gate_callee (f := 26) rfl ?_); refine goesL_ (some 97) rfl rfl Tryd.func26 (by kernel_rfl) rfl #[.slice Ao46 t151.length co46, .slice Ao47 t159.length co47] rfl (by (try simp only [List.map_toArray, List.map_cons, List.map_nil]); first | done | rfl | (simp only [List.length_drop, List.length_take]; rfl) | (rw [wrap_sum2 (by assumption)]; rfl)) ?_; (with_reducible refine (l12_sameSteps.calls kj22 _ _ t151 _ _ t159 true _ ?side1 ?side2 ?side3 ?side4 A41.out).mono ?_); (case side1 => repeat (first | exact (Kd.R_reads' HO154.out).2.2 | (with_reducible refine Kd.C_alloc ?_ _) | (with_reducible refine Kd.C_drewN ?_ _) | (with_reducible refine Kd.C_drew ?_))); (case side2 => exact (Kd.R_reads' HO154.out).2.1); (case side3 => repeat (first | exact (Kd.R_reads' HO161.out).2.2 | (with_reducible refine Kd.C_alloc ?_ _) | (with_reducible refine Kd.C_drewN ?_ _) | (with_reducible refine Kd.C_drew ?_))); (case side4 => exact (Kd.R_reads' HO161.out).2.1); rintro e w48 ⟨rfl, hb⟩; refine ⟨_, rfl, ?_⟩; have n0_ := Ax.mk (Kd.R_below (by exact Kd.R_to HO_10.out) hb); have n1_ := Ax.mk (Kd.R_below (by exact Kd.R_to HO_11.out) hb); have n2_ := Ax.mk (Kd.R_below (by exact Kd.R_to HO154.out) hb); have n3_ := Ax.mk (Kd.R_below (by exact Kd.R_to HO161.out) hb); have n4_ := Ax.mk (Kd.C_below (by repeat (first | (with_reducible exact HR158.out) | (with_reducible refine Kd.C_alloc ?_ _) | (with_reducible refine Kd.C_drewN ?_ _) | (with_reducible refine Kd.C_drew ?_) | exact HR158.out)) hb); have n5_ := Ax.mk (bP bA hb); clear HO_10; clear HO_11; clear HO154; clear HO161; clear HR158; clear HB; have HO_10 := n0_; have HO_11 := n1_; have HO154 := n2_; have HO161 := n3_; have HR158 := n4_; have HB := n5_; clear n0_ n1_ n2_ n3_ n4_ n5_; (try clear hb); (try clear hb2); (try clear hk); (try clear hi)))
               go_meet
               case rel => exact ⟨_, ((t152 != x16_22)), (by first | rfl | (simp; done) | (simp [*]; done)), H', ⟨by have := HJ5.out; have := HK2.out; have := HJ22.out; first | omega | exact Nat.le_refl _⟩, ⟨by apply Kd.R_to; exact Kd.R_mono HO_10.out (fun _ hk => trivial)⟩, ⟨by apply Kd.R_to; exact HO_11.out⟩, ⟨bA⟩⟩
              ·replace c42 := Bool.eq_false_iff.mpr c42
               subst c42
               have H1 : (l12_StepTorn.j4 kj22 a2 x9_2 x10_2 x11_2 x15_22 x16_22 true) = some r := by rw [if_neg (show ¬ (false = true) by decide)] at H; exact H
               clear H
               have H := H1
               clear H1
               have H' := Ax.mk H
               clear H
               obtain ⟨Ao50, co50, eo50⟩ := Kd.R_slice HO_10.out
               subst eo50
               have q49 : (x15_22 : Int) ≤ ((x10_2.length : Int) : Int) := of_decide_eq_true (by first | (with_reducible assumption) | assumption)
               obtain ⟨i049, hi049, _, hsz49, _⟩ := info_parts info24
               have hroom49 : x10_2.length ≤ co50 := (Kd.R_reads' HO_10.out).2.1
               have hC49 : Kd.C k24 _ Ao50 x10_2.length x10_2 := (Kd.R_reads' HO_10.out).2.2
               have hcut49 := cut_to (P := Tryd.prog) 29 24 .i64 Tryd.underlying29 hi049 Ao50 x10_2.length co50 x15_22 (of_decide_eq_true (by first | (with_reducible assumption) | assumption)) q49 hroom49
               have hr49 := Kd.C_take (m := (x15_22 : Int).toNat) hC49 (by omega)
               have hy49 : y155.length = (x15_22 : Int).toNat := (by rw [Ny155.out, List.length_take]; omega)
               rw [← Ny155.out] at hr49
               rw [← hy49] at hcut49
               have HR158 := Ax.mk hr49
               have HC158 := Ax.mk (show y155.length ≤ co50 from by omega)
               clear hr49 hC49 hroom49 hi049 hsz49
               have KY49 := Ax.mk hy49
               clear hy49
               have KL49 := Ax.mk (show (x15_22 : Int).toNat ≤ x10_2.length from by omega)
               replace q49 := eq_true q49
               go_wp2_with (first | ((with_reducible refine gate_callee (f := 18) rfl ?_); refine goesL_ (some 96) rfl rfl Tryd.func18 (by kernel_rfl) rfl #[.slice Ao50 y155.length co50] rfl (by (try simp only [List.map_toArray, List.map_cons, List.map_nil]); first | done | rfl | (simp only [List.length_drop, List.length_take]; rfl) | (rw [wrap_sum2 (by assumption)]; rfl)) ?_; (with_reducible refine (l12_steps.calls kj22 _ _ y155 t159 _ ?side1 ?side2 A40.out).mono ?_); (case side1 => repeat (first | exact (by repeat (first | (with_reducible exact HR158.out) | (with_reducible refine Kd.C_alloc ?_ _) | (with_reducible refine Kd.C_drewN ?_ _) | (with_reducible refine Kd.C_drew ?_) | exact HR158.out)) | (with_reducible refine Kd.C_alloc ?_ _) | (with_reducible refine Kd.C_drewN ?_ _) | (with_reducible refine Kd.C_drew ?_))); (case side2 => exact HC158.out); rintro e w51 ⟨v160, rfl, ho0, hb⟩; refine ⟨_, rfl, ?_⟩; have n0_ := Ax.mk (Kd.R_below (by exact Kd.R_to HO_10.out) hb); have n1_ := Ax.mk (Kd.R_below (by exact Kd.R_to HO_11.out) hb); have n2_ := Ax.mk (Kd.R_below (by exact Kd.R_to HO154.out) hb); have n3_ := Ax.mk (Kd.R_lower ho0 (bS bA)); have n4_ := Ax.mk (Kd.C_below (by repeat (first | (with_reducible exact HR158.out) | (with_reducible refine Kd.C_alloc ?_ _) | (with_reducible refine Kd.C_drewN ?_ _) | (with_reducible refine Kd.C_drew ?_) | exact HR158.out)) hb); have n5_ := Ax.mk (bP bA hb); clear HO_10; clear HO_11; clear HO154; clear HR158; clear HB; have HO_10 := n0_; have HO_11 := n1_; have HO154 := n2_; have HO161 := n3_; have HR158 := n4_; have HB := n5_; clear n0_ n1_ n2_ n3_ n4_ n5_; (try clear hb); (try clear hb2); (try clear hk); (try clear hi); (try clear ho0); obtain ⟨Ao52, co52, eo52⟩ := Kd.R_slice HO154.out; subst eo52; obtain ⟨Ao53, co53, eo53⟩ := Kd.R_slice HO161.out; subst eo53) | ((with_reducible refine gate_callee (f := 26) rfl ?_); refine goesL_ (some 97) rfl rfl Tryd.func26 (by kernel_rfl) rfl #[.slice Ao52 t151.length co52, .slice Ao53 t159.length co53] rfl (by (try simp only [List.map_toArray, List.map_cons, List.map_nil]); first | done | rfl | (simp only [List.length_drop, List.length_take]; rfl) | (rw [wrap_sum2 (by assumption)]; rfl)) ?_; (with_reducible refine (l12_sameSteps.calls kj22 _ _ t151 _ _ t159 false _ ?side1 ?side2 ?side3 ?side4 A41.out).mono ?_); (case side1 => repeat (first | exact (Kd.R_reads' HO154.out).2.2 | (with_reducible refine Kd.C_alloc ?_ _) | (with_reducible refine Kd.C_drewN ?_ _) | (with_reducible refine Kd.C_drew ?_))); (case side2 => exact (Kd.R_reads' HO154.out).2.1); (case side3 => repeat (first | exact (Kd.R_reads' HO161.out).2.2 | (with_reducible refine Kd.C_alloc ?_ _) | (with_reducible refine Kd.C_drewN ?_ _) | (with_reducible refine Kd.C_drew ?_))); (case side4 => exact (Kd.R_reads' HO161.out).2.1); rintro e w54 ⟨rfl, hb⟩; refine ⟨_, rfl, ?_⟩; have n0_ := Ax.mk (Kd.R_below (by exact Kd.R_to HO_10.out) hb); have n1_ := Ax.mk (Kd.R_below (by exact Kd.R_to HO_11.out) hb); have n2_ := Ax.mk (Kd.R_below (by exact Kd.R_to HO154.out) hb); have n3_ := Ax.mk (Kd.R_below (by exact Kd.R_to HO161.out) hb); have n4_ := Ax.mk (Kd.C_below (by repeat (first | (with_reducible exact HR158.out) | (with_reducible refine Kd.C_alloc ?_ _) | (with_reducible refine Kd.C_drewN ?_ _) | (with_reducible refine Kd.C_drew ?_) | exact HR158.out)) hb); have n5_ := Ax.mk (bP bA hb); clear HO_10; clear HO_11; clear HO154; clear HO161; clear HR158; clear HB; have HO_10 := n0_; have HO_11 := n1_; have HO154 := n2_; have HO161 := n3_; have HR158 := n4_; have HB := n5_; clear n0_ n1_ n2_ n3_ n4_ n5_; (try clear hb); (try clear hb2); (try clear hk); (try clear hi)))
               go_meet
               case rel => exact ⟨_, (true), (by first | rfl | (simp; done) | (simp [*]; done)), H', ⟨by have := HJ5.out; have := HK2.out; have := HJ22.out; first | omega | exact Nat.le_refl _⟩, ⟨by apply Kd.R_to; exact Kd.R_mono HO_10.out (fun _ hk => trivial)⟩, ⟨by apply Kd.R_to; exact HO_11.out⟩, ⟨bA⟩⟩
             ·rw [if_neg c39] at H
              exact absurd H (by simp)
            ·rw [if_neg c38] at H
             exact absurd H (by simp)
           case rest =>
            clear HC36
            try clear c1
            try clear p1
            try clear q1
            try clear hx1
            try clear c2
            try clear p2
            try clear c3
            try clear c4
            try clear q4
            try clear p6
            try clear c8
            try clear c9
            try clear c10
            try clear c10b0
            try clear c11
            try clear c11b0
            try clear c13
            try clear c13b0
            try clear c13b1
            try clear p13
            try clear q13
            try clear hx13
            try clear c14
            try clear c14b0
            try clear c14b1
            try clear c14b2
            try clear p14
            try clear q14
            try clear hx14
            try clear c15
            try clear p15
            try clear q15
            try clear hx15
            try clear c16
            try clear c17
            try clear c18
            try clear c19
            try clear c23
            try clear c24
            try clear c24b0
            try clear c25
            try clear c25b0
            try clear c26
            try clear c26b0
            try clear c27
            try clear c27b0
            try clear c29
            try clear c33
            try clear c33b0
            try clear c33b1
            try clear c34
            try clear c34b0
            try clear c34b1
            try clear c38
            try clear c38b0
            try clear c38b1
            try clear c39
            try clear c39b0
            try clear c39b1
            try clear c42
            try clear q43
            try clear q49
            try clear hx139_0
            try clear hx139_1
            try clear hx139_2
            try clear hx139_3
            try clear hx139_4
            try clear hx142_0
            try clear hx142_1
            try clear hx142_2
            try clear hx142_3
            try clear hx142_4
            try clear hx149_0
            try clear hx150_0
            try clear p1
            try clear p13
            try clear p139
            try clear p14
            try clear p142
            try clear p149
            try clear p15
            try clear p150
            try clear p2
            try clear p6
            try clear q1
            try clear q13
            try clear q139
            try clear q14
            try clear q142
            try clear q149
            try clear q15
            try clear q150
            try clear q43
            try clear q49
            obtain ⟨kq, x103_35, rfl, HA, HJ35, HO_10, HO_11, HB⟩ := hcut
            cases kq with
            | zero => exact absurd HA.out (by simp [l12_StepTorn.j4])
            | succ kj35 =>
             have H := HA.out
             clear HA
             simp only [l12_StepTorn.j4] at H
             by_cases c55 : x103_35 = true
             ·subst c55
              have H1 : (none) = some r := by rw [if_pos rfl] at H; exact H
              clear H
              have H := H1
              clear H1
              exact absurd H (by simp)
             ·replace c55 := Bool.eq_false_iff.mpr c55
              subst c55
              have H1 : (if x15_22 = (x10_2.length : Int) then (l12_StepTorn.j5 kj35 a2 x9_2 x10_2 x15_22 x16_22 true) else (if a2 = 0 then (l12_StepTorn.j5 kj35 a2 x9_2 x10_2 x15_22 x16_22 true) else (if 0 ≤ x15_22 then (if x15_22 < (x11_2.length : Int) then (l12_StepTorn.j5 kj35 a2 x9_2 x10_2 x15_22 x16_22 (decide ((wrap64 ((rd x11_2 x15_22) - x16_22)) < 8))) else (none)) else (none)))) = some r := by rw [if_neg (show ¬ (false = true) by decide)] at H; exact H
              clear H
              have H := H1
              clear H1
              have HC56 := Ax.mk H
              clear H
              go_upto_region 25 with (fail)
              go_cut [120] (fun v120 wc => ∃ (kq : Nat) (x120_55 : Bool), v120 = .bool x120_55 ∧ Ax (l12_StepTorn.j5 kq a2 x9_2 x10_2 x15_22 x16_22 x120_55 = some r) ∧ Ax (kq ≤ kj35) ∧ Ax (Kd.R k24 24 wc w.heap.size (fun _ => True) u10 x10_2) ∧ Ax (Below w.heap.size w wc))
              case first =>
               have H := HC56.out
               clear HC56
               by_cases c57 : x15_22 = (x10_2.length : Int)
               ·rw [if_pos c57] at H
                have c57b0 : (x15_22 == (x10_2.length : Int)) = true := beq_iff_eq.mpr c57
                have c57b1 : (x15_22 != (x10_2.length : Int)) = false := bne_eq_false_iff_eq.mpr c57
                clear c57
                (first | rw [c57b0] | (simp only [i64_w, i32_w]; rw [c57b0]) | skip)
                have H' := Ax.mk H
                clear H
                obtain ⟨Ao58, co58, eo58⟩ := Kd.R_slice HO_10.out
                subst eo58
                go_wp2
                go_meet
                case rel => exact ⟨_, (true), (by first | rfl | (simp; done) | (simp [*]; done)), H', ⟨by have := HJ5.out; have := HK2.out; have := HJ22.out; have := HJ35.out; first | omega | exact Nat.le_refl _⟩, ⟨by apply Kd.R_to; exact HO_10.out⟩, ⟨bA⟩⟩
               ·rw [if_neg c57] at H
                have c57b0 : (x15_22 == (x10_2.length : Int)) = false := beq_eq_false_iff_ne.mpr c57
                have c57b1 : (x15_22 != (x10_2.length : Int)) = true := bne_iff_ne.mpr c57
                (first | rw [c57b0] | (simp only [i64_w, i32_w]; rw [c57b0]) | skip)
                by_cases c59 : a2 = 0
                ·rw [if_pos c59] at H
                 have c59b0 : (a2 == 0) = true := beq_iff_eq.mpr c59
                 have c59b1 : (a2 != 0) = false := bne_eq_false_iff_eq.mpr c59
                 clear c59
                 have H' := Ax.mk H
                 clear H
                 obtain ⟨Ao60, co60, eo60⟩ := Kd.R_slice HO_10.out
                 subst eo60
                 go_wp2
                 go_meet
                 case rel => exact ⟨_, (true), (by first | rfl | (simp; done) | (simp [*]; done)), H', ⟨by have := HJ5.out; have := HK2.out; have := HJ22.out; have := HJ35.out; first | omega | exact Nat.le_refl _⟩, ⟨by apply Kd.R_to; exact HO_10.out⟩, ⟨bA⟩⟩
                ·rw [if_neg c59] at H
                 have c59b0 : (a2 == 0) = false := beq_eq_false_iff_ne.mpr c59
                 have c59b1 : (a2 != 0) = true := bne_iff_ne.mpr c59
                 by_cases c61 : 0 ≤ x15_22
                 ·rw [if_pos c61] at H
                  have c61b0 : decide (0 ≤ x15_22) = true := decide_eq_true c61
                  clear c61
                  by_cases c62 : x15_22 < (x11_2.length : Int)
                  ·rw [if_pos c62] at H
                   have c62b0 : decide (x15_22 < (x11_2.length : Int)) = true := decide_eq_true c62
                   clear c62
                   have H' := Ax.mk H
                   clear H
                   obtain ⟨Ao63, co63, eo63⟩ := Kd.R_slice HO_10.out
                   subst eo63
                   obtain ⟨Ao64, co64, eo64⟩ := Kd.R_slice HO_11.out
                   subst eo64
                   have p163 : 0 ≤ (x15_22 : Int) := of_decide_eq_true (by first | (with_reducible assumption) | assumption)
                   have q163 : x15_22 < (x11_2.length : Int) := of_decide_eq_true (by first | (with_reducible assumption) | assumption)
                   obtain ⟨ad163, e163, hx163_0⟩ := Kd.at_int (Kd.R_reads' HO_11.out).2.2 x15_22 p163 q163
                   cases e163
                   replace p163 := eq_true p163
                   replace q163 := eq_true q163
                   go_wp2
                   go_meet
                   case rel => exact ⟨_, (decide ((wrap64 ((rd x11_2 x15_22) - x16_22)) < 8)), (by first | rfl | (simp; done) | (simp [*]; done)), H', ⟨by have := HJ5.out; have := HK2.out; have := HJ22.out; have := HJ35.out; first | omega | exact Nat.le_refl _⟩, ⟨by apply Kd.R_to; exact HO_10.out⟩, ⟨bA⟩⟩
                  ·rw [if_neg c62] at H
                   exact absurd H (by simp)
                 ·rw [if_neg c61] at H
                  exact absurd H (by simp)
              case rest =>
               clear HC56
               try clear c1
               try clear p1
               try clear q1
               try clear hx1
               try clear c2
               try clear p2
               try clear c3
               try clear c4
               try clear q4
               try clear c5
               try clear c6
               try clear p6
               try clear c8
               try clear c9
               try clear c10
               try clear c10b0
               try clear c11
               try clear c11b0
               try clear c13
               try clear c13b0
               try clear c13b1
               try clear p13
               try clear q13
               try clear hx13
               try clear c14
               try clear c14b0
               try clear c14b1
               try clear c14b2
               try clear p14
               try clear q14
               try clear hx14
               try clear c15
               try clear p15
               try clear q15
               try clear hx15
               try clear c16
               try clear p16
               try clear q16
               try clear hx16
               try clear c17
               try clear c18
               try clear c19
               try clear c23
               try clear c24
               try clear c24b0
               try clear c25
               try clear c25b0
               try clear c26
               try clear c26b0
               try clear c27
               try clear c27b0
               try clear c29
               try clear c33
               try clear c33b0
               try clear c33b1
               try clear c34
               try clear c34b0
               try clear c34b1
               try clear c38
               try clear c38b0
               try clear c38b1
               try clear c39
               try clear c39b0
               try clear c39b1
               try clear c42
               try clear q43
               try clear q49
               try clear c55
               try clear c57
               try clear c57b0
               try clear c57b1
               try clear c59
               try clear c59b0
               try clear c59b1
               try clear c61
               try clear c61b0
               try clear c62
               try clear c62b0
               try clear p64
               try clear hx139_0
               try clear hx139_1
               try clear hx139_2
               try clear hx139_3
               try clear hx139_4
               try clear hx142_0
               try clear hx142_1
               try clear hx142_2
               try clear hx142_3
               try clear hx142_4
               try clear hx149_0
               try clear hx150_0
               try clear hx163_0
               try clear p1
               try clear p13
               try clear p139
               try clear p14
               try clear p142
               try clear p149
               try clear p15
               try clear p150
               try clear p163
               try clear p2
               try clear p6
               try clear q1
               try clear q13
               try clear q139
               try clear q14
               try clear q142
               try clear q149
               try clear q15
               try clear q150
               try clear q163
               try clear q4
               try clear q43
               try clear q49
               obtain ⟨kq, x120_55, rfl, HA, HJ55, HO_10, HB⟩ := hcut
               cases kq with
               | zero => exact absurd HA.out (by simp [l12_StepTorn.j5])
               | succ kj55 =>
                have H := HA.out
                clear HA
                simp only [l12_StepTorn.j5] at H
                by_cases c65 : x120_55 = true
                ·subst c65
                 have H1 : (some true) = some r := by rw [if_pos rfl] at H; exact H
                 clear H
                 have H := H1
                 clear H1
                 obtain rfl := Option.some.inj H
                 go_wp2
                 go_ret
                 exact ⟨by first | rfl | (simp [errW_none, errW_some] <;> rfl) | (simp only [← hji21, ← hji22]; first | rfl | (simp [errW_none, errW_some] <;> rfl)) | (simp [*, errW_none, errW_some] <;> rfl), bA⟩
                ·replace c65 := Bool.eq_false_iff.mpr c65
                 subst c65
                 have H1 : (if x9_2.size ≤ 9223372036854775807 then (l12_StepTorn.l2 kj55 a2 x10_2 x15_22 x16_22 (bytesOf x9_2) 0) else (none)) = some r := by rw [if_neg (show ¬ (false = true) by decide)] at H; exact H
                 clear H
                 have H := H1
                 clear H1
                 by_cases c66 : x9_2.size ≤ 9223372036854775807
                 ·rw [if_pos c66] at H
                  have c66b0 := eq_true c66
                  have c66b1 : decide (x9_2.size ≤ 9223372036854775807) = true := decide_eq_true c66
                  try have c66b2 : (9223372036854775807 < x9_2.size) = False := eq_false (Nat.not_lt.2 c66)
                  clear c66
                  obtain ⟨y164, hy164⟩ : ∃ y_ : List Int, y_ = (bytesOf x9_2) := ⟨_, rfl⟩
                  replace H : (l12_StepTorn.l2 kj55 a2 x10_2 x15_22 x16_22 y164 0) = some r := by first | (rw [hy164]; with_reducible exact H) | (have H2_ := (Option.bind_some _ _).symm.trans H; rw [hy164]; with_reducible exact H2_) | (have H2_ := (Option.bind_some _ _).symm.trans H; with_reducible exact H2_) | with_reducible exact H | (rw [hy164]; exact H) | exact H
                  have Ny164 := Ax.mk hy164
                  clear hy164
                  have H' := Ax.mk H
                  clear H
                  go_wp2_with (first | ((with_reducible refine gate_dst (N := 122) rfl ?_); refine Kd.B_conv (Kd.int .u8) _ 5 rfl (N := 122) rfl 9 61 _ rfl x9_2 rfl Tryd.underlying9 Tryd.underlying61 Tryd.underlying5 (ok := fun _ => True) trivial (by first | omega | assumption | (have h_ := of_decide_eq_true (by first | (with_reducible assumption) | assumption); omega)) (Below.refl _ _) (Nat.le_refl _) ?_; intro v165 w67 ho68 hb hg_ hnew_; clear hg_ hnew_; (first | rw [← Ny164.out] at ho68 | (simp only [Int.reduceToNat] at ho68; rw [← Ny164.out] at ho68)); have n0_ := Ax.mk (Kd.R_below (by exact Kd.R_to HO_10.out) hb); have n1_ := Ax.mk (Kd.B_lower ho68 (bS bA)); have n2_ := Ax.mk (bP bA hb); clear HO_10; clear HB; have HO_10 := n0_; have HO166 := n1_; have HB := n2_; clear n0_ n1_ n2_; clear hb ho68))
                  go_loopg [20] kj55 (fun kq v20 w' => ∃ (x19_6 : List Int) (x20_6 : Int), v20 = .int .i64 x20_6 ∧ Ax (l12_StepTorn.l2 kq a2 x10_2 x15_22 x16_22 x19_6 x20_6 = some r) ∧ Ax (kq ≤ kj55) ∧ Ax (Kd.R k24 24 w' w.heap.size (fun _ => True) u10 x10_2) ∧ Ax (Kd.B (Kd.int .u8) 5 w' w.heap.size (fun _ => True) v165 x19_6) ∧ Ax (Below w.heap.size w w'))
                  case atStart => exact ⟨(y164), (0), (by first | rfl | (simp; done) | (simp [*]; done)), H', ⟨Nat.le_refl _⟩, ⟨by apply Kd.R_to; exact HO_10.out⟩, ⟨by (with_reducible repeat (first | apply Kd.B_alloc | apply Kd.B_drewN | apply Kd.B_drew)); exact HO166.out⟩, ⟨bA⟩⟩
                  case round =>
                   clear H'
                   try clear c1
                   try clear p1
                   try clear q1
                   try clear hx1
                   try clear c2
                   try clear p2
                   try clear c3
                   try clear c4
                   try clear q4
                   try clear c5
                   try clear c6
                   try clear p6
                   try clear c8
                   try clear c9
                   try clear c10
                   try clear c10b0
                   try clear c11
                   try clear c11b0
                   try clear c13
                   try clear c13b0
                   try clear c13b1
                   try clear p13
                   try clear q13
                   try clear hx13
                   try clear c14
                   try clear c14b0
                   try clear c14b1
                   try clear c14b2
                   try clear p14
                   try clear q14
                   try clear hx14
                   try clear c15
                   try clear p15
                   try clear q15
                   try clear hx15
                   try clear c16
                   try clear p16
                   try clear q16
                   try clear hx16
                   try clear c17
                   try clear c18
                   try clear c19
                   try clear c23
                   try clear c24
                   try clear c24b0
                   try clear c25
                   try clear c25b0
                   try clear c26
                   try clear c26b0
                   try clear c27
                   try clear c27b0
                   try clear c29
                   try clear c33
                   try clear c33b0
                   try clear c33b1
                   try clear c34
                   try clear c34b0
                   try clear c34b1
                   try clear c38
                   try clear c38b0
                   try clear c38b1
                   try clear c39
                   try clear c39b0
                   try clear c39b1
                   try clear c42
                   try clear q43
                   try clear q49
                   try clear c55
                   try clear c57
                   try clear c57b0
                   try clear c57b1
                   try clear c59
                   try clear c59b0
                   try clear c59b1
                   try clear c61
                   try clear c61b0
                   try clear c62
                   try clear c62b0
                   try clear p64
                   try clear c65
                   try clear c66
                   try clear c66b0
                   try clear c66b1
                   try clear c66b2
                   try clear hx139_0
                   try clear hx139_1
                   try clear hx139_2
                   try clear hx139_3
                   try clear hx139_4
                   try clear hx142_0
                   try clear hx142_1
                   try clear hx142_2
                   try clear hx142_3
                   try clear hx142_4
                   try clear hx149_0
                   try clear hx150_0
                   try clear hx163_0
                   try clear p1
                   try clear p13
                   try clear p139
                   try clear p14
                   try clear p142
                   try clear p149
                   try clear p15
                   try clear p150
                   try clear p16
                   try clear p163
                   try clear p2
                   try clear p6
                   try clear p64
                   try clear q1
                   try clear q13
                   try clear q139
                   try clear q14
                   try clear q142
                   try clear q149
                   try clear q15
                   try clear q150
                   try clear q16
                   try clear q163
                   try clear q4
                   try clear q43
                   try clear q49
                   obtain ⟨x19_6, x20_6, rfl, HA, HK6, HO_10, HO_19, HB⟩ := hrel
                   cases gk with
                   | zero => exact absurd HA.out (by simp [l12_StepTorn.l2])
                   | succ k6 =>
                    have H := HA.out
                    clear HA
                    simp only [l12_StepTorn.l2] at H
                    by_cases c69 : x20_6 < 32
                    ·rw [if_pos c69] at H
                     have c69b0 : decide (x20_6 < 32) = true := decide_eq_true c69
                     clear c69
                     by_cases c70 : 0 ≤ x20_6
                     ·rw [if_pos c70] at H
                      have c70b0 := eq_true c70
                      have c70b1 : decide (0 ≤ x20_6) = true := decide_eq_true c70
                      clear c70
                      obtain ⟨ji71, hji71⟩ : ∃ j_ : Int, (shr .u32 a2 x20_6) = j_ := ⟨_, rfl⟩
                      replace H : (if (Go.bits .and .u32 (ji71) 1) = 1 then (if 0 ≤ (wrap64 ((wrap64 (x16_22 + 2)) + (wrap64 (Int.tdiv x20_6 8)))) then (if (wrap64 ((wrap64 (x16_22 + 2)) + (wrap64 (Int.tdiv x20_6 8)))) < (x19_6.length : Int) then (if 0 ≤ (Int.tmod x20_6 8) then (l12_StepTorn.l2 k6 a2 x10_2 x15_22 x16_22 (x19_6.set ((wrap64 ((wrap64 (x16_22 + 2)) + (wrap64 (Int.tdiv x20_6 8)))) : Int).toNat (Go.bits .xor .u8 (rd x19_6 (wrap64 ((wrap64 (x16_22 + 2)) + (wrap64 (Int.tdiv x20_6 8))))) (shl .u8 1 (Int.tmod x20_6 8)))) (wrap64 (x20_6 + 1))) else (none)) else (none)) else (none)) else (l12_StepTorn.l2 k6 a2 x10_2 x15_22 x16_22 x19_6 (wrap64 (x20_6 + 1)))) = some r := by first | (rw [hji71] at H; exact H) | (simp only [hji71] at H ⊢; exact H)
                      have hji71_ : (a2 / 2 ^ min x20_6.toNat 32) = ji71 := hji71
                      have hji71z : x20_6 ≤ 32 → (a2 / 2 ^ x20_6.toNat) = ji71 := shr_small hji71
                      by_cases c72 : (Go.bits .and .u32 (ji71) 1) = 1
                      ·rw [if_pos c72] at H
                       have c72b0 : ((Go.bits .and .u32 (ji71) 1) == 1) = true := beq_iff_eq.mpr c72
                       have c72b1 : ((Go.bits .and .u32 (ji71) 1) != 1) = false := bne_eq_false_iff_eq.mpr c72
                       clear c72
                       obtain ⟨ji73, hji73⟩ : ∃ j_ : Int, (wrap64 ((wrap64 (x16_22 + 2)) + (wrap64 (Int.tdiv x20_6 8)))) = j_ := ⟨_, rfl⟩
                       replace H : (if 0 ≤ (ji73) then (if (ji73) < (x19_6.length : Int) then (if 0 ≤ (Int.tmod x20_6 8) then (l12_StepTorn.l2 k6 a2 x10_2 x15_22 x16_22 (x19_6.set ((ji73) : Int).toNat (Go.bits .xor .u8 (rd x19_6 (ji73)) (shl .u8 1 (Int.tmod x20_6 8)))) (wrap64 (x20_6 + 1))) else (none)) else (none)) else (none)) = some r := by first | (rw [hji73] at H; exact H) | (simp only [hji73] at H ⊢; exact H)
                       have hji73w : (IntKind.i64.wrap ((wrap64 (x16_22 + 2)) + (wrap64 (Int.tdiv x20_6 8)))) = ji73 := (i64_w _).trans hji73
                       by_cases c74 : 0 ≤ (ji73)
                       ·rw [if_pos c74] at H
                        have c74b0 : decide (0 ≤ (ji73)) = true := decide_eq_true c74
                        clear c74
                        by_cases c75 : (ji73) < (x19_6.length : Int)
                        ·rw [if_pos c75] at H
                         have c75b0 : decide ((ji73) < (x19_6.length : Int)) = true := decide_eq_true c75
                         clear c75
                         obtain ⟨ji76, hji76⟩ : ∃ j_ : Int, (Int.tmod x20_6 8) = j_ := ⟨_, rfl⟩
                         replace H : (if 0 ≤ (ji76) then (l12_StepTorn.l2 k6 a2 x10_2 x15_22 x16_22 (x19_6.set ((ji73) : Int).toNat (Go.bits .xor .u8 (rd x19_6 (ji73)) (shl .u8 1 (ji76)))) (wrap64 (x20_6 + 1))) else (none)) = some r := by first | (rw [hji76] at H; exact H) | (simp only [hji76] at H ⊢; exact H)
                         by_cases c77 : 0 ≤ (ji76)
                         ·rw [if_pos c77] at H
                          have c77b0 := eq_true c77
                          have c77b1 : decide (0 ≤ (ji76)) = true := decide_eq_true c77
                          clear c77
                          obtain ⟨ji78, hji78⟩ : ∃ j_ : Int, (shl .u8 1 (ji76)) = j_ := ⟨_, rfl⟩
                          replace H : (l12_StepTorn.l2 k6 a2 x10_2 x15_22 x16_22 (x19_6.set ((ji73) : Int).toNat (Go.bits .xor .u8 (rd x19_6 (ji73)) (ji78))) (wrap64 (x20_6 + 1))) = some r := by first | (rw [hji78] at H; exact H) | (simp only [hji78] at H ⊢; exact H)
                          have hji78_ : (IntKind.u8.wrap (1 * 2 ^ min (ji76).toNat 8)) = ji78 := hji78
                          have hji78z : (ji76) ≤ 8 → (IntKind.u8.wrap (1 * 2 ^ (ji76).toNat)) = ji78 := shl_small hji78
                          have hji78u : (IntKind.u8.wrap (2 ^ min (ji76).toNat 8)) = ji78 := by have h_ := hji78_; rw [Int.one_mul] at h_; exact h_
                          have hji78v : (ji76) ≤ 8 → (IntKind.u8.wrap (2 ^ (ji76).toNat)) = ji78 := fun hle_ => by have h_ := hji78z hle_; rw [Int.one_mul] at h_; exact h_
                          obtain ⟨y168, hy168⟩ : ∃ y_ : List Int, y_ = (x19_6.set ((ji73) : Int).toNat (Go.bits .xor .u8 (rd x19_6 (ji73)) (ji78))) := ⟨_, rfl⟩
                          replace H : (l12_StepTorn.l2 k6 a2 x10_2 x15_22 x16_22 y168 (wrap64 (x20_6 + 1))) = some r := by first | (rw [hy168]; with_reducible exact H) | (have H2_ := (Option.bind_some _ _).symm.trans H; rw [hy168]; with_reducible exact H2_) | (have H2_ := (Option.bind_some _ _).symm.trans H; with_reducible exact H2_) | with_reducible exact H | (rw [hy168]; exact H) | exact H
                          have Ny168 := Ax.mk hy168
                          clear hy168
                          have H' := Ax.mk H
                          clear H
                          try go_wp2
                          have n0_ := Ax.mk (Kd.R_drew HO_10.out)
                          have n1_ := Ax.mk (Kd.B_drew HO_19.out)
                          have n2_ := Ax.mk (below_drew1 HB.out)
                          clear HO_10
                          clear HO_19
                          clear HB
                          have HO_10 := n0_
                          have HO_19 := n1_
                          have HB := n2_
                          clear n0_ n1_ n2_
                          obtain ⟨Ao81, co81, eo81⟩ := Kd.B_slice HO_19.out
                          (first | subst eo81 | (injection eo81 with f1_ f2_ f3_; have f4_ := f1_.symm; have f5_ := f3_.symm; clear f1_ f2_ f3_; subst f4_; subst f5_))
                          have p167 : 0 ≤ ((ji73) : Int) := of_decide_eq_true (by first | (with_reducible assumption) | assumption)
                          have q167 : (ji73) < (x19_6.length : Int) := of_decide_eq_true (by first | (with_reducible assumption) | assumption)
                          obtain ⟨ad167, e167, hx167_0⟩ := Kd.at_int (Kd.B_reads' HO_19.out).2.2 (ji73) p167 q167
                          cases e167
                          replace p167 := eq_true p167
                          replace q167 := eq_true q167
                          have p79 : 0 ≤ ((ji73) : Int) := of_decide_eq_true (by first | (with_reducible assumption) | assumption)
                          have q79 : ((ji73) : Int) < ((x19_6.length : Int) : Int) := of_decide_eq_true (by first | (with_reducible assumption) | assumption)
                          obtain ⟨go79, co79, eo79, gb79, gl79, cl79, HG79⟩ := Kd.B_form HO_19.out (by omega)
                          (first | cases eo79 | (injection eo79 with ea_ en_ ec_; (first | subst ea_ | (injection ea_ with ea_; subst ea_)); subst ec_; clear en_))
                          have GB79 := Ax.mk gb79
                          have GG79 := Ax.mk HG79
                          clear gb79 gl79 HG79
                          (first | simp only [add_plain] at hx167_0 | skip)
                          obtain ⟨hx79_0, hf79_0⟩ := Kd.B_celln 0 HO_19.out ((ji73) : Int) p79 q79
                          replace p79 := eq_true p79
                          replace q79 := eq_true q79
                          have HP82 := Kd.B_putn HO_19.out ((ji73) : Int) (Go.bits .xor .u8 (rd x19_6 (ji73)) (ji78))
                          rw [← Ny168.out] at HP82
                          have HQ82 := Ax.mk HP82
                          clear HP82
                          refine start_ (n := 20) (S := fun w' => w'.cell? ⟨go79, ((ji73)).toNat, none⟩ = some (.int .u8 (rd x19_6 (ji73)))) (ds := [19]) #[false, false, false, false, false, false, false, false, false, false, false, false, false, false, false, false, false, false, false, false] (by kernel_rfl) rfl rfl (hx167_0) (fun hHeld => ?_); refine with_tabW l12_StepTorn.tab32 l12_StepTorn.bits32 (fun HT_ HW_ => ?_)
                          generalize wr.drew = w80 at HO_10 HO_19 HB GG79 HQ82 hf79_0 hx167_0 hx79_0 hHeld ⊢
                          refine pure_ (i := 0) (N := some 132) (v := ?_) (a' := ?_) #[true, false, false, false, false, false, false, false, false, false, false, false, false, false, false, false, false, false, false, false] rfl rfl (any_of HT_.out (by kernel_rfl)) (fun _ _ _ h => h) (Or.inl ⟨by rfl, ?_⟩) ?_ ?_
                          rotate_left
                          ·intro w'
                           go_simp
                           with_reducible rfl
                          rotate_left
                          ·simp only [Act.put, setIfInBounds_toArray, set_cons_zero, set_cons_succ, i64_w, i32_w]
                           rfl
                          refine pure_ (i := 1) (N := some 133) (v := ?_) (a' := ?_) #[true, true, false, false, false, false, false, false, false, false, false, false, false, false, false, false, false, false, false, false] rfl rfl (any_of HT_.out (by kernel_rfl)) (fun _ _ _ h => h) (Or.inl ⟨by rfl, ?_⟩) ?_ ?_
                          rotate_left
                          ·intro w'
                           go_simp
                           with_reducible rfl
                          rotate_left
                          ·simp only [Act.put, setIfInBounds_toArray, set_cons_zero, set_cons_succ, i64_w, i32_w]
                           rfl
                          refine pure_ (i := 2) (N := some 134) (v := ?_) (a' := ?_) #[true, true, true, false, false, false, false, false, false, false, false, false, false, false, false, false, false, false, false, false] rfl rfl (any_of HT_.out (by kernel_rfl)) (fun _ _ _ h => h) (Or.inl ⟨by rfl, ?_⟩) ?_ ?_
                          rotate_left
                          ·intro w'
                           go_simp
                           with_reducible rfl
                          rotate_left
                          ·simp only [Act.put, setIfInBounds_toArray, set_cons_zero, set_cons_succ, i64_w, i32_w]
                           rfl
                          refine pure_ (i := 3) (N := some 135) (v := ?_) (a' := ?_) #[true, true, true, true, false, false, false, false, false, false, false, false, false, false, false, false, false, false, false, false] rfl rfl (any_of HT_.out (by kernel_rfl)) (fun _ _ _ h => h) (Or.inl ⟨by rfl, ?_⟩) ?_ ?_
                          rotate_left
                          ·intro w'
                           go_simp
                           with_reducible rfl
                          rotate_left
                          ·simp only [Act.put, setIfInBounds_toArray, set_cons_zero, set_cons_succ, i64_w, i32_w]
                           rfl
                          refine pure_ (i := 4) (N := some 136) (v := ?_) (a' := ?_) #[true, true, true, true, true, false, false, false, false, false, false, false, false, false, false, false, false, false, false, false] rfl rfl (any_of HT_.out (by kernel_rfl)) (fun _ _ _ h => h) (Or.inl ⟨by rfl, ?_⟩) ?_ ?_
                          rotate_left
                          ·intro w'
                           go_simp
                           with_reducible rfl
                          rotate_left
                          ·simp only [Act.put, setIfInBounds_toArray, set_cons_zero, set_cons_succ, i64_w, i32_w]
                           rfl
                          refine pure_ (i := 5) (N := some 137) (v := ?_) (a' := ?_) #[true, true, true, true, true, true, false, false, false, false, false, false, false, false, false, false, false, false, false, false] rfl rfl (any_of HT_.out (by kernel_rfl)) (fun _ _ _ h => h) (Or.inl ⟨by rfl, ?_⟩) ?_ ?_
                          rotate_left
                          ·intro w'
                           go_simp
                           with_reducible rfl
                          rotate_left
                          ·simp only [Act.put, setIfInBounds_toArray, set_cons_zero, set_cons_succ, i64_w, i32_w]
                           rfl
                          refine pure_ (i := 6) (N := some 138) (v := ?_) (a' := ?_) #[true, true, true, true, true, true, true, false, false, false, false, false, false, false, false, false, false, false, false, false] rfl rfl (any_of HT_.out (by kernel_rfl)) (fun _ _ _ h => h) (Or.inl ⟨by rfl, ?_⟩) ?_ ?_
                          rotate_left
                          ·intro w'
                           go_simp
                           with_reducible rfl
                          rotate_left
                          ·simp only [Act.put, setIfInBounds_toArray, set_cons_zero, set_cons_succ, i64_w, i32_w]
                           rfl
                          refine pure_ (i := 7) (N := some 139) (v := ?_) (a' := ?_) #[true, true, true, true, true, true, true, true, false, false, false, false, false, false, false, false, false, false, false, false] rfl rfl (any_of HT_.out (by kernel_rfl)) (fun _ _ _ h => h) (Or.inl ⟨by rfl, ?_⟩) ?_ ?_
                          rotate_left
                          ·intro w'
                           go_simp
                           with_reducible rfl
                          rotate_left
                          ·simp only [Act.put, setIfInBounds_toArray, set_cons_zero, set_cons_succ, i64_w, i32_w]
                           rfl
                          refine pure_ (i := 8) (N := some 140) (v := ?_) (a' := ?_) #[true, true, true, true, true, true, true, true, true, false, false, false, false, false, false, false, false, false, false, false] rfl rfl (any_of HT_.out (by kernel_rfl)) (fun _ _ _ h => h) (Or.inl ⟨by rfl, ?_⟩) ?_ ?_
                          rotate_left
                          ·intro w'
                           go_simp
                           with_reducible rfl
                          rotate_left
                          ·simp only [Act.put, setIfInBounds_toArray, set_cons_zero, set_cons_succ, i64_w, i32_w]
                           rfl
                          refine pure_ (i := 9) (N := some 141) (v := ?_) (a' := ?_) #[true, true, true, true, true, true, true, true, true, true, false, false, false, false, false, false, false, false, false, false] rfl rfl (any_of HT_.out (by kernel_rfl)) (fun _ _ _ h => h) (Or.inl ⟨by rfl, ?_⟩) ?_ ?_
                          rotate_left
                          ·intro w'
                           go_simp
                           with_reducible rfl
                          rotate_left
                          ·simp only [Act.put, setIfInBounds_toArray, set_cons_zero, set_cons_succ, i64_w, i32_w]
                           rfl
                          refine pure_ (i := 10) (N := some 142) (v := ?_) (a' := ?_) #[true, true, true, true, true, true, true, true, true, true, true, false, false, false, false, false, false, false, false, false] rfl rfl (any_of HT_.out (by kernel_rfl)) (fun _ _ _ h => h) (Or.inl ⟨by rfl, ?_⟩) ?_ ?_
                          rotate_left
                          ·intro w'
                           go_simp
                           with_reducible rfl
                          rotate_left
                          ·simp only [Act.put, setIfInBounds_toArray, set_cons_zero, set_cons_succ, i64_w, i32_w]
                           rfl
                          refine pure_ (i := 11) (N := some 143) (v := ?_) (a' := ?_) #[true, true, true, true, true, true, true, true, true, true, true, true, false, false, false, false, false, false, false, false] rfl rfl (any_of HT_.out (by kernel_rfl)) (fun _ _ _ h => h) (Or.inl ⟨by rfl, ?_⟩) ?_ ?_
                          rotate_left
                          ·intro w'
                           go_simp
                           with_reducible rfl
                          rotate_left
                          ·simp only [Act.put, setIfInBounds_toArray, set_cons_zero, set_cons_succ, i64_w, i32_w]
                           rfl
                          refine pure_ (i := 12) (N := some 144) (v := ?_) (a' := ?_) #[true, true, true, true, true, true, true, true, true, true, true, true, true, false, false, false, false, false, false, false] rfl rfl (any_of HT_.out (by kernel_rfl)) (fun _ _ _ h => h) (Or.inl ⟨by rfl, ?_⟩) ?_ ?_
                          rotate_left
                          ·intro w'
                           go_simp
                           with_reducible rfl
                          rotate_left
                          ·simp only [Act.put, setIfInBounds_toArray, set_cons_zero, set_cons_succ, i64_w, i32_w]
                           rfl
                          refine pure_ (i := 14) (N := some 146) (v := ?_) (a' := ?_) #[true, true, true, true, true, true, true, true, true, true, true, true, true, false, true, false, false, false, false, false] rfl rfl (any_of HT_.out (by kernel_rfl)) (fun _ _ _ h => h) (Or.inl ⟨by rfl, ?_⟩) ?_ ?_
                          rotate_left
                          ·intro w'
                           go_simp
                           with_reducible rfl
                          rotate_left
                          ·simp only [Act.put, setIfInBounds_toArray, set_cons_zero, set_cons_succ, i64_w, i32_w]
                           rfl
                          refine pure_ (i := 15) (N := some 147) (v := ?_) (a' := ?_) #[true, true, true, true, true, true, true, true, true, true, true, true, true, false, true, true, false, false, false, false] rfl rfl (any_of HT_.out (by kernel_rfl)) (fun _ _ _ h => h) (Or.inl ⟨by rfl, ?_⟩) ?_ ?_
                          rotate_left
                          ·intro w'
                           go_simp
                           with_reducible rfl
                          rotate_left
                          ·simp only [Act.put, setIfInBounds_toArray, set_cons_zero, set_cons_succ, i64_w, i32_w]
                           rfl
                          refine pure_ (i := 16) (N := some 148) (v := ?_) (a' := ?_) #[true, true, true, true, true, true, true, true, true, true, true, true, true, false, true, true, true, false, false, false] rfl rfl (any_of HT_.out (by kernel_rfl)) (fun _ _ _ h => h) (Or.inl ⟨by rfl, ?_⟩) ?_ ?_
                          rotate_left
                          ·intro w'
                           go_simp
                           with_reducible rfl
                          rotate_left
                          ·simp only [Act.put, setIfInBounds_toArray, set_cons_zero, set_cons_succ, i64_w, i32_w]
                           rfl
                          refine take_ (i := 13) (N := some 145) (v := ?_) (a' := ?_) #[true, true, true, true, true, true, true, true, true, true, true, true, true, true, true, true, true, false, false, false] rfl rfl (take_ofW HT_.out HW_.out (by kernel_rfl)) (fun _ _ _ h => h) (Or.inl ⟨by rfl, ?_⟩) hHeld ?_ ?_
                          rotate_left
                          ·intro w' s0
                           go_simp
                           with_reducible rfl
                          rotate_left
                          ·simp only [Act.put, setIfInBounds_toArray, set_cons_zero, set_cons_succ, i64_w, i32_w]
                           rfl
                          refine pure_ (i := 17) (N := some 149) (v := ?_) (a' := ?_) #[true, true, true, true, true, true, true, true, true, true, true, true, true, true, true, true, true, true, false, false] rfl rfl (any_of HT_.out (by kernel_rfl)) (fun _ _ _ h => h) (Or.inl ⟨by rfl, ?_⟩) ?_ ?_
                          rotate_left
                          ·intro w'
                           go_simp
                           with_reducible rfl
                          rotate_left
                          ·simp only [Act.put, setIfInBounds_toArray, set_cons_zero, set_cons_succ, i64_w, i32_w]
                           rfl
                          refine pure_ (i := 18) (N := some 150) (v := ?_) (a' := ?_) #[true, true, true, true, true, true, true, true, true, true, true, true, true, true, true, true, true, true, true, false] rfl rfl (any_of HT_.out (by kernel_rfl)) (fun _ _ _ h => h) (Or.inl ⟨by rfl, ?_⟩) ?_ ?_
                          rotate_left
                          ·intro w'
                           go_simp
                           with_reducible rfl
                          rotate_left
                          ·simp only [Act.put, setIfInBounds_toArray, set_cons_zero, set_cons_succ, i64_w, i32_w]
                           rfl
                          refine last_ (i := 19) (N := none) #[true, true, true, true, true, true, true, true, true, true, true, true, true, true, true, true, true, true, true, true] rfl rfl (one_of HT_.out (by kernel_rfl)) (by decide) (fun K hK => ?_)
                          refine skip_ (w1 := ?_) (by rfl) rfl ?_ ?_
                          rotate_left
                          ·go_simp
                           rfl
                          refine hK.out _ _ ?_
                          clear hK K
                          refine done_ (done_of HT_.out (by kernel_rfl)) ?_
                          try go_wp2
                          go_roundg k6
                          case measure => have := HJ5.out; have := HK2.out; have := HJ22.out; have := HJ35.out; have := HJ55.out; have := HK6.out; omega
                          case rel => exact ⟨(y168), (wrap64 (x20_6 + 1)), (by first | rfl | (simp; done) | (simp [*]; done)), H', ⟨by have := HJ5.out; have := HK2.out; have := HJ22.out; have := HJ35.out; have := HJ55.out; have := HK6.out; omega⟩, ⟨by apply Kd.R_to; exact Kd.R_mono (Kd.R_far (p := ⟨go79, ((ji73) : Int).toNat, none⟩) (Kd.R_typesB HO_10.out GG79.out (by decide)) (fun _ hk => hk.2) (.int .u8 (Go.bits .xor .u8 (rd x19_6 (ji73)) (ji78)))) (fun _ hk => trivial)⟩, ⟨by (with_reducible repeat (first | apply Kd.B_alloc | apply Kd.B_drewN | apply Kd.B_drew)); exact HQ82.out⟩, ⟨by repeat (first | (with_reducible first | exact HB.out | apply below_alloc | apply pw_below_drewN | apply below_drew1 | refine below_set ?_ GB79.out) | exact HB.out)⟩⟩
                         ·rw [if_neg c77] at H
                          exact absurd H (by simp)
                        ·rw [if_neg c75] at H
                         exact absurd H (by simp)
                       ·rw [if_neg c74] at H
                        exact absurd H (by simp)
                      ·rw [if_neg c72] at H
                       have c72b0 : ((Go.bits .and .u32 (ji71) 1) == 1) = false := beq_eq_false_iff_ne.mpr c72
                       have c72b1 : ((Go.bits .and .u32 (ji71) 1) != 1) = true := bne_iff_ne.mpr c72
                       have H' := Ax.mk H
                       clear H
                       go_wp2
                       go_roundg k6
                       case measure => have := HJ5.out; have := HK2.out; have := HJ22.out; have := HJ35.out; have := HJ55.out; have := HK6.out; omega
                       case rel => exact ⟨(x19_6), (wrap64 (x20_6 + 1)), (by first | rfl | (simp; done) | (simp [*]; done)), H', ⟨by have := HJ5.out; have := HK2.out; have := HJ22.out; have := HJ35.out; have := HJ55.out; have := HK6.out; omega⟩, ⟨by apply Kd.R_to; exact HO_10.out⟩, ⟨by (with_reducible repeat (first | apply Kd.B_alloc | apply Kd.B_drewN | apply Kd.B_drew)); exact HO_19.out⟩, ⟨bA⟩⟩
                     ·rw [if_neg c70] at H
                      exact absurd H (by simp)
                    ·rw [if_neg c69] at H
                     have c69b0 : decide (x20_6 < 32) = false := decide_eq_false c69
                     clear c69
                     replace H := Option.bind_eq_some_iff.mp H
                     obtain ⟨⟨t169, t170⟩, A830, H⟩ := H
                     replace H : (if 0 ≤ x15_22 then (if x15_22 ≤ (x10_2.length : Int) then ((l12_steps.f k6 (x10_2.take (x15_22 : Int).toNat)).bind fun t177 => ((l12_sameSteps.f k6 t169 t177).bind fun t180 => (if t180 = true then (some (t170 == x16_22)) else (none)))) else (none)) else (none)) = some r := H
                     have A83 := Ax.mk A830
                     clear A830
                     by_cases c84 : 0 ≤ x15_22
                     ·rw [if_pos c84] at H
                      have c84b0 := eq_true c84
                      have c84b1 : decide (0 ≤ x15_22) = true := decide_eq_true c84
                      clear c84
                      by_cases c85 : x15_22 ≤ (x10_2.length : Int)
                      ·rw [if_pos c85] at H
                       have c85b0 := eq_true c85
                       have c85b1 : decide (x15_22 ≤ (x10_2.length : Int)) = true := decide_eq_true c85
                       clear c85
                       obtain ⟨y173, hy173⟩ : ∃ y_ : List (S24), y_ = (x10_2.take (x15_22 : Int).toNat) := ⟨_, rfl⟩
                       replace H : ((l12_steps.f k6 y173).bind fun t177 => ((l12_sameSteps.f k6 t169 t177).bind fun t180 => (if t180 = true then (some (t170 == x16_22)) else (none)))) = some r := by first | (rw [hy173]; with_reducible exact H) | (have H2_ := (Option.bind_some _ _).symm.trans H; rw [hy173]; with_reducible exact H2_) | (have H2_ := (Option.bind_some _ _).symm.trans H; with_reducible exact H2_) | with_reducible exact H | (rw [hy173]; exact H) | exact H
                       have Ny173 := Ax.mk hy173
                       clear hy173
                       replace H := Option.bind_eq_some_iff.mp H
                       obtain ⟨t177, A860, H⟩ := H
                       replace H : ((l12_sameSteps.f k6 t169 t177).bind fun t180 => (if t180 = true then (some (t170 == x16_22)) else (none))) = some r := H
                       have A86 := Ax.mk A860
                       clear A860
                       replace H := Option.bind_eq_some_iff.mp H
                       obtain ⟨t180, A870, H⟩ := H
                       replace H : (if t180 = true then (some (t170 == x16_22)) else (none)) = some r := H
                       have A87 := Ax.mk A870
                       clear A870
                       by_cases c88 : t180 = true
                       ·subst c88
                        have H1 : (some (t170 == x16_22)) = some r := by rw [if_pos rfl] at H; exact H
                        clear H
                        have H := H1
                        clear H1
                        obtain rfl := Option.some.inj H
                        have hcv89 := Kd.B_string (P := Tryd.prog) Tryd.underlying61 Tryd.underlying5 Tryd.underlying9 HO_19.out
                        go_wp2_with (first | ((with_reducible refine gate_callee (f := 29) rfl ?_); refine goesL_ (some 154) rfl rfl Tryd.func29 (by kernel_rfl) rfl #[.string (strOfNums x19_6)] rfl (by (try simp only [List.map_toArray, List.map_cons, List.map_nil]); first | done | rfl | (simp only [List.length_drop, List.length_take]; rfl) | (rw [wrap_sum2 (by assumption)]; rfl)) ?_; (with_reducible refine (step_Scan.calls k6 (strOfNums x19_6) t169 t170 _ A83.out (HT.below bA)).mono ?_); rintro e w90 ⟨v171, rfl, ho0, hb⟩; refine ⟨_, rfl, ?_⟩; have n0_ := Ax.mk (Kd.R_elder' (by exact Kd.R_to HO_10.out) (Kd.R_base ho0) hb); have n1_ := Ax.mk (Kd.B_below (by (with_reducible repeat (first | apply Kd.B_alloc | apply Kd.B_drewN | apply Kd.B_drew)); exact HO_19.out) hb); have n2_ := Ax.mk (Kd.R_lower (Kd.R_new' ho0 (Kd.R_lt (by exact Kd.R_to HO_10.out))) (bS bA)); have n3_ := Ax.mk (bP bA hb); clear HO_10; clear HO_19; clear HB; have HO_10 := n0_; have HO_19 := n1_; have HO172 := n2_; have HB := n3_; clear n0_ n1_ n2_ n3_; (try clear hb); (try clear hb2); (try clear hk); (try clear hi); (try clear ho0); obtain ⟨Ao92, co92, eo92⟩ := Kd.R_slice HO_10.out; subst eo92; have q91 : (x15_22 : Int) ≤ ((x10_2.length : Int) : Int) := of_decide_eq_true (by first | (with_reducible assumption) | assumption); obtain ⟨i091, hi091, _, hsz91, _⟩ := info_parts info24; have hroom91 : x10_2.length ≤ co92 := (Kd.R_reads' HO_10.out).2.1; have hC91 : Kd.C k24 _ Ao92 x10_2.length x10_2 := (Kd.R_reads' HO_10.out).2.2; have hcut91 := cut_to (P := Tryd.prog) 29 24 .i64 Tryd.underlying29 hi091 Ao92 x10_2.length co92 x15_22 (of_decide_eq_true (by first | (with_reducible assumption) | assumption)) q91 hroom91; have hr91 := Kd.C_take (m := (x15_22 : Int).toNat) hC91 (by omega); have hy91 : y173.length = (x15_22 : Int).toNat := (by rw [Ny173.out, List.length_take]; omega); rw [← Ny173.out] at hr91; rw [← hy91] at hcut91; have HR176 := Ax.mk hr91; have HC176 := Ax.mk (show y173.length ≤ co92 from by omega); clear hr91 hC91 hroom91 hi091 hsz91; have KY91 := Ax.mk hy91; clear hy91; have KL91 := Ax.mk (show (x15_22 : Int).toNat ≤ x10_2.length from by omega); replace q91 := eq_true q91) | ((with_reducible refine gate_callee (f := 18) rfl ?_); refine goesL_ (some 161) rfl rfl Tryd.func18 (by kernel_rfl) rfl #[.slice Ao92 y173.length co92] rfl (by (try simp only [List.map_toArray, List.map_cons, List.map_nil]); first | done | rfl | (simp only [List.length_drop, List.length_take]; rfl) | (rw [wrap_sum2 (by assumption)]; rfl)) ?_; (with_reducible refine (l12_steps.calls k6 _ _ y173 t177 _ ?side1 ?side2 A86.out).mono ?_); (case side1 => repeat (first | exact (by repeat (first | (with_reducible exact HR176.out) | (with_reducible refine Kd.C_alloc ?_ _) | (with_reducible refine Kd.C_drewN ?_ _) | (with_reducible refine Kd.C_drew ?_) | exact HR176.out)) | (with_reducible refine Kd.C_alloc ?_ _) | (with_reducible refine Kd.C_drewN ?_ _) | (with_reducible refine Kd.C_drew ?_))); (case side2 => exact HC176.out); rintro e w93 ⟨v178, rfl, ho0, hb⟩; refine ⟨_, rfl, ?_⟩; have n0_ := Ax.mk (Kd.R_below (by exact Kd.R_to HO_10.out) hb); have n1_ := Ax.mk (Kd.B_below (by (with_reducible repeat (first | apply Kd.B_alloc | apply Kd.B_drewN | apply Kd.B_drew)); exact HO_19.out) hb); have n2_ := Ax.mk (Kd.R_below (by exact Kd.R_to HO172.out) hb); have n3_ := Ax.mk (Kd.R_lower ho0 (bS bA)); have n4_ := Ax.mk (Kd.C_below (by repeat (first | (with_reducible exact HR176.out) | (with_reducible refine Kd.C_alloc ?_ _) | (with_reducible refine Kd.C_drewN ?_ _) | (with_reducible refine Kd.C_drew ?_) | exact HR176.out)) hb); have n5_ := Ax.mk (bP bA hb); clear HO_10; clear HO_19; clear HO172; clear HR176; clear HB; have HO_10 := n0_; have HO_19 := n1_; have HO172 := n2_; have HO179 := n3_; have HR176 := n4_; have HB := n5_; clear n0_ n1_ n2_ n3_ n4_ n5_; (try clear hb); (try clear hb2); (try clear hk); (try clear hi); (try clear ho0); obtain ⟨Ao94, co94, eo94⟩ := Kd.R_slice HO172.out; subst eo94; obtain ⟨Ao95, co95, eo95⟩ := Kd.R_slice HO179.out; subst eo95) | ((with_reducible refine gate_callee (f := 26) rfl ?_); refine goesL_ (some 162) rfl rfl Tryd.func26 (by kernel_rfl) rfl #[.slice Ao94 t169.length co94, .slice Ao95 t177.length co95] rfl (by (try simp only [List.map_toArray, List.map_cons, List.map_nil]); first | done | rfl | (simp only [List.length_drop, List.length_take]; rfl) | (rw [wrap_sum2 (by assumption)]; rfl)) ?_; (with_reducible refine (l12_sameSteps.calls k6 _ _ t169 _ _ t177 true _ ?side1 ?side2 ?side3 ?side4 A87.out).mono ?_); (case side1 => repeat (first | exact (Kd.R_reads' HO172.out).2.2 | (with_reducible refine Kd.C_alloc ?_ _) | (with_reducible refine Kd.C_drewN ?_ _) | (with_reducible refine Kd.C_drew ?_))); (case side2 => exact (Kd.R_reads' HO172.out).2.1); (case side3 => repeat (first | exact (Kd.R_reads' HO179.out).2.2 | (with_reducible refine Kd.C_alloc ?_ _) | (with_reducible refine Kd.C_drewN ?_ _) | (with_reducible refine Kd.C_drew ?_))); (case side4 => exact (Kd.R_reads' HO179.out).2.1); rintro e w96 ⟨rfl, hb⟩; refine ⟨_, rfl, ?_⟩; have n0_ := Ax.mk (Kd.R_below (by exact Kd.R_to HO_10.out) hb); have n1_ := Ax.mk (Kd.B_below (by (with_reducible repeat (first | apply Kd.B_alloc | apply Kd.B_drewN | apply Kd.B_drew)); exact HO_19.out) hb); have n2_ := Ax.mk (Kd.R_below (by exact Kd.R_to HO172.out) hb); have n3_ := Ax.mk (Kd.R_below (by exact Kd.R_to HO179.out) hb); have n4_ := Ax.mk (Kd.C_below (by repeat (first | (with_reducible exact HR176.out) | (with_reducible refine Kd.C_alloc ?_ _) | (with_reducible refine Kd.C_drewN ?_ _) | (with_reducible refine Kd.C_drew ?_) | exact HR176.out)) hb); have n5_ := Ax.mk (bP bA hb); clear HO_10; clear HO_19; clear HO172; clear HO179; clear HR176; clear HB; have HO_10 := n0_; have HO_19 := n1_; have HO172 := n2_; have HO179 := n3_; have HR176 := n4_; have HB := n5_; clear n0_ n1_ n2_ n3_ n4_ n5_; (try clear hb); (try clear hb2); (try clear hk); (try clear hi)))
                        go_ret
                        exact ⟨by first | rfl | (simp [errW_none, errW_some] <;> rfl) | (simp only [← hji21, ← hji22]; first | rfl | (simp [errW_none, errW_some] <;> rfl)) | (simp [*, errW_none, errW_some] <;> rfl), bA⟩
                       ·replace c88 := Bool.eq_false_iff.mpr c88
                        subst c88
                        have H1 : (none) = some r := by rw [if_neg (show ¬ (false = true) by decide)] at H; exact H
                        clear H
                        have H := H1
                        clear H1
                        exact absurd H (by simp)
                      ·rw [if_neg c85] at H
                       exact absurd H (by simp)
                     ·rw [if_neg c84] at H
                      exact absurd H (by simp)
                 ·rw [if_neg c66] at H
                  exact absurd H (by simp)
          ·rw [if_neg c34] at H
           exact absurd H (by simp)
         ·rw [if_neg c33] at H
          exact absurd H (by simp)
end Go.Proofs.YtboommbclbjlnaaDoor.Fn
end
