-- Packed by pack.py, a program of this session, out of texts of this claim.
import Derived.Test.YtboommbclbjlnaaDoorClJournalTorn1
import Derived.Test.YtboommbclbjlnaaDoorLfRange
import Derived.RangeFuncBound
import Derived.RangeFuncLeaves
import Derived.Shelf.Abstract
import Derived.OwnWalkIn
import Derived.TacticsInMore
import Derived.Sort.LoopGhostIn
import Derived.Deep.RegionHeld3
import Derived.Lib.Hide
section
-- Written by printx.py, a program of this session over the kit's print: each Go function as a plain Lean function, and that the Go code computes it.
namespace Go.Proofs.YtboommbclbjlnaaDoor.Fn
open Go.RowKit Go.Proofs.YtboommbclbjlnaaDoorW.PrintWords Go.Proofs.YtboommbclbjlnaaDoorW.PrintLast Go.Proofs.YtboommbclbjlnaaDoorW.PrintMore Go.Proofs.YtboommbclbjlnaaDoor.Lf
attribute [local go_sem] max2_int min2_int max_two min_two max_three min_three max_four min_four   -- for this text's walks alone
set_option linter.unusedVariables false
set_option linter.unusedSimpArgs false
def l13_short.l0 : Nat → List (List (S24)) → Int → Option (Bool)
 | 0, _, _ => none
 | k + 1, x0, x3 => if x3 < (x0.length : Int) then (if 0 ≤ x3 then ((l13_shortSteps.f k (rd_L4 x0 x3)).bind fun t335 => (if t335 = true then (if ((rd_L4 x0 x3).length : Int) > 12 then (some false) else (l13_short.l0 k x0 (wrap64 (x3 + 1)))) else (some false))) else (none)) else (some true)
def l13_short.f (k : Nat) (l0 : List (List (S24))) : Option (Bool) := if (l0.length : Int) > 12 then (some false) else (l13_short.l0 k l0 0)
theorem l13_short.mono_l : ∀ k, (∀ y0 y1, LeO (l13_short.l0 k y0 y1) (l13_short.l0 (k + 1) y0 y1))
 | 0 => fun _ _ r h => by simp [l13_short.l0] at h
 | k + 1 => by
  have ih0 := l13_short.mono_l k
  ·intro y0 y1
   unfold l13_short.l0
   repeat' first
   | (with_reducible exact ih0 _ _)
   | (with_reducible exact l13_shortSteps.mono _ _)
   | (with_reducible exact LeO.refl _)
   | (with_reducible exact LeO.none _)
   | (with_reducible refine LeO.ite ?_ ?_)
   | (with_reducible refine LeO.bind ?_ (fun _ => ?_))
   | exact ih0 _ _
   | exact l13_shortSteps.mono _ _
   | exact LeO.none _
   | refine LeO.ite ?_ ?_
   | refine LeO.bind ?_ (fun _ => ?_)
theorem l13_short.mono : ∀ a0 k, LeO (l13_short.f k a0) (l13_short.f (k + 1) a0) := by
 intro a0 k
 have ih0 := l13_short.mono_l k
 unfold l13_short.f
 repeat' first
   | (with_reducible exact ih0 _ _)
   | (with_reducible exact l13_shortSteps.mono _ _)
   | (with_reducible exact LeO.refl _)
   | (with_reducible exact LeO.none _)
   | (with_reducible refine LeO.ite ?_ ?_)
   | (with_reducible refine LeO.bind ?_ (fun _ => ?_))
   | exact ih0 _ _
   | exact l13_shortSteps.mono _ _
   | exact LeO.none _
   | refine LeO.ite ?_ ?_
   | refine LeO.bind ?_ (fun _ => ?_)
set_option maxHeartbeats 8000000 in
set_option maxRecDepth 100000 in
theorem l13_short.calls (k : Nat) (A0 : Option Addr) (c0 : Nat) (l0 : List (List (S24))) (r : Bool) (w : World) (hr0 : Kd.C (Kd.slice 24 k24) w A0 l0.length l0) (hc0 : l0.length ≤ c0) (h : l13_short.f k l0 = some r) :
  Calls Tryd.prog 33 #[.slice A0 l0.length c0] w fun e w' => e = .returned (.bool r) ∧ Drawn0 w w' := by
 have HR0 := Ax.mk hr0
 have HC0 := Ax.mk hc0
 clear hr0 hc0
 have H : (if (l0.length : Int) > 12 then (some false) else (l13_short.l0 k l0 0)) = some r := h
 clear h
 by_cases c2 : (l0.length : Int) > 12
 ·rw [if_pos c2] at H
  have c2b0 : decide (12 < (l0.length : Int)) = true := decide_eq_true c2
  have c2b1 : decide (12 < l0.length) = true := decide_eq_true (by omega)
  clear c2
  obtain rfl := Option.some.inj H
  go_enter Tryd.func33, Tryd.ntmps33
  go_wp2
  go_ret
  exact ⟨by first | rfl | (simp; done) | (simp [*]; done), by repeat (first | exact Drawn0.refl _ | apply Drawn0.step)⟩
 ·rw [if_neg c2] at H
  have c2b0 : decide (12 < (l0.length : Int)) = false := decide_eq_false c2
  have c2b1 : decide (12 < l0.length) = false := decide_eq_false (by omega)
  clear c2
  have H' := Ax.mk H
  clear H
  go_enter Tryd.func33, Tryd.ntmps33
  go_wp2
  go_loopg [3] k (fun kq v3 w' => ∃ (x3_1 : Int), v3 = .int .i64 x3_1 ∧ Ax (l13_short.l0 kq l0 x3_1 = some r) ∧ Ax (kq ≤ k) ∧ Drawn0 w w')
  case atStart => exact ⟨(0), (by first | rfl | (simp; done) | (simp [*]; done)), H', ⟨Nat.le_refl _⟩, by repeat (first | exact Drawn0.refl _ | apply Drawn0.step)⟩
  case round =>
   clear H'
   try clear c2
   try clear c2b0
   try clear c2b1
   try clear p2
   obtain ⟨x3_1, rfl, HA, HK1, ⟨m1, rfl⟩⟩ := hrel
   cases gk with
   | zero => exact absurd HA.out (by simp [l13_short.l0])
   | succ k1 =>
    have H := HA.out
    clear HA
    simp only [l13_short.l0] at H
    by_cases c3 : x3_1 < (l0.length : Int)
    ·rw [if_pos c3] at H
     have c3b0 : decide (x3_1 < (l0.length : Int)) = true := decide_eq_true c3
     clear c3
     by_cases c4 : 0 ≤ x3_1
     ·rw [if_pos c4] at H
      have c4b0 : decide (0 ≤ x3_1) = true := decide_eq_true c4
      clear c4
      replace H := Option.bind_eq_some_iff.mp H
      obtain ⟨t335, A50, H⟩ := H
      replace H : (if t335 = true then (if ((rd_L4 l0 x3_1).length : Int) > 12 then (some false) else (l13_short.l0 k1 l0 (wrap64 (x3_1 + 1)))) else (some false)) = some r := H
      have A5 := Ax.mk A50
      clear A50
      by_cases c6 : t335 = true
      ·subst c6
       have H1 : (if ((rd_L4 l0 x3_1).length : Int) > 12 then (some false) else (l13_short.l0 k1 l0 (wrap64 (x3_1 + 1)))) = some r := by rw [if_pos rfl] at H; exact H
       clear H
       have H := H1
       clear H1
       by_cases c7 : ((rd_L4 l0 x3_1).length : Int) > 12
       ·rw [if_pos c7] at H
        have c7b0 : decide (12 < ((rd_L4 l0 x3_1).length : Int)) = true := decide_eq_true c7
        have c7b1 : decide (12 < (rd_L4 l0 x3_1).length) = true := decide_eq_true (by omega)
        clear c7
        obtain rfl := Option.some.inj H
        have p334 : 0 ≤ (x3_1 : Int) := ofD
        have q334 : x3_1 < (l0.length : Int) := ofD
        obtain ⟨ad334, A334_0, c334_0, e334, hx334_0, hl334_0, hi334_0⟩ := at_L4 HR0.out x3_1 p334 q334
        cases e334
        have HR334_0 := Ax.mk hi334_0
        have HC334_0 := Ax.mk hl334_0
        clear hi334_0 hl334_0
        replace p334 := eq_true p334
        replace q334 := eq_true q334
        go_wp2_with (first | ((with_reducible refine gate_callee (f := 32) rfl ?_); refine goesL_ (some 18) rfl rfl Tryd.func32 (by kernel_rfl) rfl #[.slice A334_0 (rd_L4 l0 x3_1).length c334_0] rfl (by (try simp only [List.map_toArray, List.map_cons, List.map_nil]); first | done | rfl | (simp only [List.length_drop, List.length_take]; rfl) | (rw [wrap_sum2 (by assumption)]; rfl)) ?_; (with_reducible refine (l13_shortSteps.calls k1 _ _ (rd_L4 l0 x3_1) true _ ?side1 ?side2 A5.out).mono ?_); (case side1 => repeat (first | exact HR334_0.out | (with_reducible refine Kd.C_alloc ?_ _) | (with_reducible refine Kd.C_drewN ?_ _) | (with_reducible refine Kd.C_drew ?_))); (case side2 => exact HC334_0.out); rintro e w' ⟨rfl, ⟨nd, rfl⟩⟩; refine ⟨_, rfl, ?_⟩; have p336 : 0 ≤ (x3_1 : Int) := ofD; have q336 : x3_1 < (l0.length : Int) := ofD; obtain ⟨ad336, A336_0, c336_0, e336, hx336_0, hl336_0, hi336_0⟩ := at_L4 HR0.out x3_1 p336 q336; obtain rfl : ad334 = ad336 := (by injection e336); have HR336_0 := Ax.mk hi336_0; have HC336_0 := Ax.mk hl336_0; clear hi336_0 hl336_0; replace p336 := eq_true p336; replace q336 := eq_true q336; have ea_ := Option.some.inj (hx334_0.symm.trans hx336_0); injection ea_ with ea_ en_ ec_; subst ea_; subst ec_; clear en_))
        go_ret
        exact ⟨by first | rfl | (simp; done) | (simp [*]; done), by repeat (first | exact Drawn0.refl _ | apply Drawn0.step)⟩
       ·rw [if_neg c7] at H
        have c7b0 : decide (12 < ((rd_L4 l0 x3_1).length : Int)) = false := decide_eq_false c7
        have c7b1 : decide (12 < (rd_L4 l0 x3_1).length) = false := decide_eq_false (by omega)
        clear c7
        have H' := Ax.mk H
        clear H
        have p334 : 0 ≤ (x3_1 : Int) := ofD
        have q334 : x3_1 < (l0.length : Int) := ofD
        obtain ⟨ad334, A334_0, c334_0, e334, hx334_0, hl334_0, hi334_0⟩ := at_L4 HR0.out x3_1 p334 q334
        cases e334
        have HR334_0 := Ax.mk hi334_0
        have HC334_0 := Ax.mk hl334_0
        clear hi334_0 hl334_0
        replace p334 := eq_true p334
        replace q334 := eq_true q334
        go_wp2_with (first | ((with_reducible refine gate_callee (f := 32) rfl ?_); refine goesL_ (some 18) rfl rfl Tryd.func32 (by kernel_rfl) rfl #[.slice A334_0 (rd_L4 l0 x3_1).length c334_0] rfl (by (try simp only [List.map_toArray, List.map_cons, List.map_nil]); first | done | rfl | (simp only [List.length_drop, List.length_take]; rfl) | (rw [wrap_sum2 (by assumption)]; rfl)) ?_; (with_reducible refine (l13_shortSteps.calls k1 _ _ (rd_L4 l0 x3_1) true _ ?side1 ?side2 A5.out).mono ?_); (case side1 => repeat (first | exact HR334_0.out | (with_reducible refine Kd.C_alloc ?_ _) | (with_reducible refine Kd.C_drewN ?_ _) | (with_reducible refine Kd.C_drew ?_))); (case side2 => exact HC334_0.out); rintro e w' ⟨rfl, ⟨nd, rfl⟩⟩; refine ⟨_, rfl, ?_⟩; have p336 : 0 ≤ (x3_1 : Int) := ofD; have q336 : x3_1 < (l0.length : Int) := ofD; obtain ⟨ad336, A336_0, c336_0, e336, hx336_0, hl336_0, hi336_0⟩ := at_L4 HR0.out x3_1 p336 q336; obtain rfl : ad334 = ad336 := (by injection e336); have HR336_0 := Ax.mk hi336_0; have HC336_0 := Ax.mk hl336_0; clear hi336_0 hl336_0; replace p336 := eq_true p336; replace q336 := eq_true q336; have ea_ := Option.some.inj (hx334_0.symm.trans hx336_0); injection ea_ with ea_ en_ ec_; subst ea_; subst ec_; clear en_))
        go_roundg k1
        case measure => have := HK1.out; omega
        case rel => exact ⟨(wrap64 (x3_1 + 1)), (by first | rfl | (simp; done) | (simp [*]; done)), H', ⟨by have := HK1.out; omega⟩, by repeat (first | exact Drawn0.refl _ | apply Drawn0.step)⟩
      ·replace c6 := Bool.eq_false_iff.mpr c6
       subst c6
       have H1 : (some false) = some r := by rw [if_neg (show ¬ (false = true) by decide)] at H; exact H
       clear H
       have H := H1
       clear H1
       obtain rfl := Option.some.inj H
       have p334 : 0 ≤ (x3_1 : Int) := ofD
       have q334 : x3_1 < (l0.length : Int) := ofD
       obtain ⟨ad334, A334_0, c334_0, e334, hx334_0, hl334_0, hi334_0⟩ := at_L4 HR0.out x3_1 p334 q334
       cases e334
       have HR334_0 := Ax.mk hi334_0
       have HC334_0 := Ax.mk hl334_0
       clear hi334_0 hl334_0
       replace p334 := eq_true p334
       replace q334 := eq_true q334
       go_wp2_with (first | ((with_reducible refine gate_callee (f := 32) rfl ?_); refine goesL_ (some 18) rfl rfl Tryd.func32 (by kernel_rfl) rfl #[.slice A334_0 (rd_L4 l0 x3_1).length c334_0] rfl (by (try simp only [List.map_toArray, List.map_cons, List.map_nil]); first | done | rfl | (simp only [List.length_drop, List.length_take]; rfl) | (rw [wrap_sum2 (by assumption)]; rfl)) ?_; (with_reducible refine (l13_shortSteps.calls k1 _ _ (rd_L4 l0 x3_1) false _ ?side1 ?side2 A5.out).mono ?_); (case side1 => repeat (first | exact HR334_0.out | (with_reducible refine Kd.C_alloc ?_ _) | (with_reducible refine Kd.C_drewN ?_ _) | (with_reducible refine Kd.C_drew ?_))); (case side2 => exact HC334_0.out); rintro e w' ⟨rfl, ⟨nd, rfl⟩⟩; refine ⟨_, rfl, ?_⟩))
       go_ret
       exact ⟨by first | rfl | (simp; done) | (simp [*]; done), by repeat (first | exact Drawn0.refl _ | apply Drawn0.step)⟩
     ·rw [if_neg c4] at H
      exact absurd H (by simp)
    ·rw [if_neg c3] at H
     have c3b0 : decide (x3_1 < (l0.length : Int)) = false := decide_eq_false c3
     clear c3
     obtain rfl := Option.some.inj H
     go_wp2
     go_ret
     exact ⟨by first | rfl | (simp; done) | (simp [*]; done), by repeat (first | exact Drawn0.refl _ | apply Drawn0.step)⟩
def l13_shown.f (k : Nat)  : Option (Bool) := (journal_New.f k 5 (([(⟨3, 1, 0, 0, (⟨#[]⟩ : ByteArray)⟩ : S24)] : List (S24)))).bind fun bt170 => ((journal_Add.f k bt170.1 bt170.2.1 bt170.2.2.1 (([(⟨3, 2, 0, 0, (⟨#[]⟩ : ByteArray)⟩ : S24)] : List (S24)))).bind fun bt180 => ((journal_Add.f k bt180.1 bt180.2.1 bt180.2.2.1 (([(⟨3, 3, 0, 0, (⟨#[]⟩ : ByteArray)⟩ : S24)] : List (S24)))).bind fun bt190 => ((journal_After.f k bt190.1 bt190.2.1 bt190.2.2.1 6).bind fun t197 => (if bt170.2.2.2 = 0 then (if bt180.2.2.2 = 0 then (if bt190.2.2.2 = 0 then (if bt190.1 = 7 then (if (t197.length : Int) = 1 then (if 0 < (t197.length : Int) then (some (((rd_T24 t197 0).f1) == 3)) else (none)) else (none)) else (none)) else (none)) else (none)) else (none)))))
theorem l13_shown.mono : ∀ k, LeO (l13_shown.f k ) (l13_shown.f (k + 1) ) := by
 intro  k
 unfold l13_shown.f
 repeat' first
   | (with_reducible exact journal_Add.mono _ _ _ _ _)
   | (with_reducible exact journal_After.mono _ _ _ _ _)
   | (with_reducible exact journal_New.mono _ _ _)
   | (with_reducible exact LeO.refl _)
   | (with_reducible exact LeO.none _)
   | (with_reducible refine LeO.ite ?_ ?_)
   | (with_reducible refine LeO.bind ?_ (fun _ => ?_))
   | exact journal_Add.mono _ _ _ _ _
   | exact journal_After.mono _ _ _ _ _
   | exact journal_New.mono _ _ _
   | exact LeO.none _
   | refine LeO.ite ?_ ?_
   | refine LeO.bind ?_ (fun _ => ?_)
set_option maxHeartbeats 8000000 in
set_option maxRecDepth 100000 in
theorem l13_shown.calls (k : Nat)  (r : Bool) (w : World) (h : l13_shown.f k  = some r) (HT : Tabs w) :
  Calls Tryd.prog 31 #[] w fun e w' => e = .returned (.bool r) ∧ Below w.heap.size w w' := by
 have hu24 := Tryd.underlying24
 have hu66 := Tryd.underlying66
 have HB := Ax.mk (Below.refl w.heap.size w)
 have H : ((journal_New.f k 5 (([(⟨3, 1, 0, 0, (⟨#[]⟩ : ByteArray)⟩ : S24)] : List (S24)))).bind fun bt170 => ((journal_Add.f k bt170.1 bt170.2.1 bt170.2.2.1 (([(⟨3, 2, 0, 0, (⟨#[]⟩ : ByteArray)⟩ : S24)] : List (S24)))).bind fun bt180 => ((journal_Add.f k bt180.1 bt180.2.1 bt180.2.2.1 (([(⟨3, 3, 0, 0, (⟨#[]⟩ : ByteArray)⟩ : S24)] : List (S24)))).bind fun bt190 => ((journal_After.f k bt190.1 bt190.2.1 bt190.2.2.1 6).bind fun t197 => (if bt170.2.2.2 = 0 then (if bt180.2.2.2 = 0 then (if bt190.2.2.2 = 0 then (if bt190.1 = 7 then (if (t197.length : Int) = 1 then (if 0 < (t197.length : Int) then (some (((rd_T24 t197 0).f1) == 3)) else (none)) else (none)) else (none)) else (none)) else (none)) else (none)))))) = some r := h
 clear h
 obtain ⟨y167, hy167⟩ : ∃ y_ : List (S24), y_ = (([(⟨3, 1, 0, 0, (⟨#[]⟩ : ByteArray)⟩ : S24)] : List (S24))) := ⟨_, rfl⟩
 replace H : ((journal_New.f k 5 y167).bind fun bt170 => ((journal_Add.f k bt170.1 bt170.2.1 bt170.2.2.1 (([(⟨3, 2, 0, 0, (⟨#[]⟩ : ByteArray)⟩ : S24)] : List (S24)))).bind fun bt180 => ((journal_Add.f k bt180.1 bt180.2.1 bt180.2.2.1 (([(⟨3, 3, 0, 0, (⟨#[]⟩ : ByteArray)⟩ : S24)] : List (S24)))).bind fun bt190 => ((journal_After.f k bt190.1 bt190.2.1 bt190.2.2.1 6).bind fun t197 => (if bt170.2.2.2 = 0 then (if bt180.2.2.2 = 0 then (if bt190.2.2.2 = 0 then (if bt190.1 = 7 then (if (t197.length : Int) = 1 then (if 0 < (t197.length : Int) then (some (((rd_T24 t197 0).f1) == 3)) else (none)) else (none)) else (none)) else (none)) else (none)) else (none)))))) = some r := by first | (rw [hy167]; with_reducible exact H) | (have H2_ := (Option.bind_some _ _).symm.trans H; rw [hy167]; with_reducible exact H2_) | (have H2_ := (Option.bind_some _ _).symm.trans H; with_reducible exact H2_) | with_reducible exact H | (rw [hy167]; exact H) | exact H
 have Ny167 := Ax.mk hy167
 clear hy167
 replace H := Option.bind_eq_some_iff.mp H
 obtain ⟨⟨t170, t171, t174, t175⟩, A10, H⟩ := H
 replace H : ((journal_Add.f k t170 t171 t174 (([(⟨3, 2, 0, 0, (⟨#[]⟩ : ByteArray)⟩ : S24)] : List (S24)))).bind fun bt180 => ((journal_Add.f k bt180.1 bt180.2.1 bt180.2.2.1 (([(⟨3, 3, 0, 0, (⟨#[]⟩ : ByteArray)⟩ : S24)] : List (S24)))).bind fun bt190 => ((journal_After.f k bt190.1 bt190.2.1 bt190.2.2.1 6).bind fun t197 => (if t175 = 0 then (if bt180.2.2.2 = 0 then (if bt190.2.2.2 = 0 then (if bt190.1 = 7 then (if (t197.length : Int) = 1 then (if 0 < (t197.length : Int) then (some (((rd_T24 t197 0).f1) == 3)) else (none)) else (none)) else (none)) else (none)) else (none)) else (none))))) = some r := H
 have A1 := Ax.mk A10
 clear A10
 obtain ⟨y177, hy177⟩ : ∃ y_ : List (S24), y_ = (([(⟨3, 2, 0, 0, (⟨#[]⟩ : ByteArray)⟩ : S24)] : List (S24))) := ⟨_, rfl⟩
 replace H : ((journal_Add.f k t170 t171 t174 y177).bind fun bt180 => ((journal_Add.f k bt180.1 bt180.2.1 bt180.2.2.1 (([(⟨3, 3, 0, 0, (⟨#[]⟩ : ByteArray)⟩ : S24)] : List (S24)))).bind fun bt190 => ((journal_After.f k bt190.1 bt190.2.1 bt190.2.2.1 6).bind fun t197 => (if t175 = 0 then (if bt180.2.2.2 = 0 then (if bt190.2.2.2 = 0 then (if bt190.1 = 7 then (if (t197.length : Int) = 1 then (if 0 < (t197.length : Int) then (some (((rd_T24 t197 0).f1) == 3)) else (none)) else (none)) else (none)) else (none)) else (none)) else (none))))) = some r := by first | (rw [hy177]; with_reducible exact H) | (have H2_ := (Option.bind_some _ _).symm.trans H; rw [hy177]; with_reducible exact H2_) | (have H2_ := (Option.bind_some _ _).symm.trans H; with_reducible exact H2_) | with_reducible exact H | (rw [hy177]; exact H) | exact H
 have Ny177 := Ax.mk hy177
 clear hy177
 replace H := Option.bind_eq_some_iff.mp H
 obtain ⟨⟨t180, t181, t184, t185⟩, A20, H⟩ := H
 replace H : ((journal_Add.f k t180 t181 t184 (([(⟨3, 3, 0, 0, (⟨#[]⟩ : ByteArray)⟩ : S24)] : List (S24)))).bind fun bt190 => ((journal_After.f k bt190.1 bt190.2.1 bt190.2.2.1 6).bind fun t197 => (if t175 = 0 then (if t185 = 0 then (if bt190.2.2.2 = 0 then (if bt190.1 = 7 then (if (t197.length : Int) = 1 then (if 0 < (t197.length : Int) then (some (((rd_T24 t197 0).f1) == 3)) else (none)) else (none)) else (none)) else (none)) else (none)) else (none)))) = some r := H
 have A2 := Ax.mk A20
 clear A20
 obtain ⟨y187, hy187⟩ : ∃ y_ : List (S24), y_ = (([(⟨3, 3, 0, 0, (⟨#[]⟩ : ByteArray)⟩ : S24)] : List (S24))) := ⟨_, rfl⟩
 replace H : ((journal_Add.f k t180 t181 t184 y187).bind fun bt190 => ((journal_After.f k bt190.1 bt190.2.1 bt190.2.2.1 6).bind fun t197 => (if t175 = 0 then (if t185 = 0 then (if bt190.2.2.2 = 0 then (if bt190.1 = 7 then (if (t197.length : Int) = 1 then (if 0 < (t197.length : Int) then (some (((rd_T24 t197 0).f1) == 3)) else (none)) else (none)) else (none)) else (none)) else (none)) else (none)))) = some r := by first | (rw [hy187]; with_reducible exact H) | (have H2_ := (Option.bind_some _ _).symm.trans H; rw [hy187]; with_reducible exact H2_) | (have H2_ := (Option.bind_some _ _).symm.trans H; with_reducible exact H2_) | with_reducible exact H | (rw [hy187]; exact H) | exact H
 have Ny187 := Ax.mk hy187
 clear hy187
 replace H := Option.bind_eq_some_iff.mp H
 obtain ⟨⟨t190, t191, t194, t195⟩, A30, H⟩ := H
 replace H : ((journal_After.f k t190 t191 t194 6).bind fun t197 => (if t175 = 0 then (if t185 = 0 then (if t195 = 0 then (if t190 = 7 then (if (t197.length : Int) = 1 then (if 0 < (t197.length : Int) then (some (((rd_T24 t197 0).f1) == 3)) else (none)) else (none)) else (none)) else (none)) else (none)) else (none))) = some r := H
 have A3 := Ax.mk A30
 clear A30
 replace H := Option.bind_eq_some_iff.mp H
 obtain ⟨t197, A40, H⟩ := H
 replace H : (if t175 = 0 then (if t185 = 0 then (if t195 = 0 then (if t190 = 7 then (if (t197.length : Int) = 1 then (if 0 < (t197.length : Int) then (some (((rd_T24 t197 0).f1) == 3)) else (none)) else (none)) else (none)) else (none)) else (none)) else (none)) = some r := H
 have A4 := Ax.mk A40
 clear A40
 by_cases c5 : t175 = 0
 ·rw [if_pos c5] at H
  have c5b0 : (t175 == 0) = true := beq_iff_eq.mpr c5
  have c5b1 : (t175 != 0) = false := bne_eq_false_iff_eq.mpr c5
  clear c5
  by_cases c6 : t185 = 0
  ·rw [if_pos c6] at H
   have c6b0 : (t185 == 0) = true := beq_iff_eq.mpr c6
   have c6b1 : (t185 != 0) = false := bne_eq_false_iff_eq.mpr c6
   clear c6
   by_cases c7 : t195 = 0
   ·rw [if_pos c7] at H
    have c7b0 : (t195 == 0) = true := beq_iff_eq.mpr c7
    have c7b1 : (t195 != 0) = false := bne_eq_false_iff_eq.mpr c7
    clear c7
    by_cases c8 : t190 = 7
    ·rw [if_pos c8] at H
     have c8b0 : (t190 == 7) = true := beq_iff_eq.mpr c8
     have c8b1 : (t190 != 7) = false := bne_eq_false_iff_eq.mpr c8
     clear c8
     by_cases c9 : (t197.length : Int) = 1
     ·rw [if_pos c9] at H
      have c9b0 : ((t197.length : Int) == 1) = true := beq_iff_eq.mpr c9
      have c9b1 : ((t197.length : Int) != 1) = false := bne_eq_false_iff_eq.mpr c9
      clear c9
      by_cases c10 : 0 < (t197.length : Int)
      ·rw [if_pos c10] at H
       have c10b0 : decide (0 < (t197.length : Int)) = true := decide_eq_true c10
       have c10b1 : decide (0 < t197.length) = true := decide_eq_true (by omega)
       clear c10
       obtain rfl := Option.some.inj H
       go_enter Tryd.func31, Tryd.ntmps31
       go_wp2_with (first | ((with_reducible refine gate_dst (N := 10) rfl ?_); (try (refine gate_guard (by rfl) ?_; dsimp only)); refine Kd.R_lit k24 _ 24 ?hg (N := 10) ?hd (xs := ([(⟨3, 1, 0, 0, (⟨#[]⟩ : ByteArray)⟩ : S24)] : List (S24))) (inner := [.int .i64 3, .int .i64 1, .int .i64 0, .int .u64 0, .string (⟨#[]⟩ : ByteArray)]) (ok := fun _ => True) (okp := fun _ => True) ?hr ?hp (fun _ hk => hk) trivial (Below.refl _ _) (Nat.le_refl _) (by simp) ?_; (case hd => rfl); (case hg => rfl); (case hr => first | (go_simp; done) | (go_simp; rfl)); (case hp => exact (Reps.c5 (show Kd.M k24 _ _ _ (⟨3, 1, 0, 0, (⟨#[]⟩ : ByteArray)⟩ : S24) [.int .i64 3, .int .i64 1, .int .i64 0, .int .u64 0, .string (⟨#[]⟩ : ByteArray)] from (k24_mkM _ _ _ (⟨3, 1, 0, 0, (⟨#[]⟩ : ByteArray)⟩ : S24) )) (Reps.none _ _))); intro v168 w11 ho12 hb hg_ hnew_; clear hg_ hnew_; (first | rw [← Ny167.out] at ho12 | (simp only [Int.reduceToNat] at ho12; rw [← Ny167.out] at ho12)); have n0_ := Ax.mk (Kd.R_lower ho12 (bS bA)); have n1_ := Ax.mk (bP bA hb); clear HB; have HO169 := n0_; have HB := n1_; clear n0_ n1_; clear hb ho12; obtain ⟨Ao13, co13, eo13⟩ := Kd.R_slice HO169.out; subst eo13) | ((with_reducible refine gate_callee (f := 38) rfl ?_); refine goesL_ (some 11) rfl rfl Tryd.func38 (by kernel_rfl) rfl #[.int .u64 5, .slice Ao13 y167.length co13] rfl (by (try simp only [List.map_toArray, List.map_cons, List.map_nil]); first | done | rfl | (simp only [List.length_drop, List.length_take]; rfl) | (rw [wrap_sum2 (by assumption)]; rfl)) ?_; (with_reducible refine (journal_New.calls k 5 _ _ y167 t170 t171 t174 t175 _ ?side1 ?side2 A1.out (HT.below bA)).mono ?_); (case side1 => repeat (first | exact (Kd.R_reads' HO169.out).2.2 | (with_reducible refine Kd.C_alloc ?_ _) | (with_reducible refine Kd.C_drewN ?_ _) | (with_reducible refine Kd.C_drew ?_))); (case side2 => exact (Kd.R_reads' HO169.out).2.1); rintro e w14 ⟨v172, rfl, ho0, hb⟩; refine ⟨_, rfl, ?_⟩; have n0_ := Ax.mk (Kd.R_below (by exact Kd.R_to HO169.out) hb); have n1_ := Ax.mk (Kd.N_lower (Kd.N_mono (ok' := fun k_ => some k_ ≠ (.slice Ao13 y167.length co13 : Value).ownBlock) ho0 (fun k_ hk_ => (Kd.fresh' (Kd.R_lt (by exact Kd.R_to HO169.out)) k_ hk_))) (bS bA)); have n2_ := Ax.mk (bP bA hb); clear HO169; clear HB; have HO169 := n0_; have HO173 := n1_; have HB := n2_; clear n0_ n1_ n2_; (try clear hb); (try clear hb2); (try clear hk); (try clear hi); (try clear ho0)) | ((with_reducible refine gate_dst (N := 1) rfl ?_); (try (refine gate_guard (by rfl) ?_; dsimp only)); refine box_event ?hg (N := 1) ?hd (cs := #[.int .u64 0, .slice none 0 0, .string (⟨#[]⟩ : ByteArray)]) (t := 66) ?hr ?_; (case hd => rfl); (case hg => rfl); (case hr => first | (go_simp; done) | (go_simp; rfl)); intro gb176 hg w15 hbox hb; have n0_ := Ax.mk (Kd.R_below (by exact Kd.R_to HO169.out) hb); have n1_ := Ax.mk (Kd.N_below (Kd.N_elderB (by exact Kd.N_to HO173.out) gb176 (Nat.le_of_eq hg.symm)) hb); have n2_ := Ax.mk (bP bA hb); have n3_ := Ax.mk (hbox); have n4_ := Ax.mk ((ge_new hg : w.heap.size ≤ gb176)); have n5_ := n4_; clear HO169; clear HO173; clear HB; have HO169 := n0_; have HO173 := n1_; have HB := n2_; have BK176 := n3_; have GW176 := n4_; have GE176 := n5_; clear n0_ n1_ n2_ n3_ n4_ n5_; clear hb hbox hg; have hcz16_0 : w15.cell? ⟨gb176, 0, none⟩ = some (.int .u64 0) := (bC BK176.out 0).trans rfl; have hcz16_1 : w15.cell? ⟨gb176, 1, none⟩ = some (.slice none 0 0) := (bC BK176.out 1).trans rfl; have hcz16_2 : w15.cell? ⟨gb176, 2, none⟩ = some (.string (⟨#[]⟩ : ByteArray)) := (bC BK176.out 2).trans rfl; have hfz16_0 := bF BK176.out 0; have hfz16_1 := bF BK176.out 1; have hfz16_2 := bF BK176.out 2; obtain ⟨Ao17, co17, eo17⟩ := Kd.N_slice HO173.out; subst eo17) | ((with_reducible refine gate_dst (N := 17) rfl ?_); (try (refine gate_guard (by rfl) ?_; dsimp only)); refine Kd.R_lit k24 _ 24 ?hg (N := 17) ?hd (xs := ([(⟨3, 2, 0, 0, (⟨#[]⟩ : ByteArray)⟩ : S24)] : List (S24))) (inner := [.int .i64 3, .int .i64 2, .int .i64 0, .int .u64 0, .string (⟨#[]⟩ : ByteArray)]) (ok := fun _ => True) (okp := fun _ => True) ?hr ?hp (fun _ hk => hk) trivial (Below.refl _ _) (Nat.le_refl _) (by simp) ?_; (case hd => rfl); (case hg => rfl); (case hr => first | (go_simp; done) | (go_simp; rfl)); (case hp => exact (Reps.c5 (show Kd.M k24 _ _ _ (⟨3, 2, 0, 0, (⟨#[]⟩ : ByteArray)⟩ : S24) [.int .i64 3, .int .i64 2, .int .i64 0, .int .u64 0, .string (⟨#[]⟩ : ByteArray)] from (k24_mkM _ _ _ (⟨3, 2, 0, 0, (⟨#[]⟩ : ByteArray)⟩ : S24) )) (Reps.none _ _))); intro v178 w18 ho19 hb hg_ hnew_; clear hg_ hnew_; (first | rw [← Ny177.out] at ho19 | (simp only [Int.reduceToNat] at ho19; rw [← Ny177.out] at ho19)); have n0_ := Ax.mk (Kd.R_elder' (by apply Kd.R_to; exact (Kd.R_mono (Kd.R_far (p := ⟨gb176, 2, none⟩) (Kd.R_far (p := ⟨gb176, 1, none⟩) (Kd.R_far (p := ⟨gb176, 0, none⟩) (Kd.R_types HO169.out BK176.out (by decide)) (fun _ hk => hk.2) (.int .u64 t170)) (fun _ hk => hk.2) (.slice Ao17 t171.length co17)) (fun _ hk => hk.2) (.string t174)) (fun _ h_ => h_.1))) (Kd.R_base ho19) hb); have n1_ := Ax.mk (Kd.N_elder' (by apply Kd.N_to; exact (Kd.N_mono (Kd.N_far (p := ⟨gb176, 2, none⟩) (Kd.N_far (p := ⟨gb176, 1, none⟩) (Kd.N_far (p := ⟨gb176, 0, none⟩) (Kd.N_mono HO173.out (fun k_ hk => (⟨hk, hk.2⟩ : _ ∧ k_ ≠ gb176))) (fun _ hk => hk.2) (.int .u64 t170)) (fun _ hk => hk.2) (.slice Ao17 t171.length co17)) (fun _ hk => hk.2) (.string t174)) (fun _ h_ => h_.1))) (Kd.R_base ho19) hb); have n2_ := Ax.mk (Kd.R_lower (Kd.R_new' ho19 (Kd.R_lt (by apply Kd.R_to; exact (Kd.R_mono (Kd.R_far (p := ⟨gb176, 2, none⟩) (Kd.R_far (p := ⟨gb176, 1, none⟩) (Kd.R_far (p := ⟨gb176, 0, none⟩) (Kd.R_types HO169.out BK176.out (by decide)) (fun _ hk => hk.2) (.int .u64 t170)) (fun _ hk => hk.2) (.slice Ao17 t171.length co17)) (fun _ hk => hk.2) (.string t174)) (fun _ h_ => h_.1))))) (bS bA)); have n3_ := Ax.mk (bB (g := gb176) (o := .cells #[.int .u64 t170, .slice Ao17 t171.length co17, .string t174] 66 (0, 0)) (by refine bT ?_; refine bU (cs := #[.int .u64 t170, .slice Ao17 t171.length co17, .string (⟨#[]⟩ : ByteArray)]) ?_ 2 _ rfl; refine bT ?_; refine bU (cs := #[.int .u64 t170, .slice none 0 0, .string (⟨#[]⟩ : ByteArray)]) ?_ 1 _ rfl; refine bT ?_; refine bU (cs := #[.int .u64 0, .slice none 0 0, .string (⟨#[]⟩ : ByteArray)]) ?_ 0 _ rfl; exact bT BK176.out) hb); have n4_ := Ax.mk (bP bA hb); clear HO169; clear HO173; clear BK176; clear HB; have HO169 := n0_; have HO173 := n1_; have HO179 := n2_; have BK176 := n3_; have HB := n4_; clear n0_ n1_ n2_ n3_ n4_; clear hb ho19; obtain ⟨Ao20, co20, eo20⟩ := Kd.R_slice HO179.out; subst eo20) | ((with_reducible refine gate_callee (f := 39) rfl ?_); refine goesL_ (some 18) rfl rfl Tryd.func39 (by kernel_rfl) rfl #[.agg #[.int .u64 t170, .slice Ao17 t171.length co17, .string t174], .slice Ao20 y177.length co20] rfl (by (try simp only [List.map_toArray, List.map_cons, List.map_nil]); first | done | rfl | (simp only [List.length_drop, List.length_take]; rfl) | (rw [wrap_sum2 (by assumption)]; rfl)) ?_; (with_reducible refine (journal_Add.calls k t170 (fun k_ => ((some k_ ≠ (.slice Ao13 y167.length co13 : Value).ownBlock ∧ k_ ≠ gb176) ∧ some k_ ≠ (.slice Ao20 y177.length co20 : Value).ownBlock)) _ _ t171 t174 _ _ y177 t180 t181 t184 t185 _ ?side1 ?side2 ?side3 A2.out (HT.below bA)).mono ?_); (case side1 => exact Kd.N_V (HO173.out)); (case side2 => repeat (first | exact (Kd.R_reads' HO179.out).2.2 | (with_reducible refine Kd.C_alloc ?_ _) | (with_reducible refine Kd.C_drewN ?_ _) | (with_reducible refine Kd.C_drew ?_))); (case side3 => exact (Kd.R_reads' HO179.out).2.1); rintro e w21 ⟨v182, rfl, ho0, hb⟩; refine ⟨_, rfl, ?_⟩; have n0_ := Ax.mk (Kd.R_below (by exact Kd.R_to HO169.out) hb); have n1_ := Ax.mk (Kd.N_elder' (by exact Kd.N_to HO173.out) (Kd.N_base ho0) hb); have n2_ := Ax.mk (Kd.R_below (by exact Kd.R_to HO179.out) hb); have n3_ := Ax.mk (Kd.N_lower (Kd.N_mono (ok' := fun k_ => some k_ ≠ (.slice Ao13 y167.length co13 : Value).ownBlock ∧ some k_ ≠ (.slice Ao20 y177.length co20 : Value).ownBlock ∧ k_ ≠ gb176) ho0 (fun k_ hk_ => ⟨Or.elim hk_ (fun hs_ => hs_.1.1) (fun hn_ => (Kd.fresh' (Kd.R_lt (by exact Kd.R_to HO169.out)) k_ hn_)), Or.elim hk_ (fun hs_ => hs_.2) (fun hn_ => (Kd.fresh' (Kd.R_lt (by exact Kd.R_to HO179.out)) k_ hn_)), Or.elim hk_ (fun hs_ => hs_.1.2) (fun hn_ => (Kd.freshB (g := gb176) (o := .cells #[.int .u64 t170, .slice Ao17 t171.length co17, .string t174] 66 (0, 0)) (bT BK176.out) k_ hn_))⟩)) (bS bA)); have n4_ := Ax.mk (bB (bT BK176.out) hb); have n5_ := Ax.mk (bP bA hb); clear HO169; clear HO173; clear HO179; clear BK176; clear HB; have HO169 := n0_; have HO173 := n1_; have HO179 := n2_; have HO183 := n3_; have BK176 := n4_; have HB := n5_; clear n0_ n1_ n2_ n3_ n4_ n5_; (try clear hb); (try clear hb2); (try clear hk); (try clear hi); (try clear ho0)) | ((with_reducible refine gate_dst (N := 3) rfl ?_); (try (refine gate_guard (by rfl) ?_; dsimp only)); refine box_event ?hg (N := 3) ?hd (cs := #[.int .u64 0, .slice none 0 0, .string (⟨#[]⟩ : ByteArray)]) (t := 66) ?hr ?_; (case hd => rfl); (case hg => rfl); (case hr => first | (go_simp; done) | (go_simp; rfl)); intro gb186 hg w22 hbox hb; have n0_ := Ax.mk (Kd.R_below (by exact Kd.R_to HO169.out) hb); have n1_ := Ax.mk (Kd.N_below (Kd.N_elderB (by exact Kd.N_to HO173.out) gb186 (Nat.le_of_eq hg.symm)) hb); have n2_ := Ax.mk (Kd.R_below (by exact Kd.R_to HO179.out) hb); have n3_ := Ax.mk (Kd.N_below (Kd.N_elderB (by exact Kd.N_to HO183.out) gb186 (Nat.le_of_eq hg.symm)) hb); have n4_ := Ax.mk (bB (bT BK176.out) hb); have n5_ := Ax.mk (bP bA hb); have n6_ := Ax.mk (hbox); have n7_ := Ax.mk ((ge_new hg : w.heap.size ≤ gb186)); have n8_ := n7_; have n9_ := Ax.mk ((ne_lt hg BK176.out : gb176 ≠ gb186)); have n10_ := Ax.mk ((ne_gt hg BK176.out : gb186 ≠ gb176)); clear HO169; clear HO173; clear HO179; clear HO183; clear BK176; clear HB; have HO169 := n0_; have HO173 := n1_; have HO179 := n2_; have HO183 := n3_; have BK176 := n4_; have HB := n5_; have BK186 := n6_; have GW186 := n7_; have GE186 := n8_; have NB176_186 := n9_; have NB186_176 := n10_; clear n0_ n1_ n2_ n3_ n4_ n5_ n6_ n7_ n8_ n9_ n10_; clear hb hbox hg; have hnb23 := NB186_176.out; have hnc23 := NB176_186.out; have hcz24_0 : w22.cell? ⟨gb186, 0, none⟩ = some (.int .u64 0) := (bC BK186.out 0).trans rfl; have hcz24_1 : w22.cell? ⟨gb186, 1, none⟩ = some (.slice none 0 0) := (bC BK186.out 1).trans rfl; have hcz24_2 : w22.cell? ⟨gb186, 2, none⟩ = some (.string (⟨#[]⟩ : ByteArray)) := (bC BK186.out 2).trans rfl; have hfz24_0 := bF BK186.out 0; have hfz24_1 := bF BK186.out 1; have hfz24_2 := bF BK186.out 2; obtain ⟨Ao25, co25, eo25⟩ := Kd.N_slice HO183.out; subst eo25) | ((with_reducible refine gate_dst (N := 24) rfl ?_); (try (refine gate_guard (by rfl) ?_; dsimp only)); refine Kd.R_lit k24 _ 24 ?hg (N := 24) ?hd (xs := ([(⟨3, 3, 0, 0, (⟨#[]⟩ : ByteArray)⟩ : S24)] : List (S24))) (inner := [.int .i64 3, .int .i64 3, .int .i64 0, .int .u64 0, .string (⟨#[]⟩ : ByteArray)]) (ok := fun _ => True) (okp := fun _ => True) ?hr ?hp (fun _ hk => hk) trivial (Below.refl _ _) (Nat.le_refl _) (by simp) ?_; (case hd => rfl); (case hg => rfl); (case hr => first | (go_simp; done) | (go_simp; rfl)); (case hp => exact (Reps.c5 (show Kd.M k24 _ _ _ (⟨3, 3, 0, 0, (⟨#[]⟩ : ByteArray)⟩ : S24) [.int .i64 3, .int .i64 3, .int .i64 0, .int .u64 0, .string (⟨#[]⟩ : ByteArray)] from (k24_mkM _ _ _ (⟨3, 3, 0, 0, (⟨#[]⟩ : ByteArray)⟩ : S24) )) (Reps.none _ _))); intro v188 w26 ho27 hb hg_ hnew_; clear hg_ hnew_; (first | rw [← Ny187.out] at ho27 | (simp only [Int.reduceToNat] at ho27; rw [← Ny187.out] at ho27)); have n0_ := Ax.mk (Kd.R_elder' (by apply Kd.R_to; exact (Kd.R_mono (Kd.R_far (p := ⟨gb186, 2, none⟩) (Kd.R_far (p := ⟨gb186, 1, none⟩) (Kd.R_far (p := ⟨gb186, 0, none⟩) (Kd.R_types HO169.out BK186.out (by decide)) (fun _ hk => hk.2) (.int .u64 t180)) (fun _ hk => hk.2) (.slice Ao25 t181.length co25)) (fun _ hk => hk.2) (.string t184)) (fun _ h_ => h_.1))) (Kd.R_base ho27) hb); have n1_ := Ax.mk (Kd.N_elder' (by apply Kd.N_to; exact (Kd.N_mono (Kd.N_far (p := ⟨gb186, 2, none⟩) (Kd.N_far (p := ⟨gb186, 1, none⟩) (Kd.N_far (p := ⟨gb186, 0, none⟩) (Kd.N_mono HO173.out (fun k_ hk => (⟨hk, hk.2⟩ : _ ∧ k_ ≠ gb186))) (fun _ hk => hk.2) (.int .u64 t180)) (fun _ hk => hk.2) (.slice Ao25 t181.length co25)) (fun _ hk => hk.2) (.string t184)) (fun _ h_ => h_.1))) (Kd.R_base ho27) hb); have n2_ := Ax.mk (Kd.R_elder' (by apply Kd.R_to; exact (Kd.R_mono (Kd.R_far (p := ⟨gb186, 2, none⟩) (Kd.R_far (p := ⟨gb186, 1, none⟩) (Kd.R_far (p := ⟨gb186, 0, none⟩) (Kd.R_types HO179.out BK186.out (by decide)) (fun _ hk => hk.2) (.int .u64 t180)) (fun _ hk => hk.2) (.slice Ao25 t181.length co25)) (fun _ hk => hk.2) (.string t184)) (fun _ h_ => h_.1))) (Kd.R_base ho27) hb); have n3_ := Ax.mk (Kd.N_elder' (by apply Kd.N_to; exact (Kd.N_mono (Kd.N_far (p := ⟨gb186, 2, none⟩) (Kd.N_far (p := ⟨gb186, 1, none⟩) (Kd.N_far (p := ⟨gb186, 0, none⟩) (Kd.N_mono HO183.out (fun k_ hk => (⟨hk, hk.2⟩ : _ ∧ k_ ≠ gb186))) (fun _ hk => hk.2) (.int .u64 t180)) (fun _ hk => hk.2) (.slice Ao25 t181.length co25)) (fun _ hk => hk.2) (.string t184)) (fun _ h_ => h_.1))) (Kd.R_base ho27) hb); have n4_ := Ax.mk (Kd.R_lower (Kd.R_new' (Kd.R_new' ho27 (Kd.R_lt (by apply Kd.R_to; exact (Kd.R_mono (Kd.R_far (p := ⟨gb186, 2, none⟩) (Kd.R_far (p := ⟨gb186, 1, none⟩) (Kd.R_far (p := ⟨gb186, 0, none⟩) (Kd.R_types HO169.out BK186.out (by decide)) (fun _ hk => hk.2) (.int .u64 t180)) (fun _ hk => hk.2) (.slice Ao25 t181.length co25)) (fun _ hk => hk.2) (.string t184)) (fun _ h_ => h_.1))))) (Kd.R_lt (by apply Kd.R_to; exact (Kd.R_mono (Kd.R_far (p := ⟨gb186, 2, none⟩) (Kd.R_far (p := ⟨gb186, 1, none⟩) (Kd.R_far (p := ⟨gb186, 0, none⟩) (Kd.R_types HO179.out BK186.out (by decide)) (fun _ hk => hk.2) (.int .u64 t180)) (fun _ hk => hk.2) (.slice Ao25 t181.length co25)) (fun _ hk => hk.2) (.string t184)) (fun _ h_ => h_.1))))) (bS bA)); have n5_ := Ax.mk (bB (g := gb176) (o := .cells #[.int .u64 t170, .slice Ao17 t171.length co17, .string t174] 66 (0, 0)) (by refine bT ?_; refine bR ?_ NB176_186.out _; refine bT ?_; refine bR ?_ NB176_186.out _; refine bT ?_; refine bR ?_ NB176_186.out _; exact bT BK176.out) hb); have n6_ := Ax.mk (bB (g := gb186) (o := .cells #[.int .u64 t180, .slice Ao25 t181.length co25, .string t184] 66 (0, 0)) (by refine bT ?_; refine bU (cs := #[.int .u64 t180, .slice Ao25 t181.length co25, .string (⟨#[]⟩ : ByteArray)]) ?_ 2 _ rfl; refine bT ?_; refine bU (cs := #[.int .u64 t180, .slice none 0 0, .string (⟨#[]⟩ : ByteArray)]) ?_ 1 _ rfl; refine bT ?_; refine bU (cs := #[.int .u64 0, .slice none 0 0, .string (⟨#[]⟩ : ByteArray)]) ?_ 0 _ rfl; exact bT BK186.out) hb); have n7_ := Ax.mk (bP bA hb); clear HO169; clear HO173; clear HO179; clear HO183; clear BK176; clear BK186; clear HB; have HO169 := n0_; have HO173 := n1_; have HO179 := n2_; have HO183 := n3_; have HO189 := n4_; have BK176 := n5_; have BK186 := n6_; have HB := n7_; clear n0_ n1_ n2_ n3_ n4_ n5_ n6_ n7_; clear hb ho27; obtain ⟨Ao28, co28, eo28⟩ := Kd.R_slice HO189.out; subst eo28) | ((with_reducible refine gate_callee (f := 39) rfl ?_); refine goesL_ (some 25) rfl rfl Tryd.func39 (by kernel_rfl) rfl #[.agg #[.int .u64 t180, .slice Ao25 t181.length co25, .string t184], .slice Ao28 y187.length co28] rfl (by (try simp only [List.map_toArray, List.map_cons, List.map_nil]); first | done | rfl | (simp only [List.length_drop, List.length_take]; rfl) | (rw [wrap_sum2 (by assumption)]; rfl)) ?_; (with_reducible refine (journal_Add.calls k t180 (fun k_ => (((some k_ ≠ (.slice Ao13 y167.length co13 : Value).ownBlock ∧ (some k_ ≠ (.slice Ao20 y177.length co20 : Value).ownBlock ∧ k_ ≠ gb176)) ∧ k_ ≠ gb186) ∧ some k_ ≠ (.slice Ao28 y187.length co28 : Value).ownBlock)) _ _ t181 t184 _ _ y187 t190 t191 t194 t195 _ ?side1 ?side2 ?side3 A3.out (HT.below bA)).mono ?_); (case side1 => exact Kd.N_V (HO183.out)); (case side2 => repeat (first | exact (Kd.R_reads' HO189.out).2.2 | (with_reducible refine Kd.C_alloc ?_ _) | (with_reducible refine Kd.C_drewN ?_ _) | (with_reducible refine Kd.C_drew ?_))); (case side3 => exact (Kd.R_reads' HO189.out).2.1); rintro e w29 ⟨v192, rfl, ho0, hb⟩; refine ⟨_, rfl, ?_⟩; have n0_ := Ax.mk (Kd.R_below (by exact Kd.R_to HO169.out) hb); have n1_ := Ax.mk (Kd.N_elder' (by exact Kd.N_to HO173.out) (Kd.N_base ho0) hb); have n2_ := Ax.mk (Kd.R_below (by exact Kd.R_to HO179.out) hb); have n3_ := Ax.mk (Kd.N_elder' (by exact Kd.N_to HO183.out) (Kd.N_base ho0) hb); have n4_ := Ax.mk (Kd.R_below (by exact Kd.R_to HO189.out) hb); have n5_ := Ax.mk (Kd.N_lower (Kd.N_mono (ok' := fun k_ => some k_ ≠ (.slice Ao13 y167.length co13 : Value).ownBlock ∧ some k_ ≠ (.slice Ao20 y177.length co20 : Value).ownBlock ∧ some k_ ≠ (.slice Ao28 y187.length co28 : Value).ownBlock ∧ k_ ≠ gb176 ∧ k_ ≠ gb186) ho0 (fun k_ hk_ => ⟨Or.elim hk_ (fun hs_ => hs_.1.1.1) (fun hn_ => (Kd.fresh' (Kd.R_lt (by exact Kd.R_to HO169.out)) k_ hn_)), Or.elim hk_ (fun hs_ => hs_.1.1.2.1) (fun hn_ => (Kd.fresh' (Kd.R_lt (by exact Kd.R_to HO179.out)) k_ hn_)), Or.elim hk_ (fun hs_ => hs_.2) (fun hn_ => (Kd.fresh' (Kd.R_lt (by exact Kd.R_to HO189.out)) k_ hn_)), Or.elim hk_ (fun hs_ => hs_.1.1.2.2) (fun hn_ => (Kd.freshB (g := gb176) (o := .cells #[.int .u64 t170, .slice Ao17 t171.length co17, .string t174] 66 (0, 0)) (bT BK176.out) k_ hn_)), Or.elim hk_ (fun hs_ => hs_.1.2) (fun hn_ => (Kd.freshB (g := gb186) (o := .cells #[.int .u64 t180, .slice Ao25 t181.length co25, .string t184] 66 (0, 0)) (bT BK186.out) k_ hn_))⟩)) (bS bA)); have n6_ := Ax.mk (bB (bT BK176.out) hb); have n7_ := Ax.mk (bB (bT BK186.out) hb); have n8_ := Ax.mk (bP bA hb); clear HO169; clear HO173; clear HO179; clear HO183; clear HO189; clear BK176; clear BK186; clear HB; have HO169 := n0_; have HO173 := n1_; have HO179 := n2_; have HO183 := n3_; have HO189 := n4_; have HO193 := n5_; have BK176 := n6_; have BK186 := n7_; have HB := n8_; clear n0_ n1_ n2_ n3_ n4_ n5_ n6_ n7_ n8_; (try clear hb); (try clear hb2); (try clear hk); (try clear hi); (try clear ho0)) | ((with_reducible refine gate_dst (N := 5) rfl ?_); (try (refine gate_guard (by rfl) ?_; dsimp only)); refine box_event ?hg (N := 5) ?hd (cs := #[.int .u64 0, .slice none 0 0, .string (⟨#[]⟩ : ByteArray)]) (t := 66) ?hr ?_; (case hd => rfl); (case hg => rfl); (case hr => first | (go_simp; done) | (go_simp; rfl)); intro gb196 hg w30 hbox hb; have n0_ := Ax.mk (Kd.R_below (by exact Kd.R_to HO169.out) hb); have n1_ := Ax.mk (Kd.N_below (Kd.N_elderB (by exact Kd.N_to HO173.out) gb196 (Nat.le_of_eq hg.symm)) hb); have n2_ := Ax.mk (Kd.R_below (by exact Kd.R_to HO179.out) hb); have n3_ := Ax.mk (Kd.N_below (Kd.N_elderB (by exact Kd.N_to HO183.out) gb196 (Nat.le_of_eq hg.symm)) hb); have n4_ := Ax.mk (Kd.R_below (by exact Kd.R_to HO189.out) hb); have n5_ := Ax.mk (Kd.N_below (Kd.N_elderB (by exact Kd.N_to HO193.out) gb196 (Nat.le_of_eq hg.symm)) hb); have n6_ := Ax.mk (bB (bT BK176.out) hb); have n7_ := Ax.mk (bB (bT BK186.out) hb); have n8_ := Ax.mk (bP bA hb); have n9_ := Ax.mk (hbox); have n10_ := Ax.mk ((ge_new hg : w.heap.size ≤ gb196)); have n11_ := n10_; have n12_ := Ax.mk ((ne_lt hg BK176.out : gb176 ≠ gb196)); have n13_ := Ax.mk ((ne_gt hg BK176.out : gb196 ≠ gb176)); have n14_ := Ax.mk ((ne_lt hg BK186.out : gb186 ≠ gb196)); have n15_ := Ax.mk ((ne_gt hg BK186.out : gb196 ≠ gb186)); clear HO169; clear HO173; clear HO179; clear HO183; clear HO189; clear HO193; clear BK176; clear BK186; clear HB; have HO169 := n0_; have HO173 := n1_; have HO179 := n2_; have HO183 := n3_; have HO189 := n4_; have HO193 := n5_; have BK176 := n6_; have BK186 := n7_; have HB := n8_; have BK196 := n9_; have GW196 := n10_; have GE196 := n11_; have NB176_196 := n12_; have NB196_176 := n13_; have NB186_196 := n14_; have NB196_186 := n15_; clear n0_ n1_ n2_ n3_ n4_ n5_ n6_ n7_ n8_ n9_ n10_ n11_ n12_ n13_ n14_ n15_; clear hb hbox hg; have hnb31 := NB196_176.out; have hnc31 := NB176_196.out; have hnb32 := NB196_186.out; have hnc32 := NB186_196.out; have hcz33_0 : w30.cell? ⟨gb196, 0, none⟩ = some (.int .u64 0) := (bC BK196.out 0).trans rfl; have hcz33_1 : w30.cell? ⟨gb196, 1, none⟩ = some (.slice none 0 0) := (bC BK196.out 1).trans rfl; have hcz33_2 : w30.cell? ⟨gb196, 2, none⟩ = some (.string (⟨#[]⟩ : ByteArray)) := (bC BK196.out 2).trans rfl; have hfz33_0 := bF BK196.out 0; have hfz33_1 := bF BK196.out 1; have hfz33_2 := bF BK196.out 2; obtain ⟨Ao34, co34, eo34⟩ := Kd.N_slice HO193.out; subst eo34) | ((with_reducible refine gate_callee (f := 36) rfl ?_); refine goesL_ (some 29) rfl rfl Tryd.func36 (by kernel_rfl) rfl #[.agg #[.int .u64 t190, .slice Ao34 t191.length co34, .string t194], .int .u64 6] rfl (by (try simp only [List.map_toArray, List.map_cons, List.map_nil]); first | done | rfl | (simp only [List.length_drop, List.length_take]; rfl) | (rw [wrap_sum2 (by assumption)]; rfl)) ?_; (with_reducible refine (journal_After.calls k t190 _ _ t191 t194 6 t197 _ ?side1 ?side2 A4.out).mono ?_); (case side1 => refine (Kd.N_reads' (e := 44) (base := w.heap.size) (ok := fun k_ => ((some k_ ≠ (.slice Ao13 y167.length co13 : Value).ownBlock ∧ (some k_ ≠ (.slice Ao20 y177.length co20 : Value).ownBlock ∧ (some k_ ≠ (.slice Ao28 y187.length co28 : Value).ownBlock ∧ (k_ ≠ gb176 ∧ k_ ≠ gb186)))) ∧ k_ ≠ gb196)) (n := t191.length) (c := co34) ?_).2.2; exact (by apply Kd.N_to; exact (Kd.N_mono (Kd.N_far (p := ⟨gb196, 2, none⟩) (Kd.N_far (p := ⟨gb196, 1, none⟩) (Kd.N_far (p := ⟨gb196, 0, none⟩) (Kd.N_mono HO193.out (fun k_ hk => (⟨hk, hk.2⟩ : _ ∧ k_ ≠ gb196))) (fun _ hk => hk.2) (.int .u64 t190)) (fun _ hk => hk.2) (.slice Ao34 t191.length co34)) (fun _ hk => hk.2) (.string t194)) (fun _ h_ => h_.1)))); (case side2 => exact (Kd.N_reads' HO193.out).2.1); rintro e w35 ⟨v198, rfl, ho0, hb⟩; refine ⟨_, rfl, ?_⟩; have n0_ := Ax.mk (Kd.R_elder' (by apply Kd.R_to; exact (Kd.R_mono (Kd.R_far (p := ⟨gb196, 2, none⟩) (Kd.R_far (p := ⟨gb196, 1, none⟩) (Kd.R_far (p := ⟨gb196, 0, none⟩) (Kd.R_types HO169.out BK196.out (by decide)) (fun _ hk => hk.2) (.int .u64 t190)) (fun _ hk => hk.2) (.slice Ao34 t191.length co34)) (fun _ hk => hk.2) (.string t194)) (fun _ h_ => h_.1))) (Kd.R_base ho0) hb); have n1_ := Ax.mk (Kd.N_elder' (by apply Kd.N_to; exact (Kd.N_mono (Kd.N_far (p := ⟨gb196, 2, none⟩) (Kd.N_far (p := ⟨gb196, 1, none⟩) (Kd.N_far (p := ⟨gb196, 0, none⟩) (Kd.N_mono HO173.out (fun k_ hk => (⟨hk, hk.2⟩ : _ ∧ k_ ≠ gb196))) (fun _ hk => hk.2) (.int .u64 t190)) (fun _ hk => hk.2) (.slice Ao34 t191.length co34)) (fun _ hk => hk.2) (.string t194)) (fun _ h_ => h_.1))) (Kd.R_base ho0) hb); have n2_ := Ax.mk (Kd.R_elder' (by apply Kd.R_to; exact (Kd.R_mono (Kd.R_far (p := ⟨gb196, 2, none⟩) (Kd.R_far (p := ⟨gb196, 1, none⟩) (Kd.R_far (p := ⟨gb196, 0, none⟩) (Kd.R_types HO179.out BK196.out (by decide)) (fun _ hk => hk.2) (.int .u64 t190)) (fun _ hk => hk.2) (.slice Ao34 t191.length co34)) (fun _ hk => hk.2) (.string t194)) (fun _ h_ => h_.1))) (Kd.R_base ho0) hb); have n3_ := Ax.mk (Kd.N_elder' (by apply Kd.N_to; exact (Kd.N_mono (Kd.N_far (p := ⟨gb196, 2, none⟩) (Kd.N_far (p := ⟨gb196, 1, none⟩) (Kd.N_far (p := ⟨gb196, 0, none⟩) (Kd.N_mono HO183.out (fun k_ hk => (⟨hk, hk.2⟩ : _ ∧ k_ ≠ gb196))) (fun _ hk => hk.2) (.int .u64 t190)) (fun _ hk => hk.2) (.slice Ao34 t191.length co34)) (fun _ hk => hk.2) (.string t194)) (fun _ h_ => h_.1))) (Kd.R_base ho0) hb); have n4_ := Ax.mk (Kd.R_elder' (by apply Kd.R_to; exact (Kd.R_mono (Kd.R_far (p := ⟨gb196, 2, none⟩) (Kd.R_far (p := ⟨gb196, 1, none⟩) (Kd.R_far (p := ⟨gb196, 0, none⟩) (Kd.R_types HO189.out BK196.out (by decide)) (fun _ hk => hk.2) (.int .u64 t190)) (fun _ hk => hk.2) (.slice Ao34 t191.length co34)) (fun _ hk => hk.2) (.string t194)) (fun _ h_ => h_.1))) (Kd.R_base ho0) hb); have n5_ := Ax.mk (Kd.N_elder' (by apply Kd.N_to; exact (Kd.N_mono (Kd.N_far (p := ⟨gb196, 2, none⟩) (Kd.N_far (p := ⟨gb196, 1, none⟩) (Kd.N_far (p := ⟨gb196, 0, none⟩) (Kd.N_mono HO193.out (fun k_ hk => (⟨hk, hk.2⟩ : _ ∧ k_ ≠ gb196))) (fun _ hk => hk.2) (.int .u64 t190)) (fun _ hk => hk.2) (.slice Ao34 t191.length co34)) (fun _ hk => hk.2) (.string t194)) (fun _ h_ => h_.1))) (Kd.R_base ho0) hb); have n6_ := Ax.mk (Kd.R_lower (Kd.R_new' (Kd.R_new' (Kd.R_new' ho0 (Kd.R_lt (by apply Kd.R_to; exact (Kd.R_mono (Kd.R_far (p := ⟨gb196, 2, none⟩) (Kd.R_far (p := ⟨gb196, 1, none⟩) (Kd.R_far (p := ⟨gb196, 0, none⟩) (Kd.R_types HO169.out BK196.out (by decide)) (fun _ hk => hk.2) (.int .u64 t190)) (fun _ hk => hk.2) (.slice Ao34 t191.length co34)) (fun _ hk => hk.2) (.string t194)) (fun _ h_ => h_.1))))) (Kd.R_lt (by apply Kd.R_to; exact (Kd.R_mono (Kd.R_far (p := ⟨gb196, 2, none⟩) (Kd.R_far (p := ⟨gb196, 1, none⟩) (Kd.R_far (p := ⟨gb196, 0, none⟩) (Kd.R_types HO179.out BK196.out (by decide)) (fun _ hk => hk.2) (.int .u64 t190)) (fun _ hk => hk.2) (.slice Ao34 t191.length co34)) (fun _ hk => hk.2) (.string t194)) (fun _ h_ => h_.1))))) (Kd.R_lt (by apply Kd.R_to; exact (Kd.R_mono (Kd.R_far (p := ⟨gb196, 2, none⟩) (Kd.R_far (p := ⟨gb196, 1, none⟩) (Kd.R_far (p := ⟨gb196, 0, none⟩) (Kd.R_types HO189.out BK196.out (by decide)) (fun _ hk => hk.2) (.int .u64 t190)) (fun _ hk => hk.2) (.slice Ao34 t191.length co34)) (fun _ hk => hk.2) (.string t194)) (fun _ h_ => h_.1))))) (bS bA)); have n7_ := Ax.mk (bB (g := gb176) (o := .cells #[.int .u64 t170, .slice Ao17 t171.length co17, .string t174] 66 (0, 0)) (by refine bT ?_; refine bR ?_ NB176_196.out _; refine bT ?_; refine bR ?_ NB176_196.out _; refine bT ?_; refine bR ?_ NB176_196.out _; exact bT BK176.out) hb); have n8_ := Ax.mk (bB (g := gb186) (o := .cells #[.int .u64 t180, .slice Ao25 t181.length co25, .string t184] 66 (0, 0)) (by refine bT ?_; refine bR ?_ NB186_196.out _; refine bT ?_; refine bR ?_ NB186_196.out _; refine bT ?_; refine bR ?_ NB186_196.out _; exact bT BK186.out) hb); have n9_ := Ax.mk (bB (g := gb196) (o := .cells #[.int .u64 t190, .slice Ao34 t191.length co34, .string t194] 66 (0, 0)) (by refine bT ?_; refine bU (cs := #[.int .u64 t190, .slice Ao34 t191.length co34, .string (⟨#[]⟩ : ByteArray)]) ?_ 2 _ rfl; refine bT ?_; refine bU (cs := #[.int .u64 t190, .slice none 0 0, .string (⟨#[]⟩ : ByteArray)]) ?_ 1 _ rfl; refine bT ?_; refine bU (cs := #[.int .u64 0, .slice none 0 0, .string (⟨#[]⟩ : ByteArray)]) ?_ 0 _ rfl; exact bT BK196.out) hb); have n10_ := Ax.mk (bP bA hb); clear HO169; clear HO173; clear HO179; clear HO183; clear HO189; clear HO193; clear BK176; clear BK186; clear BK196; clear HB; have HO169 := n0_; have HO173 := n1_; have HO179 := n2_; have HO183 := n3_; have HO189 := n4_; have HO193 := n5_; have HO199 := n6_; have BK176 := n7_; have BK186 := n8_; have BK196 := n9_; have HB := n10_; clear n0_ n1_ n2_ n3_ n4_ n5_ n6_ n7_ n8_ n9_ n10_; (try clear hb); (try clear hb2); (try clear hk); (try clear hi); (try clear ho0); have hcz36_0 : w35.cell? ⟨gb196, 0, none⟩ = some (.int .u64 t190) := (bC BK196.out 0).trans rfl; have hcz36_1 : w35.cell? ⟨gb196, 1, none⟩ = some (.slice Ao34 t191.length co34) := (bC BK196.out 1).trans rfl; have hcz36_2 : w35.cell? ⟨gb196, 2, none⟩ = some (.string t194) := (bC BK196.out 2).trans rfl; have hfz36_0 := bF BK196.out 0; have hfz36_1 := bF BK196.out 1; have hfz36_2 := bF BK196.out 2; obtain ⟨Ao37, co37, eo37⟩ := Kd.R_slice HO199.out; subst eo37; have p200 : 0 ≤ (0 : Int) := (by omega); have q200 : 0 < (t197.length : Int) := ofD; obtain ⟨ad200, e200, hx200_0, hx200_1, hx200_2, hx200_3, hx200_4⟩ := at_T24 (Kd.R_reads' HO199.out).2.2 0 p200 q200; cases e200; have qi200 : (0 < t197.length) = True := eq_true (by omega); (try rw [show ((0 : Int)).toNat = 0 from rfl] at hx200_0); (try rw [show 0 * 5 = 0 from rfl] at hx200_0); (try rw [Addr.add_zero'] at hx200_0); (try rw [show ((0 : Int)).toNat = 0 from rfl] at hx200_1); (try rw [show 0 * 5 = 0 from rfl] at hx200_1); (try rw [Addr.add_zero'] at hx200_1); (try rw [show ((0 : Int)).toNat = 0 from rfl] at hx200_2); (try rw [show 0 * 5 = 0 from rfl] at hx200_2); (try rw [Addr.add_zero'] at hx200_2); (try rw [show ((0 : Int)).toNat = 0 from rfl] at hx200_3); (try rw [show 0 * 5 = 0 from rfl] at hx200_3); (try rw [Addr.add_zero'] at hx200_3); (try rw [show ((0 : Int)).toNat = 0 from rfl] at hx200_4); (try rw [show 0 * 5 = 0 from rfl] at hx200_4); (try rw [Addr.add_zero'] at hx200_4); replace p200 := eq_true p200; replace q200 := eq_true q200))
       go_ret
       exact ⟨by first | rfl | (simp [errW_none, errW_some] <;> rfl) | (simp [*, errW_none, errW_some] <;> rfl), bA⟩
      ·rw [if_neg c10] at H
       exact absurd H (by simp)
     ·rw [if_neg c9] at H
      exact absurd H (by simp)
    ·rw [if_neg c8] at H
     exact absurd H (by simp)
   ·rw [if_neg c7] at H
    exact absurd H (by simp)
  ·rw [if_neg c6] at H
   exact absurd H (by simp)
 ·rw [if_neg c5] at H
  exact absurd H (by simp)
def seal_Take.f (a0 : ByteArray) : Option (ByteArray × Int) := if (wrap64 ((a0.size : Int) - 4)) < 0 then (some ((⟨#[]⟩ : ByteArray), 10)) else (if 0 ≤ (wrap64 ((a0.size : Int) - 4)) then (if (wrap64 ((a0.size : Int) - 4)) ≤ (a0.size : Int) then ((le_Get.f (a0.extract ((wrap64 ((a0.size : Int) - 4)) : Int).toNat a0.size)).bind fun t220 => ((seal_Sum.f (a0.extract 0 ((wrap64 ((a0.size : Int) - 4)) : Int).toNat)).bind fun t221 => (if t220 = (IntKind.u64.wrap (t221)) then (some (a0.extract 0 ((wrap64 ((a0.size : Int) - 4)) : Int).toNat, 0)) else (some ((⟨#[]⟩ : ByteArray), 9))))) else (none)) else (none))
def seal_Take.T4 : Bool × List (List Nat × List Nat) := (true, [([], []), ([], []), ([0, 1], [0, 1]), ([2], [2]), ([], []), ([], []), ([4, 5], [4, 5]), ([6, 3], [6]), ([7], [7]), ([3, 8], [3, 8]), ([9, 7], [9])])
def seal_Take.B4 : List Nat := [0, 0, 3, 7, 0, 0, 48, 127, 255, 511, 1023]
theorem seal_Take.tab4 : rtab .any (opsOf Tryd.f56 4) = seal_Take.T4 := by kernel_rfl
theorem seal_Take.bits4 : waitsOk seal_Take.T4.2 seal_Take.B4 = true := by kernel_rfl
set_option maxHeartbeats 8000000 in
set_option maxRecDepth 100000 in
theorem seal_Take.calls (a0 : ByteArray) (r1 : ByteArray) (r2 : Int) (w : World) (h : seal_Take.f a0 = some (r1, r2)) :
  Calls Tryd.prog 56 #[.string a0] w fun e w' => e = .returned (.tuple #[.string r1, .int .i64 r2]) ∧ Below w.heap.size w w' := by
 have HB := Ax.mk (Below.refl w.heap.size w)
 have H : (if (wrap64 ((a0.size : Int) - 4)) < 0 then (some ((⟨#[]⟩ : ByteArray), 10)) else (if 0 ≤ (wrap64 ((a0.size : Int) - 4)) then (if (wrap64 ((a0.size : Int) - 4)) ≤ (a0.size : Int) then ((le_Get.f (a0.extract ((wrap64 ((a0.size : Int) - 4)) : Int).toNat a0.size)).bind fun t220 => ((seal_Sum.f (a0.extract 0 ((wrap64 ((a0.size : Int) - 4)) : Int).toNat)).bind fun t221 => (if t220 = (IntKind.u64.wrap (t221)) then (some (a0.extract 0 ((wrap64 ((a0.size : Int) - 4)) : Int).toNat, 0)) else (some ((⟨#[]⟩ : ByteArray), 9))))) else (none)) else (none))) = some (r1, r2) := h
 clear h
 by_cases c2 : (wrap64 ((a0.size : Int) - 4)) < 0
 ·rw [if_pos c2] at H
  have c2b0 : decide ((wrap64 ((a0.size : Int) - 4)) < 0) = true := decide_eq_true c2
  clear c2
  simp only [Option.some.injEq, Prod.mk.injEq] at H
  obtain ⟨rfl, rfl⟩ := H
  go_enter Tryd.func56, Tryd.ntmps56
  go_wp2
  go_ret2
  exact ⟨by first | rfl | (simp [errW_none, errW_some] <;> rfl) | (simp [*, errW_none, errW_some] <;> rfl), bA⟩
 ·rw [if_neg c2] at H
  have c2b0 : decide ((wrap64 ((a0.size : Int) - 4)) < 0) = false := decide_eq_false c2
  clear c2
  obtain ⟨ji3, hji3⟩ : ∃ j_ : Int, (wrap64 ((a0.size : Int) - 4)) = j_ := ⟨_, rfl⟩
  replace H : (if 0 ≤ (ji3) then (if (ji3) ≤ (a0.size : Int) then ((le_Get.f (a0.extract ((ji3) : Int).toNat a0.size)).bind fun t220 => ((seal_Sum.f (a0.extract 0 ((ji3) : Int).toNat)).bind fun t221 => (if t220 = (IntKind.u64.wrap (t221)) then (some (a0.extract 0 ((ji3) : Int).toNat, 0)) else (some ((⟨#[]⟩ : ByteArray), 9))))) else (none)) else (none)) = some (r1, r2) := by first | (rw [hji3] at H; exact H) | (simp only [hji3] at H ⊢; exact H)
  (try rw [hji3] at c2b0)
  have hji3w : (IntKind.i64.wrap ((a0.size : Int) - 4)) = ji3 := (i64_w _).trans hji3
  by_cases c4 : 0 ≤ (ji3)
  ·rw [if_pos c4] at H
   have c4b0 := eq_true c4
   have c4b1 : decide (0 ≤ (ji3)) = true := decide_eq_true c4
   clear c4
   by_cases c5 : (ji3) ≤ (a0.size : Int)
   ·rw [if_pos c5] at H
    have c5b0 := eq_true c5
    have c5b1 : decide ((ji3) ≤ (a0.size : Int)) = true := decide_eq_true c5
    clear c5
    replace H := Option.bind_eq_some_iff.mp H
    obtain ⟨t220, A60, H⟩ := H
    replace H : ((seal_Sum.f (a0.extract 0 ((ji3) : Int).toNat)).bind fun t221 => (if t220 = (IntKind.u64.wrap (t221)) then (some (a0.extract 0 ((ji3) : Int).toNat, 0)) else (some ((⟨#[]⟩ : ByteArray), 9)))) = some (r1, r2) := H
    have A6 := Ax.mk A60
    clear A60
    have c7b0 := eq_true (ofD : 0 ≤ (ji3))
    have c8b0 := eq_true (ofD : (ji3) ≤ (a0.size : Int))
    replace H := Option.bind_eq_some_iff.mp H
    obtain ⟨t221, A90, H⟩ := H
    replace H : (if t220 = (IntKind.u64.wrap (t221)) then (some (a0.extract 0 ((ji3) : Int).toNat, 0)) else (some ((⟨#[]⟩ : ByteArray), 9))) = some (r1, r2) := H
    have A9 := Ax.mk A90
    clear A90
    by_cases c10 : t220 = (IntKind.u64.wrap (t221))
    ·rw [if_pos c10] at H
     have c10b0 : (t220 == (IntKind.u64.wrap (t221))) = true := beq_iff_eq.mpr c10
     have c10b1 : (t220 != (IntKind.u64.wrap (t221))) = false := bne_eq_false_iff_eq.mpr c10
     clear c10
     have c11b0 := eq_true (ofD : 0 ≤ (ji3))
     have c12b0 := eq_true (ofD : (ji3) ≤ (a0.size : Int))
     simp only [Option.some.injEq, Prod.mk.injEq] at H
     obtain ⟨rfl, rfl⟩ := H
     go_enter Tryd.func56, Tryd.ntmps56
     try go_wp2
     have n0_ := Ax.mk (below_drew1 HB.out)
     clear HB
     have HB := n0_
     clear n0_
     refine start_ (n := 11) (S := fun w' => True) (ds := []) (TF 0 11) (by kernel_rfl) rfl rfl trivial (fun hHeld => ?_); refine with_tabW seal_Take.tab4 seal_Take.bits4 (fun HT_ HW_ => ?_)
     generalize w.drew = w13 at HB hHeld ⊢
     refine pure_ (i := 0) (N := some 12) (v := ?_) (a' := ?_) (TF 1 10) rfl rfl (any_of HT_.out (by kernel_rfl)) (fun _ _ _ h => h) (Or.inl ⟨by rfl, ?_⟩) ?_ ?_
     rotate_left; · intro w'; go_simp; with_reducible rfl
     rotate_left; · simp only [Act.put, sI, sZ, sS, i64_w, i32_w]; rfl
     refine pure_ (i := 1) (N := some 13) (v := ?_) (a' := ?_) (TF 2 9) rfl rfl (any_of HT_.out (by kernel_rfl)) (fun _ _ _ h => h) (Or.inl ⟨by rfl, ?_⟩) ?_ ?_
     rotate_left; · intro w'; go_simp; with_reducible rfl
     rotate_left; · simp only [Act.put, sI, sZ, sS, i64_w, i32_w]; rfl
     refine pure_ (i := 2) (N := some 14) (v := ?_) (a' := ?_) (TF 3 8) rfl rfl (any_of HT_.out (by kernel_rfl)) (fun _ _ _ h => h) (Or.inl ⟨by rfl, ?_⟩) ?_ ?_
     rotate_left; · intro w'; go_simp; with_reducible rfl
     rotate_left; · simp only [Act.put, sI, sZ, sS, i64_w, i32_w]; rfl
     refine pure_ (i := 4) (N := some 16) (v := ?_) (a' := ?_) (BT 11 23) rfl rfl (any_of HT_.out (by kernel_rfl)) (fun _ _ _ h => h) (Or.inl ⟨by rfl, ?_⟩) ?_ ?_
     rotate_left; · intro w'; go_simp; with_reducible rfl
     rotate_left; · simp only [Act.put, sI, sZ, sS, i64_w, i32_w]; rfl
     refine pure_ (i := 5) (N := some 17) (v := ?_) (a' := ?_) (BT 11 55) rfl rfl (any_of HT_.out (by kernel_rfl)) (fun _ _ _ h => h) (Or.inl ⟨by rfl, ?_⟩) ?_ ?_
     rotate_left; · intro w'; go_simp; with_reducible rfl
     rotate_left; · simp only [Act.put, sI, sZ, sS, i64_w, i32_w]; rfl
     refine pure_ (i := 6) (N := some 18) (v := ?_) (a' := ?_) (BT 11 119) rfl rfl (any_of HT_.out (by kernel_rfl)) (fun _ _ _ h => h) (Or.inl ⟨by rfl, ?_⟩) ?_ ?_
     rotate_left; · intro w'; go_simp; with_reducible rfl
     rotate_left; · simp only [Act.put, sI, sZ, sS, i64_w, i32_w]; rfl
     refine one_ (i := 3) (N := some 15) (TF 7 4) rfl rfl (one_of HT_.out (by kernel_rfl)) (by decide) (fun K hK => ?_)
     refine goes_ Tryd.func72 (by kernel_rfl) rfl #[.string (a0.extract ((ji3) : Int).toNat a0.size)] (by rfl) rfl rfl (by (try simp only [List.map_toArray, List.map_cons, List.map_nil]); first | done | (simp only [hji3]; rfl) | rfl | (simp only [List.length_drop, List.length_take]; rfl) | (rw [wrap_sum2 (by assumption)]; rfl)) ?_
     with_reducible refine (le_Get.calls (a0.extract ((ji3) : Int).toNat a0.size) t220 _ A6.out).mono ?_
     rintro e w14 ⟨rfl, hb⟩
     refine ⟨_, rfl, ?_⟩
     have n0_ := Ax.mk (bP bA hb)
     clear HB
     have HB := n0_
     clear n0_
     (try clear hb)
     (try clear hb2)
     (try clear hk)
     (try clear hi)
     refine hK.out _ _ trivial (fun hHeld => ?_)
     clear hK K
     refine norm_ (a' := ?_) ?_ ?_
     rotate_left
     ·show Act.put _ (some 15) _ = _
      simp only [Act.put, sI, sZ, sS, i64_w, i32_w]
      rfl
     refine one_ (i := 7) (N := some 19) (TF 8 3) rfl rfl (one_of HT_.out (by kernel_rfl)) (by decide) (fun K hK => ?_)
     refine goes_ Tryd.func66 (by kernel_rfl) rfl #[.string (a0.extract 0 ((ji3) : Int).toNat)] (by rfl) rfl rfl (by (try simp only [List.map_toArray, List.map_cons, List.map_nil]); first | done | (simp only [hji3]; rfl) | rfl | (simp only [List.length_drop, List.length_take]; rfl) | (rw [wrap_sum2 (by assumption)]; rfl)) ?_
     with_reducible refine (seal_Sum.calls (a0.extract 0 ((ji3) : Int).toNat) t221 _ A9.out).mono ?_
     rintro e w15 ⟨rfl, hb⟩
     refine ⟨_, rfl, ?_⟩
     have n0_ := Ax.mk (bP bA hb)
     clear HB
     have HB := n0_
     clear n0_
     (try clear hb)
     (try clear hb2)
     (try clear hk)
     (try clear hi)
     refine hK.out _ _ trivial (fun hHeld => ?_)
     clear hK K
     refine norm_ (a' := ?_) ?_ ?_
     rotate_left
     ·show Act.put _ (some 19) _ = _
      simp only [Act.put, sI, sZ, sS, i64_w, i32_w]
      rfl
     refine pure_ (i := 8) (N := some 20) (v := ?_) (a' := ?_) (TF 9 2) rfl rfl (any_of HT_.out (by kernel_rfl)) (fun _ _ _ h => h) (Or.inl ⟨by rfl, ?_⟩) ?_ ?_
     rotate_left; · intro w'; go_simp; with_reducible rfl
     rotate_left; · simp only [Act.put, sI, sZ, sS, i64_w, i32_w]; rfl
     refine pure_ (i := 9) (N := some 21) (v := ?_) (a' := ?_) (TF 10 1) rfl rfl (any_of HT_.out (by kernel_rfl)) (fun _ _ _ h => h) (Or.inl ⟨by rfl, ?_⟩) ?_ ?_
     rotate_left; · intro w'; go_simp; with_reducible rfl
     rotate_left; · simp only [Act.put, sI, sZ, sS, i64_w, i32_w]; rfl
     refine pure_ (i := 10) (N := some 11) (v := ?_) (a' := ?_) (TF 11 0) rfl rfl (any_of HT_.out (by kernel_rfl)) (fun _ _ _ h => h) (Or.inl ⟨by rfl, ?_⟩) ?_ ?_
     rotate_left; · intro w'; go_simp; with_reducible rfl
     rotate_left; · simp only [Act.put, sI, sZ, sS, i64_w, i32_w]; rfl
     refine done_ (done_of HT_.out (by kernel_rfl)) ?_
     try go_wp2
     go_ret2
     exact ⟨by first | rfl | (simp [errW_none, errW_some] <;> rfl) | (simp only [← hji3]; first | rfl | (simp [errW_none, errW_some] <;> rfl)) | (simp [*, errW_none, errW_some] <;> rfl), bA⟩
    ·rw [if_neg c10] at H
     have c10b0 : (t220 == (IntKind.u64.wrap (t221))) = false := beq_eq_false_iff_ne.mpr c10
     have c10b1 : (t220 != (IntKind.u64.wrap (t221))) = true := bne_iff_ne.mpr c10
     simp only [Option.some.injEq, Prod.mk.injEq] at H
     obtain ⟨rfl, rfl⟩ := H
     go_enter Tryd.func56, Tryd.ntmps56
     try go_wp2
     have n0_ := Ax.mk (below_drew1 HB.out)
     clear HB
     have HB := n0_
     clear n0_
     refine start_ (n := 11) (S := fun w' => True) (ds := []) (TF 0 11) (by kernel_rfl) rfl rfl trivial (fun hHeld => ?_); refine with_tabW seal_Take.tab4 seal_Take.bits4 (fun HT_ HW_ => ?_)
     generalize w.drew = w16 at HB hHeld ⊢
     refine pure_ (i := 0) (N := some 12) (v := ?_) (a' := ?_) (TF 1 10) rfl rfl (any_of HT_.out (by kernel_rfl)) (fun _ _ _ h => h) (Or.inl ⟨by rfl, ?_⟩) ?_ ?_
     rotate_left; · intro w'; go_simp; with_reducible rfl
     rotate_left; · simp only [Act.put, sI, sZ, sS, i64_w, i32_w]; rfl
     refine pure_ (i := 1) (N := some 13) (v := ?_) (a' := ?_) (TF 2 9) rfl rfl (any_of HT_.out (by kernel_rfl)) (fun _ _ _ h => h) (Or.inl ⟨by rfl, ?_⟩) ?_ ?_
     rotate_left; · intro w'; go_simp; with_reducible rfl
     rotate_left; · simp only [Act.put, sI, sZ, sS, i64_w, i32_w]; rfl
     refine pure_ (i := 2) (N := some 14) (v := ?_) (a' := ?_) (TF 3 8) rfl rfl (any_of HT_.out (by kernel_rfl)) (fun _ _ _ h => h) (Or.inl ⟨by rfl, ?_⟩) ?_ ?_
     rotate_left; · intro w'; go_simp; with_reducible rfl
     rotate_left; · simp only [Act.put, sI, sZ, sS, i64_w, i32_w]; rfl
     refine pure_ (i := 4) (N := some 16) (v := ?_) (a' := ?_) (BT 11 23) rfl rfl (any_of HT_.out (by kernel_rfl)) (fun _ _ _ h => h) (Or.inl ⟨by rfl, ?_⟩) ?_ ?_
     rotate_left; · intro w'; go_simp; with_reducible rfl
     rotate_left; · simp only [Act.put, sI, sZ, sS, i64_w, i32_w]; rfl
     refine pure_ (i := 5) (N := some 17) (v := ?_) (a' := ?_) (BT 11 55) rfl rfl (any_of HT_.out (by kernel_rfl)) (fun _ _ _ h => h) (Or.inl ⟨by rfl, ?_⟩) ?_ ?_
     rotate_left; · intro w'; go_simp; with_reducible rfl
     rotate_left; · simp only [Act.put, sI, sZ, sS, i64_w, i32_w]; rfl
     refine pure_ (i := 6) (N := some 18) (v := ?_) (a' := ?_) (BT 11 119) rfl rfl (any_of HT_.out (by kernel_rfl)) (fun _ _ _ h => h) (Or.inl ⟨by rfl, ?_⟩) ?_ ?_
     rotate_left; · intro w'; go_simp; with_reducible rfl
     rotate_left; · simp only [Act.put, sI, sZ, sS, i64_w, i32_w]; rfl
     refine one_ (i := 3) (N := some 15) (TF 7 4) rfl rfl (one_of HT_.out (by kernel_rfl)) (by decide) (fun K hK => ?_)
     refine goes_ Tryd.func72 (by kernel_rfl) rfl #[.string (a0.extract ((ji3) : Int).toNat a0.size)] (by rfl) rfl rfl (by (try simp only [List.map_toArray, List.map_cons, List.map_nil]); first | done | (simp only [hji3]; rfl) | rfl | (simp only [List.length_drop, List.length_take]; rfl) | (rw [wrap_sum2 (by assumption)]; rfl)) ?_
     with_reducible refine (le_Get.calls (a0.extract ((ji3) : Int).toNat a0.size) t220 _ A6.out).mono ?_
     rintro e w17 ⟨rfl, hb⟩
     refine ⟨_, rfl, ?_⟩
     have n0_ := Ax.mk (bP bA hb)
     clear HB
     have HB := n0_
     clear n0_
     (try clear hb)
     (try clear hb2)
     (try clear hk)
     (try clear hi)
     refine hK.out _ _ trivial (fun hHeld => ?_)
     clear hK K
     refine norm_ (a' := ?_) ?_ ?_
     rotate_left
     ·show Act.put _ (some 15) _ = _
      simp only [Act.put, sI, sZ, sS, i64_w, i32_w]
      rfl
     refine one_ (i := 7) (N := some 19) (TF 8 3) rfl rfl (one_of HT_.out (by kernel_rfl)) (by decide) (fun K hK => ?_)
     refine goes_ Tryd.func66 (by kernel_rfl) rfl #[.string (a0.extract 0 ((ji3) : Int).toNat)] (by rfl) rfl rfl (by (try simp only [List.map_toArray, List.map_cons, List.map_nil]); first | done | (simp only [hji3]; rfl) | rfl | (simp only [List.length_drop, List.length_take]; rfl) | (rw [wrap_sum2 (by assumption)]; rfl)) ?_
     with_reducible refine (seal_Sum.calls (a0.extract 0 ((ji3) : Int).toNat) t221 _ A9.out).mono ?_
     rintro e w18 ⟨rfl, hb⟩
     refine ⟨_, rfl, ?_⟩
     have n0_ := Ax.mk (bP bA hb)
     clear HB
     have HB := n0_
     clear n0_
     (try clear hb)
     (try clear hb2)
     (try clear hk)
     (try clear hi)
     refine hK.out _ _ trivial (fun hHeld => ?_)
     clear hK K
     refine norm_ (a' := ?_) ?_ ?_
     rotate_left
     ·show Act.put _ (some 19) _ = _
      simp only [Act.put, sI, sZ, sS, i64_w, i32_w]
      rfl
     refine pure_ (i := 8) (N := some 20) (v := ?_) (a' := ?_) (TF 9 2) rfl rfl (any_of HT_.out (by kernel_rfl)) (fun _ _ _ h => h) (Or.inl ⟨by rfl, ?_⟩) ?_ ?_
     rotate_left; · intro w'; go_simp; with_reducible rfl
     rotate_left; · simp only [Act.put, sI, sZ, sS, i64_w, i32_w]; rfl
     refine pure_ (i := 9) (N := some 21) (v := ?_) (a' := ?_) (TF 10 1) rfl rfl (any_of HT_.out (by kernel_rfl)) (fun _ _ _ h => h) (Or.inl ⟨by rfl, ?_⟩) ?_ ?_
     rotate_left; · intro w'; go_simp; with_reducible rfl
     rotate_left; · simp only [Act.put, sI, sZ, sS, i64_w, i32_w]; rfl
     refine pure_ (i := 10) (N := some 11) (v := ?_) (a' := ?_) (TF 11 0) rfl rfl (any_of HT_.out (by kernel_rfl)) (fun _ _ _ h => h) (Or.inl ⟨by rfl, ?_⟩) ?_ ?_
     rotate_left; · intro w'; go_simp; with_reducible rfl
     rotate_left; · simp only [Act.put, sI, sZ, sS, i64_w, i32_w]; rfl
     refine done_ (done_of HT_.out (by kernel_rfl)) ?_
     try go_wp2
     go_ret2
     exact ⟨by first | rfl | (simp [errW_none, errW_some] <;> rfl) | (simp only [← hji3]; first | rfl | (simp [errW_none, errW_some] <;> rfl)) | (simp [*, errW_none, errW_some] <;> rfl), bA⟩
   ·rw [if_neg c5] at H
    exact absurd H (by simp)
  ·rw [if_neg c4] at H
   exact absurd H (by simp)
def IsS96 (w0 W : World) (g : Nat) (f0 : ByteArray) (f1 : Bool) : Prop := W.heap[g]? = some (.cells #[.string f0, .bool f1] 96 (0, 0)) ∧ w0.heap.size ≤ g
theorem IsS96.grown {w0 W : World} {g : Nat} {f0 : ByteArray} {f1 : Bool} {W1 : World} {row : Option Nat} (h : IsS96 w0 W g f0 f1) (hw : W.grownBy W1 row) (hne : some g ≠ row) : IsS96 w0 W1 g f0 f1 := by
 obtain ⟨hb, hg⟩ := h
 exact ⟨blk_grown hb hw hne, hg⟩
theorem IsS96.kept {w0 W : World} {g : Nat} {f0 : ByteArray} {f1 : Bool} {W1 : World} {S : Nat → Prop} (h : IsS96 w0 W g f0 f1) (hk : Kept W W1 S) (hne : ¬ S g) : IsS96 w0 W1 g f0 f1 := by
 obtain ⟨hb, hg⟩ := h
 exact ⟨blk_kept hb hk hne, hg⟩
theorem IsS96.below {w0 W : World} {g : Nat} {f0 : ByteArray} {f1 : Bool} {W1 : World} (h : IsS96 w0 W g f0 f1) (hw : Below W.heap.size W W1) : IsS96 w0 W1 g f0 f1 := h.grown (grown_of_below hw none) (by simp)
theorem IsS96.alloc {w0 W : World} {g : Nat} {f0 : ByteArray} {f1 : Bool} (h : IsS96 w0 W g f0 f1) (o : Obj) : IsS96 w0 (W.alloc o) g f0 f1 := h.below (below_alloc (Below.refl _ _) o)
theorem IsS96.drewN {w0 W : World} {g : Nat} {f0 : ByteArray} {f1 : Bool} (h : IsS96 w0 W g f0 f1) (m : Nat) : IsS96 w0 (W.drewN m) g f0 f1 := h
theorem IsS96.drew {w0 W : World} {g : Nat} {f0 : ByteArray} {f1 : Bool} (h : IsS96 w0 W g f0 f1) : IsS96 w0 W.drew g f0 f1 := h
theorem IsS96.at_ {w0 W : World} {g : Nat} {f0 : ByteArray} {f1 : Bool} {w' : World} {m : Nat} (hq : W.drewN m = w') (h : IsS96 w0 W g f0 f1) : IsS96 w0 w' g f0 f1 := by subst hq; exact IsS96.drewN h m
theorem IsS96.apart {w0 W : World} {g : Nat} {f0 : ByteArray} {f1 : Bool} {α : Type} {d : Kd α} {e : Nat} {base : Nat} {ok : Nat → Prop} {v : Value} {xs : List α} (h : IsS96 w0 W g f0 f1) (ho : d.R e W base ok v xs) (ht : ∀ q, q ∈ e :: d.E → q ≠ 96) : d.R e W base (fun k => ok k ∧ k ≠ g) v xs := by
 obtain ⟨hb, hg⟩ := h
 exact Kd.R_types ho hb ht
theorem IsS96.own_ne {w0 W : World} {g : Nat} {f0 : ByteArray} {f1 : Bool} {α : Type} {d : Kd α} {e : Nat} {base : Nat} {ok : Nat → Prop} {v : Value} {xs : List α} (h : IsS96 w0 W g f0 f1) (ho : d.R e W base ok v xs) (ht : e ≠ 96) : some g ≠ v.ownBlock := by
 obtain ⟨hb, hg⟩ := h
 exact Kd.R_ne ho hb ht
theorem IsS96.lt {w0 W : World} {g : Nat} {f0 : ByteArray} {f1 : Bool} (h : IsS96 w0 W g f0 f1) : g < W.heap.size := by
 obtain ⟨hb, hg⟩ := h
 exact bL hb
theorem IsS96.ge {w0 W : World} {g : Nat} {f0 : ByteArray} {f1 : Bool} (h : IsS96 w0 W g f0 f1) : w0.heap.size ≤ g := by
 obtain ⟨hb, hg⟩ := h
 exact hg
theorem cellS96_0 {W : World} {g : Nat} {f0 : ByteArray} {f1 : Bool} (h : W.heap[g]? = some (.cells #[.string f0, .bool f1] 96 (0, 0))) : W.cell? ⟨g, 0, none⟩ = some (.string f0) := (bC h 0).trans rfl
theorem IsS96.set_0 {w0 W : World} {g : Nat} {f0 : ByteArray} {f1 : Bool} (h : IsS96 w0 W g f0 f1) (x : ByteArray) : IsS96 w0 (W.setCell ⟨g, 0, none⟩ (.string x)) g x f1 := by
 obtain ⟨hb, hg⟩ := h
 exact ⟨by simpa using blk_set hb 0 (.string x), hg⟩
theorem cellS96_1 {W : World} {g : Nat} {f0 : ByteArray} {f1 : Bool} (h : W.heap[g]? = some (.cells #[.string f0, .bool f1] 96 (0, 0))) : W.cell? ⟨g, 1, none⟩ = some (.bool f1) := (bC h 1).trans rfl
theorem IsS96.set_1 {w0 W : World} {g : Nat} {f0 : ByteArray} {f1 : Bool} (h : IsS96 w0 W g f0 f1) (x : Bool) : IsS96 w0 (W.setCell ⟨g, 1, none⟩ (.bool x)) g f0 x := by
 obtain ⟨hb, hg⟩ := h
 exact ⟨by simpa using blk_set hb 1 (.bool x), hg⟩
theorem IsS96.new (w0 W : World) (f0 : ByteArray) (f1 : Bool) (hB : Below w0.heap.size w0 W) : IsS96 w0 (W.alloc (.cells #[.string f0, .bool f1] 96)) W.heap.size f0 f1 := ⟨by simpa using heap_alloc_new W _, hB.size⟩
def le_Reader_Text.f (s0_0 : ByteArray) (s0_1 : Bool) (a1 : Int) : Option (ByteArray × ByteArray × Bool) := if s0_1 = true then (some ((⟨#[]⟩ : ByteArray), s0_0, true)) else (if a1 < 0 then (some ((⟨#[]⟩ : ByteArray), s0_0, true)) else (if a1 > (s0_0.size : Int) then (some ((⟨#[]⟩ : ByteArray), s0_0, decide (a1 > (s0_0.size : Int)))) else (if 0 ≤ a1 then (if a1 ≤ (s0_0.size : Int) then (some (s0_0.extract 0 (a1 : Int).toNat, s0_0.extract (a1 : Int).toNat s0_0.size, decide (a1 > (s0_0.size : Int)))) else (none)) else (none))))
set_option maxHeartbeats 8000000 in
set_option maxRecDepth 100000 in
theorem le_Reader_Text.calls (g : Nat) (s0_0 : ByteArray) (s0_1 : Bool) (a1 : Int) (r1 : ByteArray) (r2 : ByteArray) (r3 : Bool) (w0 w : World) (hI : IsS96 w0 w g s0_0 s0_1) (hB : Below w0.heap.size w0 w) (h : le_Reader_Text.f s0_0 s0_1 a1 = some (r1, r2, r3)) :
  Calls Tryd.prog 54 #[.pointer (some ⟨g, 0, none⟩), .int .i64 a1] w fun e w' => e = .returned (.string r1) ∧ IsS96 w0 w' g r2 r3 ∧ Below w0.heap.size w0 w' ∧ KeepBut w w' g none := by
 have HI0 := Ax.mk hI
 have HK := Ax.mk (KeepBut.refl w g none)
 have HL := Ax.mk hB.size
 clear hI
 have HW0 := Ax.mk hB.size
 have HB := Ax.mk hB
 clear hB
 have H : (if s0_1 = true then (some ((⟨#[]⟩ : ByteArray), s0_0, true)) else (if a1 < 0 then (some ((⟨#[]⟩ : ByteArray), s0_0, true)) else (if a1 > (s0_0.size : Int) then (some ((⟨#[]⟩ : ByteArray), s0_0, decide (a1 > (s0_0.size : Int)))) else (if 0 ≤ a1 then (if a1 ≤ (s0_0.size : Int) then (some (s0_0.extract 0 (a1 : Int).toNat, s0_0.extract (a1 : Int).toNat s0_0.size, decide (a1 > (s0_0.size : Int)))) else (none)) else (none))))) = some (r1, r2, r3) := h
 clear h
 by_cases c3 : s0_1 = true
 ·subst c3
  have H1 : (some ((⟨#[]⟩ : ByteArray), s0_0, true)) = some (r1, r2, r3) := by rw [if_pos rfl] at H; exact H
  clear H
  have H := H1
  clear H1
  simp only [Option.some.injEq, Prod.mk.injEq] at H
  obtain ⟨rfl, rfl, rfl⟩ := H
  obtain ⟨HGz4, hgz4⟩ := HI0.out
  have hcz4_0 := cellS96_0 HGz4
  have hcz4_1 := cellS96_1 HGz4
  have hfz4_0 := bF HGz4 0
  have hfz4_1 := bF HGz4 1
  clear HGz4 hgz4
  go_enter Tryd.func54, Tryd.ntmps54
  go_wp2
  go_ret
  exact ⟨by first | rfl | (simp [errW_none, errW_some] <;> rfl) | (simp [*, errW_none, errW_some] <;> rfl), by repeat (first | (with_reducible first | exact HI0.out | apply IsS96.alloc | apply IsS96.drewN | apply IsS96.drew | apply IsS96.set_0 | apply IsS96.set_1) | exact HI0.out), by repeat (first | (with_reducible first | exact HB.out | apply below_alloc | apply pw_below_drewN | apply below_drew1 | refine below_set ?_ (IsS96.ge HI0.out)) | exact HB.out), by repeat (first | (with_reducible first | exact HK.out | apply KeepBut.set_ | apply keep_drewN | apply keep_drew | apply keep_alloc) | exact HK.out)⟩
 ·replace c3 := Bool.eq_false_iff.mpr c3
  subst c3
  have H1 : (if a1 < 0 then (some ((⟨#[]⟩ : ByteArray), s0_0, true)) else (if a1 > (s0_0.size : Int) then (some ((⟨#[]⟩ : ByteArray), s0_0, decide (a1 > (s0_0.size : Int)))) else (if 0 ≤ a1 then (if a1 ≤ (s0_0.size : Int) then (some (s0_0.extract 0 (a1 : Int).toNat, s0_0.extract (a1 : Int).toNat s0_0.size, decide (a1 > (s0_0.size : Int)))) else (none)) else (none)))) = some (r1, r2, r3) := by rw [if_neg (show ¬ (false = true) by decide)] at H; exact H
  clear H
  have H := H1
  clear H1
  by_cases c5 : a1 < 0
  ·rw [if_pos c5] at H
   (try rw [decide_eq_true c5] at H)
   have c5b0 : decide (a1 < 0) = true := decide_eq_true c5
   clear c5
   simp only [Option.some.injEq, Prod.mk.injEq] at H
   obtain ⟨rfl, rfl, rfl⟩ := H
   obtain ⟨HGz6, hgz6⟩ := HI0.out
   have hcz6_0 := cellS96_0 HGz6
   have hcz6_1 := cellS96_1 HGz6
   have hfz6_0 := bF HGz6 0
   have hfz6_1 := bF HGz6 1
   clear HGz6 hgz6
   go_enter Tryd.func54, Tryd.ntmps54
   go_wp2
   go_ret
   exact ⟨by first | rfl | (simp [errW_none, errW_some] <;> rfl) | (simp [*, errW_none, errW_some] <;> rfl), by repeat (first | (with_reducible first | exact HI0.out | apply IsS96.alloc | apply IsS96.drewN | apply IsS96.drew | apply IsS96.set_0 | apply IsS96.set_1) | exact HI0.out), by repeat (first | (with_reducible first | exact HB.out | apply below_alloc | apply pw_below_drewN | apply below_drew1 | refine below_set ?_ (IsS96.ge HI0.out)) | exact HB.out), by repeat (first | (with_reducible first | exact HK.out | apply KeepBut.set_ | apply keep_drewN | apply keep_drew | apply keep_alloc) | exact HK.out)⟩
  ·rw [if_neg c5] at H
   (try rw [decide_eq_false c5] at H)
   have c5b0 : decide (a1 < 0) = false := decide_eq_false c5
   clear c5
   by_cases c7 : a1 > (s0_0.size : Int)
   ·rw [if_pos c7] at H
    (try rw [decide_eq_true c7] at H)
    have c7b0 : decide ((s0_0.size : Int) < a1) = true := decide_eq_true c7
    clear c7
    simp only [Option.some.injEq, Prod.mk.injEq] at H
    obtain ⟨rfl, rfl, rfl⟩ := H
    obtain ⟨HGz8, hgz8⟩ := HI0.out
    have hcz8_0 := cellS96_0 HGz8
    have hcz8_1 := cellS96_1 HGz8
    have hfz8_0 := bF HGz8 0
    have hfz8_1 := bF HGz8 1
    clear HGz8 hgz8
    go_enter Tryd.func54, Tryd.ntmps54
    go_wp2
    go_ret
    exact ⟨by first | rfl | (simp [errW_none, errW_some] <;> rfl) | (simp [*, errW_none, errW_some] <;> rfl), by repeat (first | (with_reducible first | exact HI0.out | apply IsS96.alloc | apply IsS96.drewN | apply IsS96.drew | apply IsS96.set_0 | apply IsS96.set_1) | exact HI0.out), by repeat (first | (with_reducible first | exact HB.out | apply below_alloc | apply pw_below_drewN | apply below_drew1 | refine below_set ?_ (IsS96.ge HI0.out)) | exact HB.out), by repeat (first | (with_reducible first | exact HK.out | apply KeepBut.set_ | apply keep_drewN | apply keep_drew | apply keep_alloc) | exact HK.out)⟩
   ·rw [if_neg c7] at H
    (try rw [decide_eq_false c7] at H)
    have c7b0 : decide ((s0_0.size : Int) < a1) = false := decide_eq_false c7
    clear c7
    by_cases c9 : 0 ≤ a1
    ·rw [if_pos c9] at H
     (try rw [decide_eq_true c9] at H)
     have c9b0 := eq_true c9
     have c9b1 : decide (0 ≤ a1) = true := decide_eq_true c9
     clear c9
     by_cases c10 : a1 ≤ (s0_0.size : Int)
     ·rw [if_pos c10] at H
      (try rw [decide_eq_true c10] at H)
      have c10b0 := eq_true c10
      have c10b1 : decide (a1 ≤ (s0_0.size : Int)) = true := decide_eq_true c10
      clear c10
      have c11b0 := eq_true (ofD : 0 ≤ a1)
      have c12b0 := eq_true (ofD : a1 ≤ (s0_0.size : Int))
      simp only [Option.some.injEq, Prod.mk.injEq] at H
      obtain ⟨rfl, rfl, rfl⟩ := H
      obtain ⟨HGz13, hgz13⟩ := HI0.out
      have hcz13_0 := cellS96_0 HGz13
      have hcz13_1 := cellS96_1 HGz13
      have hfz13_0 := bF HGz13 0
      have hfz13_1 := bF HGz13 1
      clear HGz13 hgz13
      go_enter Tryd.func54, Tryd.ntmps54
      go_wp2
      go_ret
      exact ⟨by first | rfl | (simp [errW_none, errW_some] <;> rfl) | (simp [*, errW_none, errW_some] <;> rfl), by repeat (first | (with_reducible first | exact HI0.out | apply IsS96.alloc | apply IsS96.drewN | apply IsS96.drew | apply IsS96.set_0 | apply IsS96.set_1) | exact HI0.out), by repeat (first | (with_reducible first | exact HB.out | apply below_alloc | apply pw_below_drewN | apply below_drew1 | refine below_set ?_ (IsS96.ge HI0.out)) | exact HB.out), by repeat (first | (with_reducible first | exact HK.out | apply KeepBut.set_ | apply keep_drewN | apply keep_drew | apply keep_alloc) | exact HK.out)⟩
     ·rw [if_neg c10] at H
      (try rw [decide_eq_false c10] at H)
      exact absurd H (by simp)
    ·rw [if_neg c9] at H
     (try rw [decide_eq_false c9] at H)
     exact absurd H (by simp)
def le_Reader_Number.f (s0_0 : ByteArray) (s0_1 : Bool) (a1 : Int) : Option (Int × ByteArray × Bool) := if a1 > 8 then ((le_Reader_Text.f s0_0 s0_1 (-1)).bind fun bt212 => ((le_Get.f bt212.1).bind fun t215 => (some (t215, bt212.2.1, bt212.2.2)))) else ((le_Reader_Text.f s0_0 s0_1 a1).bind fun bt216 => ((le_Get.f bt216.1).bind fun t219 => (some (t219, bt216.2.1, bt216.2.2))))
set_option maxHeartbeats 8000000 in
set_option maxRecDepth 100000 in
theorem le_Reader_Number.calls (g : Nat) (s0_0 : ByteArray) (s0_1 : Bool) (a1 : Int) (r1 : Int) (r2 : ByteArray) (r3 : Bool) (w0 w : World) (hI : IsS96 w0 w g s0_0 s0_1) (hB : Below w0.heap.size w0 w) (h : le_Reader_Number.f s0_0 s0_1 a1 = some (r1, r2, r3)) :
  Calls Tryd.prog 55 #[.pointer (some ⟨g, 0, none⟩), .int .i64 a1] w fun e w' => e = .returned (.int .u64 r1) ∧ IsS96 w0 w' g r2 r3 ∧ Below w0.heap.size w0 w' ∧ KeepBut w w' g none := by
 have HI0 := Ax.mk hI
 have HK := Ax.mk (KeepBut.refl w g none)
 have HL := Ax.mk hB.size
 clear hI
 have HW0 := Ax.mk hB.size
 have HB := Ax.mk hB
 clear hB
 have H : (if a1 > 8 then ((le_Reader_Text.f s0_0 s0_1 (-1)).bind fun bt212 => ((le_Get.f bt212.1).bind fun t215 => (some (t215, bt212.2.1, bt212.2.2)))) else ((le_Reader_Text.f s0_0 s0_1 a1).bind fun bt216 => ((le_Get.f bt216.1).bind fun t219 => (some (t219, bt216.2.1, bt216.2.2))))) = some (r1, r2, r3) := h
 clear h
 by_cases c3 : a1 > 8
 ·rw [if_pos c3] at H
  have c3b0 : decide (8 < a1) = true := decide_eq_true c3
  clear c3
  replace H := Option.bind_eq_some_iff.mp H
  obtain ⟨⟨t212, t213, t214⟩, A40, H⟩ := H
  replace H : ((le_Get.f t212).bind fun t215 => (some (t215, t213, t214))) = some (r1, r2, r3) := H
  have A4 := Ax.mk A40
  clear A40
  replace H := Option.bind_eq_some_iff.mp H
  obtain ⟨t215, A50, H⟩ := H
  replace H : (some (t215, t213, t214)) = some (r1, r2, r3) := H
  have A5 := Ax.mk A50
  clear A50
  simp only [Option.some.injEq, Prod.mk.injEq] at H
  obtain ⟨rfl, rfl, rfl⟩ := H
  go_enter Tryd.func55, Tryd.ntmps55
  go_wp2_with (first | ((with_reducible refine gate_callee (f := 54) rfl ?_); refine goesL_ (some 9) rfl rfl Tryd.func54 (by kernel_rfl) rfl #[.pointer (some ⟨g, 0, none⟩), .int .i64 (-1)] rfl (by (try simp only [List.map_toArray, List.map_cons, List.map_nil]); first | done | rfl | (simp only [List.length_drop, List.length_take]; rfl) | (rw [wrap_sum2 (by assumption)]; rfl)) ?_; (with_reducible refine (le_Reader_Text.calls g s0_0 s0_1 (-1) t212 t213 t214 w0 _ ?side1 ?side2 A4.out).mono ?_); (case side1 => repeat (first | (with_reducible first | exact HI0.out | apply IsS96.alloc | apply IsS96.drewN | apply IsS96.drew | apply IsS96.set_0 | apply IsS96.set_1) | exact HI0.out)); (case side2 => repeat (first | (with_reducible first | exact HB.out | apply below_alloc | apply pw_below_drewN | apply below_drew1 | refine below_set ?_ (IsS96.ge HI0.out)) | exact HB.out)); rintro e w6 ⟨rfl, hi, hb, hk⟩; refine ⟨_, rfl, ?_⟩; have n0_ := Ax.mk (KeepBut.trans (by repeat (first | (with_reducible first | exact HK.out | apply KeepBut.set_ | apply keep_drewN | apply keep_drew | apply keep_alloc) | exact HK.out)) hk (.inl rfl)); have n1_ := Ax.mk (hb); have n2_ := Ax.mk (hi); clear HK; clear HB; clear HI0; have HK := n0_; have HB := n1_; have HI0 := n2_; clear n0_ n1_ n2_; (try clear hb); (try clear hb2); (try clear hk); (try clear hi)) | ((with_reducible refine gate_callee (f := 72) rfl ?_); refine goesL_ (some 10) rfl rfl Tryd.func72 (by kernel_rfl) rfl #[.string t212] rfl (by (try simp only [List.map_toArray, List.map_cons, List.map_nil]); first | done | rfl | (simp only [List.length_drop, List.length_take]; rfl) | (rw [wrap_sum2 (by assumption)]; rfl)) ?_; (with_reducible refine (le_Get.calls t212 t215 _ A5.out).mono ?_); rintro e w7 ⟨rfl, hb⟩; refine ⟨_, rfl, ?_⟩; have n0_ := Ax.mk (IsS96.below (by repeat (first | (with_reducible first | exact HI0.out | apply IsS96.alloc | apply IsS96.drewN | apply IsS96.drew | apply IsS96.set_0 | apply IsS96.set_1) | exact HI0.out)) hb); have n1_ := Ax.mk (KeepBut.trans (by repeat (first | (with_reducible first | exact HK.out | apply KeepBut.set_ | apply keep_drewN | apply keep_drew | apply keep_alloc) | exact HK.out)) (KeepBut.of_below hb g none) (.inl rfl)); have n2_ := Ax.mk (bP (by repeat (first | (with_reducible first | exact HB.out | apply below_alloc | apply pw_below_drewN | apply below_drew1 | refine below_set ?_ (IsS96.ge HI0.out)) | exact HB.out)) hb); clear HI0; clear HK; clear HB; have HI0 := n0_; have HK := n1_; have HB := n2_; clear n0_ n1_ n2_; (try clear hb); (try clear hb2); (try clear hk); (try clear hi)))
  go_ret
  exact ⟨by first | rfl | (simp [errW_none, errW_some] <;> rfl) | (simp [*, errW_none, errW_some] <;> rfl), by repeat (first | (with_reducible first | exact HI0.out | apply IsS96.alloc | apply IsS96.drewN | apply IsS96.drew | apply IsS96.set_0 | apply IsS96.set_1) | exact HI0.out), by repeat (first | (with_reducible first | exact HB.out | apply below_alloc | apply pw_below_drewN | apply below_drew1 | refine below_set ?_ (IsS96.ge HI0.out)) | exact HB.out), by repeat (first | (with_reducible first | exact HK.out | apply KeepBut.set_ | apply keep_drewN | apply keep_drew | apply keep_alloc) | exact HK.out)⟩
 ·rw [if_neg c3] at H
  have c3b0 : decide (8 < a1) = false := decide_eq_false c3
  clear c3
  replace H := Option.bind_eq_some_iff.mp H
  obtain ⟨⟨t216, t217, t218⟩, A80, H⟩ := H
  replace H : ((le_Get.f t216).bind fun t219 => (some (t219, t217, t218))) = some (r1, r2, r3) := H
  have A8 := Ax.mk A80
  clear A80
  replace H := Option.bind_eq_some_iff.mp H
  obtain ⟨t219, A90, H⟩ := H
  replace H : (some (t219, t217, t218)) = some (r1, r2, r3) := H
  have A9 := Ax.mk A90
  clear A90
  simp only [Option.some.injEq, Prod.mk.injEq] at H
  obtain ⟨rfl, rfl, rfl⟩ := H
  go_enter Tryd.func55, Tryd.ntmps55
  go_wp2_with (first | ((with_reducible refine gate_callee (f := 54) rfl ?_); refine goesL_ (some 9) rfl rfl Tryd.func54 (by kernel_rfl) rfl #[.pointer (some ⟨g, 0, none⟩), .int .i64 a1] rfl (by (try simp only [List.map_toArray, List.map_cons, List.map_nil]); first | done | rfl | (simp only [List.length_drop, List.length_take]; rfl) | (rw [wrap_sum2 (by assumption)]; rfl)) ?_; (with_reducible refine (le_Reader_Text.calls g s0_0 s0_1 a1 t216 t217 t218 w0 _ ?side1 ?side2 A8.out).mono ?_); (case side1 => repeat (first | (with_reducible first | exact HI0.out | apply IsS96.alloc | apply IsS96.drewN | apply IsS96.drew | apply IsS96.set_0 | apply IsS96.set_1) | exact HI0.out)); (case side2 => repeat (first | (with_reducible first | exact HB.out | apply below_alloc | apply pw_below_drewN | apply below_drew1 | refine below_set ?_ (IsS96.ge HI0.out)) | exact HB.out)); rintro e w10 ⟨rfl, hi, hb, hk⟩; refine ⟨_, rfl, ?_⟩; have n0_ := Ax.mk (KeepBut.trans (by repeat (first | (with_reducible first | exact HK.out | apply KeepBut.set_ | apply keep_drewN | apply keep_drew | apply keep_alloc) | exact HK.out)) hk (.inl rfl)); have n1_ := Ax.mk (hb); have n2_ := Ax.mk (hi); clear HK; clear HB; clear HI0; have HK := n0_; have HB := n1_; have HI0 := n2_; clear n0_ n1_ n2_; (try clear hb); (try clear hb2); (try clear hk); (try clear hi)) | ((with_reducible refine gate_callee (f := 72) rfl ?_); refine goesL_ (some 10) rfl rfl Tryd.func72 (by kernel_rfl) rfl #[.string t216] rfl (by (try simp only [List.map_toArray, List.map_cons, List.map_nil]); first | done | rfl | (simp only [List.length_drop, List.length_take]; rfl) | (rw [wrap_sum2 (by assumption)]; rfl)) ?_; (with_reducible refine (le_Get.calls t216 t219 _ A9.out).mono ?_); rintro e w11 ⟨rfl, hb⟩; refine ⟨_, rfl, ?_⟩; have n0_ := Ax.mk (IsS96.below (by repeat (first | (with_reducible first | exact HI0.out | apply IsS96.alloc | apply IsS96.drewN | apply IsS96.drew | apply IsS96.set_0 | apply IsS96.set_1) | exact HI0.out)) hb); have n1_ := Ax.mk (KeepBut.trans (by repeat (first | (with_reducible first | exact HK.out | apply KeepBut.set_ | apply keep_drewN | apply keep_drew | apply keep_alloc) | exact HK.out)) (KeepBut.of_below hb g none) (.inl rfl)); have n2_ := Ax.mk (bP (by repeat (first | (with_reducible first | exact HB.out | apply below_alloc | apply pw_below_drewN | apply below_drew1 | refine below_set ?_ (IsS96.ge HI0.out)) | exact HB.out)) hb); clear HI0; clear HK; clear HB; have HI0 := n0_; have HK := n1_; have HB := n2_; clear n0_ n1_ n2_; (try clear hb); (try clear hb2); (try clear hk); (try clear hi)))
  go_ret
  exact ⟨by first | rfl | (simp [errW_none, errW_some] <;> rfl) | (simp [*, errW_none, errW_some] <;> rfl), by repeat (first | (with_reducible first | exact HI0.out | apply IsS96.alloc | apply IsS96.drewN | apply IsS96.drew | apply IsS96.set_0 | apply IsS96.set_1) | exact HI0.out), by repeat (first | (with_reducible first | exact HB.out | apply below_alloc | apply pw_below_drewN | apply below_drew1 | refine below_set ?_ (IsS96.ge HI0.out)) | exact HB.out), by repeat (first | (with_reducible first | exact HK.out | apply KeepBut.set_ | apply keep_drewN | apply keep_drew | apply keep_alloc) | exact HK.out)⟩
def step_Take.f (k : Nat) (a0 : ByteArray) : Option (Int × Int × Int × Int × ByteArray × ByteArray × Int) :=
 (le_Reader_Number.f a0 false 2).bind fun n1 => (le_Reader_Text.f n1.2.1 n1.2.2 (wrap64 n1.1)).bind fun t1 =>
 if t1.2.2 = true then some (0, 0, 0, 0, ⟨#[]⟩, ⟨#[]⟩, 10) else (seal_Take.f t1.1).bind fun s1 =>
 if s1.2 = 0 then (le_Reader_Number.f s1.1 false 1).bind fun q1 => (le_Reader_Number.f q1.2.1 q1.2.2 4).bind fun q2 => (le_Reader_Number.f q2.2.1 q2.2.2 4).bind fun q3 =>
  (le_Reader_Number.f q3.2.1 q3.2.2 8).bind fun q4 => (le_Reader_Text.f q4.2.1 q4.2.2 (q4.2.1.size : Int)).bind fun x =>
  if x.2.2 = true then some (0, 0, 0, 0, ⟨#[]⟩, ⟨#[]⟩, 2) else (step_Right.f k (wrap64 q1.1) (wrap64 q2.1) (wrap64 q3.1) q4.1 x.1).bind fun ok =>
  if ok = true then some (wrap64 q1.1, wrap64 q2.1, wrap64 q3.1, q4.1, x.1, t1.2.1, 0) else some (0, 0, 0, 0, ⟨#[]⟩, ⟨#[]⟩, 2)
 else some (0, 0, 0, 0, ⟨#[]⟩, ⟨#[]⟩, s1.2)
theorem step_Take.mono : ∀ a0 k, LeO (step_Take.f k a0) (step_Take.f (k + 1) a0) := by
 intro a0 k
 unfold step_Take.f
 repeat' first
   | (with_reducible exact step_Right.mono _ _ _ _ _ _)
   | (with_reducible exact LeO.refl _)
   | (with_reducible exact LeO.none _)
   | (with_reducible refine LeO.ite ?_ ?_)
   | (with_reducible refine LeO.bind ?_ (fun _ => ?_))
   | exact LeO.none _
   | refine LeO.ite ?_ ?_
   | refine LeO.bind ?_ (fun _ => ?_)
def step_Take.T13 : Bool × List (List Nat × List Nat) := (true, [([], []), ([], []), ([1], [1]), ([2], [2]), ([3], [3]), ([0, 0], [0]), ([4, 5, 0, 1, 2, 3, 4, 5], [4]), ([6, 0, 1, 2, 3, 4, 5, 6], [])])
def step_Take.B13 : List Nat := [0, 0, 2, 6, 14, 1, 63, 127]
theorem step_Take.tab13 : rtab .any (opsOf Tryd.f27 13) = step_Take.T13 := by kernel_rfl
theorem step_Take.bits13 : waitsOk step_Take.T13.2 step_Take.B13 = true := by kernel_rfl
theorem keep_blk {w w1 : World} {g k : Nat} {o : Obj} (hk : KeepBut w w1 g none) (h : w.heap[k]? = some o) (hne : k ≠ g) : w1.heap[k]? = some o := by
 have hlt : k < w.heap.size := (Array.getElem?_eq_some_iff.1 h).1
 rw [hk.2 k hlt hne (by simp)]; exact h
theorem put24 {W : World} {g : Nat} {o0 o1 o2 o3 o4 : Value} (h : W.heap[g]? = some (.cells #[o0, o1, o2, o3, o4] 24 (0, 0))) (v0 v1 v2 v3 v4 : Value) :
  (((((W.setCell ⟨g, 0, none⟩ v0).setCell ⟨g, 1, none⟩ v1).setCell ⟨g, 2, none⟩ v2).setCell ⟨g, 3, none⟩ v3).setCell ⟨g, 4, none⟩ v4).heap[g]? = some (.cells #[v0, v1, v2, v3, v4] 24 (0, 0)) :=
 bU (cs := #[v0, v1, v2, v3, o4]) (bU (cs := #[v0, v1, v2, o3, o4]) (bU (cs := #[v0, v1, o2, o3, o4]) (bU (cs := #[v0, o1, o2, o3, o4]) (bU (cs := #[o0, o1, o2, o3, o4]) h 0 _ rfl) 1 _ rfl) 2 _ rfl) 3 _ rfl) 4 _ rfl
theorem below24 {w W : World} {g : Nat} (h : Below w.heap.size w W) (v0 v1 v2 v3 v4 : Value) (hg : w.heap.size ≤ g := by omega) :
  Below w.heap.size w (((((W.setCell ⟨g, 0, none⟩ v0).setCell ⟨g, 1, none⟩ v1).setCell ⟨g, 2, none⟩ v2).setCell ⟨g, 3, none⟩ v3).setCell ⟨g, 4, none⟩ v4) :=
 below_set (below_set (below_set (below_set (below_set h hg) hg) hg) hg) hg
set_option maxHeartbeats 8000000 in
set_option maxRecDepth 100000 in
theorem step_Take.calls (k : Nat) (a0 : ByteArray) (r1 r2 r3 r4 : Int) (r5 r6 : ByteArray) (r7 : Int) (w : World) (h : step_Take.f k a0 = some (r1, r2, r3, r4, r5, r6, r7)) (HT : Tabs w) :
  Calls Tryd.prog 27 #[.string a0] w fun e w' => e = .returned (.tuple #[.agg #[.int .i64 r1, .int .i64 r2, .int .i64 r3, .int .u64 r4, .string r5], .string r6, .int .i64 r7]) ∧ Below w.heap.size w w' := by
 unfold step_Take.f at h
 obtain ⟨⟨n1, nl, nb⟩, A1, h⟩ := Option.bind_eq_some_iff.1 h
 obtain ⟨⟨t1, tl, tb⟩, A2, h⟩ := Option.bind_eq_some_iff.1 h
 replace A1 := Ax.mk A1
 replace A2 := Ax.mk A2
 have H := Ax.mk h
 clear h
 rename _ = _ => hjunk
 clear hjunk
 rename _ = _ => hjunk
 clear hjunk
 have HW := Ax.mk HT
 clear HT
 go_enter Tryd.func27, Tryd.ntmps27
 go_wp2_with (first | (go_at_call 55; fail) | (go_at_call 54; fail))
 have BK0 : (w.alloc (Obj.cells #[Value.int IntKind.i64 0, Value.int IntKind.i64 0, Value.int IntKind.i64 0, Value.int IntKind.u64 0, Value.string { data := #[] }] 24)).heap[w.heap.size]? = some (Obj.cells #[Value.int IntKind.i64 0, Value.int IntKind.i64 0, Value.int IntKind.i64 0, Value.int IntKind.u64 0, Value.string { data := #[] }] 24 (0, 0)) := heap_alloc_new w _
 have BK0' := blk_alloc BK0 (Obj.cells #[Value.string a0, Value.bool false] 96)
 refine (le_Reader_Number.calls _ a0 false 2 n1 nl nb w _ (by rw [show w.heap.size + 1 = (w.alloc (Obj.cells #[Value.int IntKind.i64 0, Value.int IntKind.i64 0, Value.int IntKind.i64 0, Value.int IntKind.u64 0, Value.string { data := #[] }] 24)).heap.size by simp]; exact IsS96.new w _ a0 false (below_alloc (Below.refl _ _) _)) (below_alloc (below_alloc (Below.refl _ _) _) _) A1.out).mono ?_
 rintro e w1 ⟨rfl, hI1, hB1, hK1⟩
 have BK1 := keep_blk hK1 BK0' (by omega)
 clear BK0 BK0' hK1
 replace hI1 := Ax.mk hI1
 replace hB1 := Ax.mk hB1
 replace BK1 := Ax.mk BK1
 go_wp2_with (first | (go_at_call 55; fail) | (go_at_call 54; fail))
 refine (le_Reader_Text.calls _ nl nb (wrap64 n1) t1 tl tb w w1 hI1.out hB1.out A2.out).mono ?_
 rintro e w2 ⟨rfl, hI2, hB2, hK2⟩
 have BK2 := keep_blk hK2 BK1.out (by omega)
 clear BK1 hI1 hB1 hK2 A1 A2
 have hc1 := cellS96_1 hI2.1
 replace hI2 := Ax.mk hI2
 replace hB2 := Ax.mk hB2
 cases tb with
 | true =>
  have H1 := H.out
  rw [if_pos rfl] at H1
  cases H1
  have b0 := (bC BK2 0).trans rfl
  have b1 := (bC BK2 1).trans rfl
  have b2 := (bC BK2 2).trans rfl
  have b3 := (bC BK2 3).trans rfl
  have b4 := (bC BK2 4).trans rfl
  have z0 := bF BK2 0
  have z1 := bF BK2 1
  have z2 := bF BK2 2
  have z3 := bF BK2 3
  have z4 := bF BK2 4
  replace BK2 := Ax.mk BK2
  go_wp2
  refine bodyPost_ret (results_ctt rfl _ _ w.heap.size 24 #[.int .i64 0, .int .i64 0, .int .i64 0, .int .u64 0, .string (⟨#[]⟩ : ByteArray)] (0, 0) _ rfl (put24 BK2.out _ _ _ _ _) Tryd.underlying24 rfl (by kernel_rfl)) rfl ?_
  exact ⟨rfl, below24 hB2.out _ _ _ _ _⟩
 | false =>
  have H1 := H.out
  rw [if_neg (by decide)] at H1
  obtain ⟨⟨s1, s2⟩, A3, H2⟩ := Option.bind_eq_some_iff.1 H1
  clear H H1
  replace A3 := Ax.mk A3
  have H := Ax.mk H2
  clear H2
  replace BK2 := Ax.mk BK2
  go_wp2_with (first | (go_at_call 56; fail))
  refine (seal_Take.calls t1 s1 s2 _ A3.out).mono ?_
  rintro e w3 ⟨rfl, hb3⟩
  have hI3 := hI2.out.below hb3
  have hB3 := bP hB2.out hb3
  have BK3 := bB BK2.out hb3
  clear A3 hI2 hB2 BK2 hc1 hb3
  have b0 := (bC BK3 0).trans rfl
  have b1 := (bC BK3 1).trans rfl
  have b2 := (bC BK3 2).trans rfl
  have b3 := (bC BK3 3).trans rfl
  have b4 := (bC BK3 4).trans rfl
  have z0 := bF BK3 0
  have z1 := bF BK3 1
  have z2 := bF BK3 2
  have z3 := bF BK3 3
  have z4 := bF BK3 4
  replace hI3 := Ax.mk hI3
  replace hB3 := Ax.mk hB3
  replace BK3 := Ax.mk BK3
  by_cases hs : s2 = 0
  ·subst hs
   have H1 := H.out
   rw [if_pos rfl] at H1
   obtain ⟨⟨n1_, l1_, d1_⟩, B1, H1⟩ := Option.bind_eq_some_iff.1 H1
   obtain ⟨⟨n2_, l2_, d2_⟩, B2, H1⟩ := Option.bind_eq_some_iff.1 H1
   obtain ⟨⟨n3_, l3_, d3_⟩, B3, H1⟩ := Option.bind_eq_some_iff.1 H1
   obtain ⟨⟨n4_, l4_, d4_⟩, B4, H1⟩ := Option.bind_eq_some_iff.1 H1
   obtain ⟨⟨x_, l5_, d5_⟩, B5, H1⟩ := Option.bind_eq_some_iff.1 H1
   clear H
   have H := Ax.mk H1
   clear H1
   replace B1 := Ax.mk B1
   replace B2 := Ax.mk B2
   replace B3 := Ax.mk B3
   replace B4 := Ax.mk B4
   replace B5 := Ax.mk B5
   clear b0 b1 b2 b3 b4 z0 z1 z2 z3 z4
   go_wp2_with (first | (go_at_call 55; fail))
   have hlt : w.heap.size + 1 < w3.heap.size := hI3.out.lt
   have J0 := IsS96.new w w3 s1 false hB3.out
   have R0 := hI3.out.alloc (Obj.cells #[Value.string s1, Value.bool false] 96)
   have K0 := blk_alloc BK3.out (Obj.cells #[Value.string s1, Value.bool false] 96)
   have D0 := below_alloc hB3.out (Obj.cells #[Value.string s1, Value.bool false] 96)
   clear hI3 hB3 BK3
   generalize w3.alloc (Obj.cells #[Value.string s1, Value.bool false] 96) = v0 at J0 R0 K0 D0 ⊢
   generalize w3.heap.size = gq at hlt J0 ⊢
   have HQ := Ax.mk hlt
   replace J0 := Ax.mk J0
   replace R0 := Ax.mk R0
   replace K0 := Ax.mk K0
   replace D0 := Ax.mk D0
   clear hlt
   refine (le_Reader_Number.calls gq s1 false 1 n1_ l1_ d1_ w _ J0.out D0.out B1.out).mono ?_
   rintro e v1 ⟨rfl, hJ, hD, hK⟩
   have hne := HQ.out
   have J1 := Ax.mk hJ
   have D1 := Ax.mk hD
   have R1 := Ax.mk (show IsS96 w v1 (w.heap.size + 1) tl false from ⟨keep_blk hK R0.out.1 (by omega), R0.out.2⟩)
   have K1 := Ax.mk (keep_blk hK K0.out (by omega))
   clear hJ hD hK hne J0 D0 R0 K0
   go_wp2_with (first | (go_at_call 55; fail))
   refine (le_Reader_Number.calls gq l1_ d1_ 4 n2_ l2_ d2_ w _ J1.out D1.out B2.out).mono ?_
   rintro e v2 ⟨rfl, hJ, hD, hK⟩
   have hne := HQ.out
   have J2 := Ax.mk hJ
   have D2 := Ax.mk hD
   have R2 := Ax.mk (show IsS96 w v2 (w.heap.size + 1) tl false from ⟨keep_blk hK R1.out.1 (by omega), R1.out.2⟩)
   have K2 := Ax.mk (keep_blk hK K1.out (by omega))
   clear hJ hD hK hne J1 D1 R1 K1
   go_wp2_with (first | (go_at_call 55; fail))
   refine (le_Reader_Number.calls gq l2_ d2_ 4 n3_ l3_ d3_ w _ J2.out D2.out B3.out).mono ?_
   rintro e v3 ⟨rfl, hJ, hD, hK⟩
   have hne := HQ.out
   have J3 := Ax.mk hJ
   have D3 := Ax.mk hD
   have R3 := Ax.mk (show IsS96 w v3 (w.heap.size + 1) tl false from ⟨keep_blk hK R2.out.1 (by omega), R2.out.2⟩)
   have K3 := Ax.mk (keep_blk hK K2.out (by omega))
   clear hJ hD hK hne J2 D2 R2 K2
   go_wp2_with (first | (go_at_call 55; fail))
   refine (le_Reader_Number.calls gq l3_ d3_ 8 n4_ l4_ d4_ w _ J3.out D3.out B4.out).mono ?_
   rintro e v4 ⟨rfl, hJ, hD, hK⟩
   have hne := HQ.out
   have J4 := Ax.mk hJ
   have D4 := Ax.mk hD
   have R4 := Ax.mk (show IsS96 w v4 (w.heap.size + 1) tl false from ⟨keep_blk hK R3.out.1 (by omega), R3.out.2⟩)
   have K4 := Ax.mk (keep_blk hK K3.out (by omega))
   clear hJ hD hK hne J3 D3 R3 K3
   have hc := fun o => cellS96_0 (J4.out.alloc o).1
   go_wp2_with (first | (go_at_call 54; fail))
   clear hc
   have hlt : gq < v4.heap.size := J4.out.lt
   have X0 := heap_alloc_new v4 (Obj.cells #[Value.int IntKind.i64 (wrap64 n1_), Value.int IntKind.i64 (wrap64 n2_), Value.int IntKind.i64 (wrap64 n3_), Value.int IntKind.u64 n4_, Value.string { data := #[] }] 24)
   have J5 := J4.out.alloc (Obj.cells #[Value.int IntKind.i64 (wrap64 n1_), Value.int IntKind.i64 (wrap64 n2_), Value.int IntKind.i64 (wrap64 n3_), Value.int IntKind.u64 n4_, Value.string { data := #[] }] 24)
   have R5 := R4.out.alloc (Obj.cells #[Value.int IntKind.i64 (wrap64 n1_), Value.int IntKind.i64 (wrap64 n2_), Value.int IntKind.i64 (wrap64 n3_), Value.int IntKind.u64 n4_, Value.string { data := #[] }] 24)
   have K5 := blk_alloc K4.out (Obj.cells #[Value.int IntKind.i64 (wrap64 n1_), Value.int IntKind.i64 (wrap64 n2_), Value.int IntKind.i64 (wrap64 n3_), Value.int IntKind.u64 n4_, Value.string { data := #[] }] 24)
   have D5 := below_alloc D4.out (Obj.cells #[Value.int IntKind.i64 (wrap64 n1_), Value.int IntKind.i64 (wrap64 n2_), Value.int IntKind.i64 (wrap64 n3_), Value.int IntKind.u64 n4_, Value.string { data := #[] }] 24)
   clear J4 R4 K4 D4
   generalize v4.alloc (Obj.cells #[Value.int IntKind.i64 (wrap64 n1_), Value.int IntKind.i64 (wrap64 n2_), Value.int IntKind.i64 (wrap64 n3_), Value.int IntKind.u64 n4_, Value.string { data := #[] }] 24) = v5 at X0 J5 R5 K5 D5 ⊢
   generalize v4.heap.size = gx at hlt X0 ⊢
   have HX := Ax.mk hlt
   clear hlt
   refine (le_Reader_Text.calls gq l4_ d4_ (l4_.size : Int) x_ l5_ d5_ w _ J5 D5 B5.out).mono ?_
   rintro e v6 ⟨rfl, hJ, hD, hK⟩
   have hne := HQ.out
   have hnx := HX.out
   have J6 := Ax.mk hJ
   have D6 := Ax.mk hD
   have R6 := Ax.mk (show IsS96 w v6 (w.heap.size + 1) tl false from ⟨keep_blk hK R5.1 (by omega), R5.2⟩)
   have K6 := Ax.mk (keep_blk hK K5 (by omega))
   have X6 := keep_blk hK X0 (by omega)
   clear hJ hD hK hne hnx J5 D5 R5 K5 X0
   have x0 := (bC X6 0).trans rfl
   have x1 := (bC X6 1).trans rfl
   have x2 := (bC X6 2).trans rfl
   have x3 := (bC X6 3).trans rfl
   have x4 := (bC X6 4).trans rfl
   have z4 := bF X6 4
   replace X6 := Ax.mk X6
   have q1 := cellS96_1 J6.out.1
   cases d5_ with
   | true =>
    have H1 := H.out
    rw [if_pos rfl] at H1
    cases H1
    have hgx : w.heap.size ≠ gx := by have h1 := HQ.out; have h2 := HX.out; omega
    have K7 : (v6.setCell { block := gx, off := 4 } (Value.string x_)).heap[w.heap.size]? = some (Obj.cells #[Value.int IntKind.i64 0, Value.int IntKind.i64 0, Value.int IntKind.i64 0, Value.int IntKind.u64 0, Value.string { data := #[] }] 24 (0, 0)) := bR K6.out hgx _
    have D7 : Below w.heap.size w (v6.setCell { block := gx, off := 4 } (Value.string x_)) := below_set D6.out (by have h1 := HQ.out; have h2 := HX.out; show w.heap.size ≤ gx; omega)
    have b0 := (bC K7 0).trans rfl
    have b1 := (bC K7 1).trans rfl
    have b2 := (bC K7 2).trans rfl
    have b3 := (bC K7 3).trans rfl
    have b4 := (bC K7 4).trans rfl
    have y0 := bF K7 0
    have y1 := bF K7 1
    have y2 := bF K7 2
    have y3 := bF K7 3
    have y4 := bF K7 4
    replace K7 := Ax.mk K7
    replace D7 := Ax.mk D7
    go_wp2
    refine bodyPost_ret (results_ctt rfl _ _ w.heap.size 24 #[.int .i64 0, .int .i64 0, .int .i64 0, .int .u64 0, .string (⟨#[]⟩ : ByteArray)] (0, 0) _ rfl (put24 K7.out _ _ _ _ _) Tryd.underlying24 rfl (by kernel_rfl)) rfl ?_
    exact ⟨rfl, below24 D7.out _ _ _ _ _⟩
   | false =>
    have H1 := H.out
    rw [if_neg (by decide)] at H1
    obtain ⟨ok, A9, H2⟩ := Option.bind_eq_some_iff.1 H1
    clear H H1
    have H := Ax.mk H2
    have A9 := Ax.mk A9
    clear H2
    go_wp2_with (first | (go_at_call 21; fail))
    have hgx : w.heap.size ≠ gx := by have h1 := HQ.out; have h2 := HX.out; omega
    have K7 : (v6.setCell { block := gx, off := 4 } (Value.string x_)).heap[w.heap.size]? = some (Obj.cells #[Value.int IntKind.i64 0, Value.int IntKind.i64 0, Value.int IntKind.i64 0, Value.int IntKind.u64 0, Value.string { data := #[] }] 24 (0, 0)) := bR K6.out hgx _
    have D7 : Below w.heap.size w (v6.setCell { block := gx, off := 4 } (Value.string x_)) := below_set D6.out (by have h1 := HQ.out; have h2 := HX.out; show w.heap.size ≤ gx; omega)
    have X7 : (v6.setCell { block := gx, off := 4 } (Value.string x_)).heap[gx]? = some (Obj.cells #[Value.int IntKind.i64 (wrap64 n1_), Value.int IntKind.i64 (wrap64 n2_), Value.int IntKind.i64 (wrap64 n3_), Value.int IntKind.u64 n4_, Value.string x_] 24 (0, 0)) := bU (cs := #[Value.int IntKind.i64 (wrap64 n1_), Value.int IntKind.i64 (wrap64 n2_), Value.int IntKind.i64 (wrap64 n3_), Value.int IntKind.u64 n4_, Value.string { data := #[] }]) X6.out 4 _ rfl
    have R7 : (v6.setCell { block := gx, off := 4 } (Value.string x_)).heap[w.heap.size + 1]? = some (Obj.cells #[Value.string tl, Value.bool false] 96 (0, 0)) := bR R6.out.1 (by have h1 := HQ.out; have h2 := HX.out; show w.heap.size + 1 ≠ gx; omega) _
    clear K6 D6 X6 R6 J6 q1 x0 x1 x2 x3 x4 z4
    generalize v6.setCell { block := gx, off := 4 } (Value.string x_) = v7 at K7 D7 X7 R7 ⊢
    refine (step_Right.calls k (wrap64 n1_) (wrap64 n2_) (wrap64 n3_) n4_ x_ ok _ A9.out (HW.out.below D7)).mono ?_
    rintro e v8 ⟨rfl, hb8⟩
    have K8 := bB K7 hb8
    have D8 := Ax.mk (bP D7 hb8)
    have X8 := bB X7 hb8
    have R8 := bB R7 hb8
    clear K7 D7 X7 R7 hb8
    cases ok with
    | false =>
     have H1 := H.out
     rw [if_neg (by decide)] at H1
     cases H1
     have b0 := (bC K8 0).trans rfl
     have y0 := bF K8 0
     have b1 := (bC K8 1).trans rfl
     have y1 := bF K8 1
     have b2 := (bC K8 2).trans rfl
     have y2 := bF K8 2
     have b3 := (bC K8 3).trans rfl
     have y3 := bF K8 3
     have b4 := (bC K8 4).trans rfl
     have y4 := bF K8 4
     replace K8 := Ax.mk K8
     replace X8 := Ax.mk X8
     replace R8 := Ax.mk R8
     go_wp2
     refine bodyPost_ret (results_ctt rfl _ _ w.heap.size 24 #[.int .i64 0, .int .i64 0, .int .i64 0, .int .u64 0, .string (⟨#[]⟩ : ByteArray)] (0, 0) _ rfl (put24 K8.out _ _ _ _ _) Tryd.underlying24 rfl (by kernel_rfl)) rfl ?_
     exact ⟨rfl, below24 D8.out _ _ _ _ _⟩
    | true =>
     have H1 := H.out
     rw [if_pos rfl] at H1
     cases H1
     have b0 := (bC K8 0).trans rfl
     have y0 := bF K8 0
     have b1 := (bC K8 1).trans rfl
     have y1 := bF K8 1
     have b2 := (bC K8 2).trans rfl
     have y2 := bF K8 2
     have b3 := (bC K8 3).trans rfl
     have y3 := bF K8 3
     have b4 := (bC K8 4).trans rfl
     have y4 := bF K8 4
     have x0 := (bC X8 0).trans rfl
     have x1 := (bC X8 1).trans rfl
     have x2 := (bC X8 2).trans rfl
     have x3 := (bC X8 3).trans rfl
     have x4 := (bC X8 4).trans rfl
     have q0 := cellS96_0 R8
     replace K8 := Ax.mk K8
     replace X8 := Ax.mk X8
     replace R8 := Ax.mk R8
     go_wp2
     have hgx' : gx ≠ w.heap.size := fun h => hgx h.symm
     have hg1 : w.heap.size + 1 ≠ w.heap.size := by omega
     refine start_ (n := 8) (S := fun w' => w'.cell? ⟨gx, 0, none⟩ = some (.int .i64 (wrap64 n1_)) ∧ w'.cell? ⟨gx, 1, none⟩ = some (.int .i64 (wrap64 n2_)) ∧ w'.cell? ⟨gx, 2, none⟩ = some (.int .i64 (wrap64 n3_)) ∧ w'.cell? ⟨gx, 3, none⟩ = some (.int .u64 r4) ∧ w'.cell? ⟨gx, 4, none⟩ = some (.string r5) ∧ w'.cell? ⟨w.heap.size + 1, 0, none⟩ = some (.string r6)) (ds := []) (TF 0 8) (by kernel_rfl) rfl rfl ⟨x0, x1, x2, x3, x4, q0⟩ (fun hHeld => ?_)
     refine with_tabW step_Take.tab13 step_Take.bits13 (fun HT_ HW_ => ?_)
     have K9 := blk_drew K8.out
     have D9 := below_drew1 D8.out
     clear b0 b1 b2 b3 b4 y0 y1 y2 y3 y4 x0 x1 x2 x3 x4 q0
     generalize v8.drew = v9 at K9 D9 hHeld ⊢
     clear K8 D8 X8 R8
     refine pure_ (i := 1) (N := some 67) (v := ?_) (a' := ?_) (BT 8 2) rfl rfl (any_of HT_.out (by kernel_rfl)) (fun _ _ _ h => h) (Or.inl ⟨by rfl, ?_⟩) ?_ ?_
     rotate_left; · intro w'; go_simp; with_reducible rfl
     rotate_left; · simp only [Act.put, sI, sZ, sS, i64_w, i32_w]; rfl
     refine pure_ (i := 2) (N := some 68) (v := ?_) (a' := ?_) (BT 8 6) rfl rfl (any_of HT_.out (by kernel_rfl)) (fun _ _ _ h => h) (Or.inl ⟨by rfl, ?_⟩) ?_ ?_
     rotate_left; · intro w'; go_simp; with_reducible rfl
     rotate_left; · simp only [Act.put, sI, sZ, sS, i64_w, i32_w]; rfl
     refine pure_ (i := 3) (N := some 69) (v := ?_) (a' := ?_) (BT 8 14) rfl rfl (any_of HT_.out (by kernel_rfl)) (fun _ _ _ h => h) (Or.inl ⟨by rfl, ?_⟩) ?_ ?_
     rotate_left; · intro w'; go_simp; with_reducible rfl
     rotate_left; · simp only [Act.put, sI, sZ, sS, i64_w, i32_w]; rfl
     refine take_ (i := 4) (N := some 70) (v := ?_) (a' := ?_) (BT 8 30) rfl rfl (take_ofW HT_.out HW_.out (by kernel_rfl)) (fun _ _ _ h => h) (Or.inl ⟨by rfl, ?_⟩) hHeld ?_ ?_
     rotate_left
     ·rintro w' ⟨s0, s1, s2, s3, s4, s5⟩
      go_simp
      with_reducible rfl
     rotate_left
     ·simp only [Act.put, sI, sZ, sS, i64_w, i32_w]
      rfl
     refine take_ (i := 0) (N := some 66) (v := ?_) (a' := ?_) (TF 5 3) rfl rfl (take_ofW HT_.out HW_.out (by kernel_rfl)) (fun _ _ _ h => h) (Or.inl ⟨by rfl, ?_⟩) hHeld ?_ ?_
     rotate_left
     ·rintro w' ⟨s0, s1, s2, s3, s4, s5⟩
      go_simp
      with_reducible rfl
     rotate_left
     ·simp only [Act.put, sI, sZ, sS, i64_w, i32_w]
      rfl
     refine one_ (i := 5) (N := none) (TF 6 2) rfl rfl (one_of HT_.out (by kernel_rfl)) (by decide) (fun K hK => ?_)
     have b0 := (bC K9 0).trans rfl
     have b1 := (bC K9 1).trans rfl
     have b2 := (bC K9 2).trans rfl
     have b3 := (bC K9 3).trans rfl
     have b4 := (bC K9 4).trans rfl
     have y0 := bF K9 0
     have y1 := bF K9 1
     have y2 := bF K9 2
     have y3 := bF K9 3
     have y4 := bF K9 4
     have K8 := Ax.mk K9
     have D8 := Ax.mk D9
     clear K9 D9
     refine skip_ (w1 := ?_) (by rfl) rfl ?_ ?_
     rotate_left
     ·go_simp
      rfl
     refine hK.out _ _ ⟨((cell_far (p := ⟨w.heap.size, _, none⟩) hgx' _).trans ((cell_far (p := ⟨w.heap.size, _, none⟩) hgx' _).trans ((cell_far (p := ⟨w.heap.size, _, none⟩) hgx' _).trans ((cell_far (p := ⟨w.heap.size, _, none⟩) hgx' _).trans ((cell_far (p := ⟨w.heap.size, _, none⟩) hgx' _).trans hHeld.1))))), ((cell_far (p := ⟨w.heap.size, _, none⟩) hgx' _).trans ((cell_far (p := ⟨w.heap.size, _, none⟩) hgx' _).trans ((cell_far (p := ⟨w.heap.size, _, none⟩) hgx' _).trans ((cell_far (p := ⟨w.heap.size, _, none⟩) hgx' _).trans ((cell_far (p := ⟨w.heap.size, _, none⟩) hgx' _).trans hHeld.2.1))))), ((cell_far (p := ⟨w.heap.size, _, none⟩) hgx' _).trans ((cell_far (p := ⟨w.heap.size, _, none⟩) hgx' _).trans ((cell_far (p := ⟨w.heap.size, _, none⟩) hgx' _).trans ((cell_far (p := ⟨w.heap.size, _, none⟩) hgx' _).trans ((cell_far (p := ⟨w.heap.size, _, none⟩) hgx' _).trans hHeld.2.2.1))))), ((cell_far (p := ⟨w.heap.size, _, none⟩) hgx' _).trans ((cell_far (p := ⟨w.heap.size, _, none⟩) hgx' _).trans ((cell_far (p := ⟨w.heap.size, _, none⟩) hgx' _).trans ((cell_far (p := ⟨w.heap.size, _, none⟩) hgx' _).trans ((cell_far (p := ⟨w.heap.size, _, none⟩) hgx' _).trans hHeld.2.2.2.1))))), ((cell_far (p := ⟨w.heap.size, _, none⟩) hgx' _).trans ((cell_far (p := ⟨w.heap.size, _, none⟩) hgx' _).trans ((cell_far (p := ⟨w.heap.size, _, none⟩) hgx' _).trans ((cell_far (p := ⟨w.heap.size, _, none⟩) hgx' _).trans ((cell_far (p := ⟨w.heap.size, _, none⟩) hgx' _).trans hHeld.2.2.2.2.1))))), ((cell_far (p := ⟨w.heap.size, _, none⟩) hg1 _).trans ((cell_far (p := ⟨w.heap.size, _, none⟩) hg1 _).trans ((cell_far (p := ⟨w.heap.size, _, none⟩) hg1 _).trans ((cell_far (p := ⟨w.heap.size, _, none⟩) hg1 _).trans ((cell_far (p := ⟨w.heap.size, _, none⟩) hg1 _).trans hHeld.2.2.2.2.2)))))⟩ (fun hHeld => ?_)
     clear hK K
     refine pure_ (i := 6) (N := some 3) (v := ?_) (a' := ?_) (TF 7 1) rfl rfl (any_of HT_.out (by kernel_rfl)) (fun _ _ _ h => h) (Or.inl ⟨by rfl, ?_⟩) ?_ ?_
     rotate_left; · intro w'; go_simp; with_reducible rfl
     rotate_left; · simp only [Act.put, sI, sZ, sS, i64_w, i32_w]; rfl
     refine pure_ (i := 7) (N := some 4) (v := ?_) (a' := ?_) (TF 8 0) rfl rfl (any_of HT_.out (by kernel_rfl)) (fun _ _ _ h => h) (Or.inl ⟨by rfl, ?_⟩) ?_ ?_
     rotate_left; · intro w'; go_simp; with_reducible rfl
     rotate_left; · simp only [Act.put, sI, sZ, sS, i64_w, i32_w]; rfl
     refine done_ (done_of HT_.out (by kernel_rfl)) ?_
     try go_wp2
     refine bodyPost_ret (results_ctt rfl _ _ w.heap.size 24 #[.int .i64 (wrap64 n1_), .int .i64 (wrap64 n2_), .int .i64 (wrap64 n3_), .int .u64 r4, .string r5] (0, 0) _ rfl (put24 K8.out _ _ _ _ _) Tryd.underlying24 rfl (by kernel_rfl)) rfl ?_
     exact ⟨rfl, below24 D8.out _ _ _ _ _⟩
  ·have H1 := H.out
   rw [if_neg hs] at H1
   cases H1
   have c1 : (r7 == 0) = false := beq_eq_false_iff_ne.mpr hs
   have c2 : (r7 != 0) = true := bne_iff_ne.mpr hs
   clear hs
   go_wp2
   refine bodyPost_ret (results_ctt rfl _ _ w.heap.size 24 #[.int .i64 0, .int .i64 0, .int .i64 0, .int .u64 0, .string (⟨#[]⟩ : ByteArray)] (0, 0) _ rfl (put24 BK3.out _ _ _ _ _) Tryd.underlying24 rfl (by kernel_rfl)) rfl ?_
   exact ⟨rfl, below24 hB3.out _ _ _ _ _⟩
end Go.Proofs.YtboommbclbjlnaaDoor.Fn
end
section
namespace Go.Proofs.YtboommbclbjlnaaDoor.Fn
open Go.RowKit Go.Proofs.YtboommbclbjlnaaDoorW.PrintWords Go.Proofs.YtboommbclbjlnaaDoorW.PrintLast Go.Proofs.YtboommbclbjlnaaDoorW.PrintMore Go.Proofs.YtboommbclbjlnaaDoor.Lf
attribute [local go_sem] max2_int min2_int max_two min_two max_three min_three max_four min_four   -- for this text's walks alone
set_option linter.unusedVariables false
set_option linter.unusedSimpArgs false
attribute [local go_sem] Oper.semAt_some
def step_Scan.l : Nat → ByteArray → List S24 → Option (List S24 × ByteArray)
 | 0, _, _ => none
 | k + 1, s, acc => (step_Take.f k s).bind fun t => if t.2.2.2.2.2.2 = 0 then (if acc.length ≤ 1000000 then step_Scan.l k t.2.2.2.2.2.1 (acc ++ [⟨t.1, t.2.1, t.2.2.1, t.2.2.2.1, t.2.2.2.2.1⟩]) else none) else some (acc, s)
def step_Scan.f (k : Nat) (a0 : ByteArray) : Option (List S24 × Int) := (step_Scan.l k a0 []).bind fun t => some (t.1, wrap64 ((a0.size : Int) - (t.2.size : Int)))
theorem step_Scan.mono_l : ∀ (k : Nat) (s : ByteArray) (acc : List S24), LeO (step_Scan.l k s acc) (step_Scan.l (k + 1) s acc)
 | 0, s, acc => LeO.none _
 | k + 1, s, acc => by
  unfold step_Scan.l
  refine LeO.bind (step_Take.mono _ _) (fun t => ?_)
  refine LeO.ite ?_ (LeO.refl _)
  exact LeO.ite (step_Scan.mono_l k _ _) (LeO.refl _)
theorem step_Scan.mono : ∀ a0 k, LeO (step_Scan.f k a0) (step_Scan.f (k + 1) a0) := fun a0 k => LeO.bind (step_Scan.mono_l k _ _) (fun _ => LeO.refl _)
set_option maxHeartbeats 4000000 in
set_option maxRecDepth 100000 in
theorem step_Scan.records (s : ByteArray) (w : World) :
  Calls Tryd.prog 59 #[.string s] w fun e w' => e = .returned (.func (.func 73) #[] #[.pointer (some ⟨w.heap.size, 0, none⟩)]) ∧ w' = w.alloc (.cells #[.string s] 9) := by
 go_enter Tryd.func59, Tryd.ntmps59
 go_wp2
 go_ret
 exact ⟨rfl, rfl⟩
def step_Scan.cells (x : S24) : Array Value := #[.int .i64 x.f0, .int .i64 x.f1, .int .i64 x.f2, .int .u64 x.f3, .string x.f4]
theorem step_Scan.set_box {W : World} {g : Nat} {t : TypeId} {v : Value} (h : W.heap[g]? = some (.cells #[v] t (0, 0))) (u : Value) : (W.setCell ⟨g, 0, none⟩ u).heap[g]? = some (.cells #[u] t (0, 0)) := bU (cs := #[v]) h 0 _ rfl
set_option maxHeartbeats 8000000 in
set_option maxRecDepth 100000 in
theorem step_Scan.iter (m l Sb k : Nat) (J : List S24 → ByteArray → World → Prop) (r : List S24 × ByteArray)
  (hJb : ∀ acc s W W', J acc s W → Below W.heap.size W W' → J acc s W')
  (hJs : ∀ acc s W, J acc s W → ∀ u, J acc s (W.setCell ⟨Sb, 0, none⟩ u))
  (hJT : ∀ acc s W, J acc s W → Tabs W)
  (hY : ∀ acc (x : S24) s rest W v, J acc s W → acc.length ≤ 1000000 → W.heap[Sb]? = some (.cells #[v] 9 (0, 0)) → YieldAt Fence.wide (m - 1) Tryd.prog l #[.agg #[.int .i64 x.f0, .int .i64 x.f1, .int .i64 x.f2, .int .u64 x.f3, .string x.f4], .string rest] W fun e W' =>
   e = .returned (.bool true) ∧ J (acc ++ [x]) rest W' ∧ W'.heap[Sb]? = some (.cells #[v] 9 (0, 0)))
  (s : ByteArray) (acc : List S24) (h : step_Scan.l k s acc = some r) (W : World) (hS : W.heap[Sb]? = some (.cells #[.string s] 9 (0, 0))) (h0 : J acc s W) :
  CallsIn Fence.wide m Tryd.prog 73 #[.func (.yield l) #[] #[], .pointer (some ⟨Sb, 0, none⟩)] W fun e W' => (∃ v, e = .returned v) ∧ J r.1 r.2 W' := by
 have HY := Lib.hid hY
 have HB := Lib.hid hJb
 have HS := Lib.hid hJs
 have HT := Lib.hid hJT
 have H := Ax.mk h
 have HK := Ax.mk hS
 have HJ := Ax.mk h0
 clear hY hJb hJs hJT h hS h0
 refine callsIn_of_wp Tryd.func73 rfl trivial ?_ rfl
 simp only [Tryd.ntmps73, List.size_toArray, List.length_cons, List.length_nil, Nat.reduceAdd, Nat.reduceSub, Array.replicate_succ, Array.replicate_zero, List.push_toArray, List.append_toArray, List.nil_append, List.cons_append]
 gi_wp2
 gi_loopg [3] k (fun kq _ wr => ∃ (s1 : ByteArray) (a1 : List S24), Ax (step_Scan.l kq s1 a1 = some r) ∧ Ax (wr.heap[Sb]? = some (.cells #[.string s1] 9 (0, 0))) ∧ Ax (J a1 s1 wr))
 case atStart => exact ⟨s, acc, H, HK, HJ⟩
 case round =>
  clear H HK HJ
  obtain ⟨s1, a1, H, HK, HJ⟩ := hrel
  cases gk with
  | zero => exact absurd H.out (by simp [step_Scan.l])
  | succ k1 =>
   have hh := H.out
   clear H
   rw [step_Scan.l] at hh
   obtain ⟨⟨t1, t2, t3, t4, t5, t6, t7⟩, ht, hh⟩ := Option.bind_eq_some_iff.1 hh
   have HTk := Ax.mk ht
   have H := Ax.mk hh
   clear ht hh
   have hc := (bC HK.out 0).trans rfl
   have hAl : ∀ w1 : World, Below w1.heap.size w1 (w1.alloc (.cells #[.int .i64 t1, .int .i64 t2, .int .i64 t3, .int .u64 t4, .string t5] 24)) := fun w1 => below_alloc (Below.refl _ _) _
   have HA := Lib.hid hAl
   clear hAl
   by_cases h0 : t7 = 0
   ·subst h0
    have hh := H.out
    clear H
    rw [if_pos rfl] at hh
    by_cases hl : a1.length ≤ 1000000
    case neg => rw [if_neg hl] at hh; cases hh
    rw [if_pos hl] at hh
    have H := Ax.mk hh
    have HL := Ax.mk hl
    clear hh hl
    gi_wp2_with (
     refine ⟨trivial, fun h => absurd h (by simp [Fence.wide]), ?_⟩
     gi_at_call 27
     refine (callsIn_wide.2 (step_Take.calls k1 s1 t1 t2 t3 t4 t5 t6 0 wr HTk.out (HT.out _ _ _ HJ.out))).mono ?_
     rintro e w1 ⟨rfl, hb1⟩
     have HJ2 := Ax.mk (HB.out _ _ _ _ (HB.out _ _ _ _ HJ.out hb1) (HA.out w1))
     have HS2 := Ax.mk (blk_alloc (bB HK.out hb1) (.cells #[.int .i64 t1, .int .i64 t2, .int .i64 t3, .int .u64 t4, .string t5] 24))
     clear hc hb1
     obtain ⟨fn, tmps, assign, body, hy, hR⟩ := HY.out a1 ⟨t1, t2, t3, t4, t5⟩ s1 t6 _ _ HJ2.out HL.out HS2.out
     simp only at hy)
    refine ⟨fun h => absurd h (by simp [Fence.wide]), ?_⟩
    refine hR.mono ?_
    rintro e W3 ⟨rfl, hJ3, hS3⟩
    have hc3 := (bC hS3 0).trans rfl
    have hf3 := bF hS3 0
    have HJ3 := Ax.mk (HS.out _ _ _ hJ3 (.string t6))
    have HS3 := Ax.mk (step_Scan.set_box hS3 (.string t6))
    clear hJ3 hS3 hy hR
    gi_wp2
    gi_roundg k1
    case rel => exact ⟨t6, a1 ++ [⟨t1, t2, t3, t4, t5⟩], H, HS3, HJ3⟩
    case measure => omega
   ·have hh := H.out
    rw [if_neg h0] at hh
    cases hh
    have c1 : (t7 == 0) = false := beq_eq_false_iff_ne.mpr h0
    have c2 : (t7 != 0) = true := bne_iff_ne.mpr h0
    clear h0 H
    gi_wp2_with (
     refine ⟨trivial, fun h => absurd h (by simp [Fence.wide]), ?_⟩
     gi_at_call 27
     refine (callsIn_wide.2 (step_Take.calls k1 s1 t1 t2 t3 t4 t5 t6 t7 wr HTk.out (HT.out _ _ _ HJ.out))).mono ?_
     rintro e w1 ⟨rfl, hb1⟩
     have HJ2 := Ax.mk (HB.out _ _ _ _ (HB.out _ _ _ _ HJ.out hb1) (HA.out w1))
     clear hc hb1)
    refine ⟨fun _ h => (by cases h), ?_⟩
    gi_wp2
    refine bodyPost_ret (results_none rfl _ _ _) rfl ?_
    exact ⟨⟨_, rfl⟩, HJ2.out⟩
structure step_Scan.At (w : World) (acc : List S24) (s : ByteArray) (Sb : Nat) (W : World) : Prop where
 row : ∃ v, W.heap[w.heap.size]? = some (.cells #[v] 29 (0, 0)) ∧ Kd.R k24 24 W w.heap.size (fun b => b ≠ Sb) v acc
 left : W.heap[w.heap.size + 1]? = some (.cells #[.string s] 9 (0, 0))
 below : Below w.heap.size w W
theorem step_Scan.put_cells {W : World} {g L : Nat} {c : Array Value} {t : TypeId} {f : Nat × Nat} {r : Loop} (h : W.heap[g]? = some (.cells c t f)) (hl : W.heap[L]? = some (.loop r)) (o : Obj) : (W.putObj L o).heap[g]? = some (.cells c t f) :=
 (World.putObj_heap_other (fun e => by rw [e, hl] at h; cases h)).trans h
theorem step_Scan.put_R {d : Kd S24} {e : Nat} {W : World} {base : Nat} {ok : Nat → Prop} {v : Value} {xs : List S24} {L : Nat} {r : Loop} (h : d.R e W base ok v xs) (hl : W.heap[L]? = some (.loop r)) (o : Obj) : d.R e (W.putObj L o) base ok v xs :=
 Kd.R_mono (Kd.R_move (Kd.R_bound h) (fun k hk => World.putObj_heap_other (fun e => by obtain ⟨_, _, _, _, _, c, hc⟩ := hk; rw [e, hl] at hc; cases hc))) (fun _ hk => hk.1)
theorem step_Scan.put_defs {d : Kd S24} {e : Nat} {W : World} {base : Nat} {ok : Nat → Prop} {v : Value} {xs : List S24} {D : Nat} {ds : Option (List Deferred)} (h : d.R e W base ok v xs) (hl : W.heap[D]? = some (.deferred ds)) (o : Obj := .deferred none) : d.R e (W.putObj D o) base ok v xs :=
 Kd.R_mono (Kd.R_move (Kd.R_bound h) (fun k hk => World.putObj_heap_other (fun e => by obtain ⟨_, _, _, _, _, c, hc⟩ := hk; rw [e, hl] at hc; cases hc))) (fun _ hk => hk.1)
theorem step_Scan.at_put {w : World} {acc : List S24} {s : ByteArray} {Sb : Nat} {W : World} {L : Nat} {r : Loop} (h : step_Scan.At w acc s Sb W) (hl : W.heap[L]? = some (.loop r)) (hL : w.heap.size ≤ L) (o : Obj) : step_Scan.At w acc s Sb (W.putObj L o) := by
 obtain ⟨⟨v, h1, h2⟩, h3, h4⟩ := h
 exact ⟨⟨v, step_Scan.put_cells h1 hl o, step_Scan.put_R h2 hl o⟩, step_Scan.put_cells h3 hl o, h4.trans (belowK_b (w := w) (Nat.le_refl _) W L _ o hL hl rfl rfl)⟩
theorem step_Scan.rounds {fn : FuncId} {tm : Array Value} {ps : Array Tmp} {as_ bd : Code} {L D Sb m k : Nat} {w : World} (HT : Tabs w) (hSb : Sb = w.heap.size + 2) (r : List S24 × ByteArray) (s : ByteArray) (h : step_Scan.l k s [] = some r) (W : World)
  (hr : RngAt fn tm ps as_ bd L D .ready W) (hS : W.heap[Sb]? = some (.cells #[.string s] 9 (0, 0))) (hA : step_Scan.At w [] s Sb W)
  (hY : ∀ acc (x : S24) s rest W v, RngAt fn tm ps as_ bd L D .ready W → step_Scan.At w acc s Sb W → acc.length ≤ 1000000 → W.heap[Sb]? = some (.cells #[v] 9 (0, 0)) → YieldAt Fence.wide (m - 1) Tryd.prog L #[.agg #[.int .i64 x.f0, .int .i64 x.f1, .int .i64 x.f2, .int .u64 x.f3, .string x.f4], .string rest] W fun e W' =>
   e = .returned (.bool true) ∧ (RngAt fn tm ps as_ bd L D .ready W' ∧ step_Scan.At w (acc ++ [x]) rest Sb W') ∧ W'.heap[Sb]? = some (.cells #[v] 9 (0, 0))) :
  CallsIn Fence.wide m Tryd.prog 73 #[.func (.yield L) #[] #[], .pointer (some ⟨Sb, 0, none⟩)] W fun e W' => (∃ v, e = .returned v) ∧ RngAt fn tm ps as_ bd L D .ready W' ∧ step_Scan.At w r.1 r.2 Sb W' := by
 refine step_Scan.iter m L Sb k (fun acc s W => RngAt fn tm ps as_ bd L D .ready W ∧ step_Scan.At w acc s Sb W) r ?_ ?_ ?_ ?_ s [] h W hS ⟨hr, hA⟩
 ·rintro acc s W W' ⟨⟨h1, h2⟩, ⟨⟨v, h3, h4⟩, h5, h6⟩⟩ hb
  exact ⟨⟨(hb.block _ (Array.getElem?_eq_some_iff.1 h1).1).trans h1, (hb.block _ (Array.getElem?_eq_some_iff.1 h2).1).trans h2⟩, ⟨⟨v, bB h3 hb, Kd.R_below h4 hb⟩, bB h5 hb, bP h6 hb⟩⟩
 ·rintro acc s W ⟨h1, ⟨⟨v, h3, h4⟩, h5, h6⟩⟩ u
  exact ⟨rng_others h1 (KeepsOthers.setCell _ _ _), ⟨⟨v, bR (p := ⟨Sb, 0, none⟩) h3 (show w.heap.size ≠ Sb by omega) _, Kd.R_far (p := ⟨Sb, 0, none⟩) h4 (fun _ hk => hk) u⟩, bR (p := ⟨Sb, 0, none⟩) h5 (show w.heap.size + 1 ≠ Sb by omega) _, below_set h6 (by omega)⟩⟩
 ·rintro acc s W ⟨_, h⟩
  exact HT.below h.below
 ·rintro acc x s rest W v ⟨h1, h2⟩ hl hS
  exact hY acc x s rest W v h1 h2 hl hS
set_option maxHeartbeats 8000000 in
set_option maxRecDepth 100000 in
theorem step_Scan.calls (k : Nat) (a0 : ByteArray) (r1 : List S24) (r2 : Int) (w : World) (h : step_Scan.f k a0 = some (r1, r2)) (HT : Tabs w) :
  Calls Tryd.prog 29 #[.string a0] w fun e w' => ∃ v1_ : Value, e = .returned (.tuple #[v1_, .int .i64 r2]) ∧ Kd.R k24 24 w' w.heap.size (fun _ => True) v1_ r1 ∧ Below w.heap.size w w' := by
 unfold step_Scan.f at h
 obtain ⟨⟨q1, q2⟩, h8, hh⟩ := Option.bind_eq_some_iff.1 h
 cases hh
 have H := Ax.mk h8
 have HW := Ax.mk HT
 clear h h8 HT
 refine (callsIn_wide (n := 5)).1 ?_
 refine callsIn_of_wp_marks Tryd.func29 rfl trivial ?_ rfl
 simp only [Tryd.ntmps29, List.size_toArray, List.length_cons, List.length_nil, Nat.reduceAdd, Nat.reduceSub, Array.replicate_succ, Array.replicate_zero, List.push_toArray, List.append_toArray, List.nil_append, List.cons_append]
 gi_wp2_with (refine ⟨trivial, ?_⟩; gi_at_call 59; refine (callsIn_wide.2 (step_Scan.records a0 _)).mono ?_; rintro e W2 ⟨rfl, rfl⟩)
 obtain ⟨W0, hW0⟩ : ∃ W0, ((w.alloc (.cells #[.slice none 0 0] 29)).alloc (.cells #[.string a0] 9)).alloc (.cells #[.string a0] 9) = W0 := ⟨_, rfl⟩
 have hz0 : W0.heap.size = w.heap.size + 3 := by rw [← hW0]; simp
 have hA0 : step_Scan.At w [] a0 (w.heap.size + 2) W0 := by
  rw [← hW0]
  refine ⟨⟨_, blk_alloc (blk_alloc (heap_alloc_new w _) _) _, Kd.R_nil _ _ _ _ _⟩, ?_, below_alloc (below_alloc (below_alloc (Below.refl _ _) _) _) _⟩
  have h1 := heap_alloc_new (w.alloc (.cells #[.slice none 0 0] 29)) (.cells #[.string a0] 9)
  rw [World.size_alloc] at h1
  exact blk_alloc h1 _
 have hS0 : W0.heap[w.heap.size + 2]? = some (.cells #[.string a0] 9 (0, 0)) := by
  rw [← hW0]
  have h1 := heap_alloc_new ((w.alloc (.cells #[.slice none 0 0] 29)).alloc (.cells #[.string a0] 9)) (.cells #[.string a0] 9)
  rwa [World.size_alloc, World.size_alloc] at h1
 rw [hW0]
 clear hW0
 refine rng_stmt (n := 4) (gf := 73) (lb := #[.pointer (some ⟨w.heap.size + 1 + 1, 0, none⟩)]) rfl (enters_of Tryd.func73 (by kernel_rfl) rfl) ?_
 intro fn W1 hb1 hr1
 refine (step_Scan.rounds (m := 4) (k := k) (Sb := w.heap.size + 2) (w := w) HW.out rfl (q1, q2) a0 H.out W1 hr1 (bB hS0 hb1) ⟨?_, bB hA0.left hb1, bP hA0.below hb1⟩ ?round).mono ?_
 ·obtain ⟨v, h1, h2⟩ := hA0.row
  exact ⟨v, bB h1 hb1, Kd.R_below h2 hb1⟩
 case round =>
  intro acc x s rest W v hr hA hl hS
  refine rng_round hr (by omega) rfl ?_
  intro K hK
  have HK := Lib.hid hK
  have HR := Ax.mk hr
  have HA := Ax.mk hA
  have HL := Ax.mk hl
  have HS := Ax.mk hS
  have HZ := Ax.mk hz0
  clear hK hr hA hl hS hA0 hS0 hr1 hb1 hz0
  gi_wp2
  refine HK.out _ _ (rng_others HR.out (KeepsOthers.alloc _ _)) ?_
  intro o Q hRb hQ
  have hlp : (W.alloc (.cells #[.int .i64 x.f0, .int .i64 x.f1, .int .i64 x.f2, .int .u64 x.f3, .string x.f4] 24)).heap[W0.heap.size + 1]? = some _ := (rng_others HR.out (KeepsOthers.alloc _ _)).loop
  have hA1 : step_Scan.At w acc s (w.heap.size + 2) (W.alloc (.cells #[.int .i64 x.f0, .int .i64 x.f1, .int .i64 x.f2, .int .u64 x.f3, .string x.f4] 24)) := by
   obtain ⟨⟨v, h1, h2⟩, h3, h4⟩ := HA.out
   exact ⟨⟨v, blk_alloc h1 _, Kd.R_below h2 (below_alloc (Below.refl _ _) _)⟩, blk_alloc h3 _, below_alloc h4 _⟩
  have hA5 := step_Scan.at_put hA1 hlp (by have := HZ.out; omega) o
  have hX5 := step_Scan.put_cells (heap_alloc_new W (.cells #[.int .i64 x.f0, .int .i64 x.f1, .int .i64 x.f2, .int .u64 x.f3, .string x.f4] 24)) hlp o
  have hS5 := step_Scan.put_cells (blk_alloc HS.out _) hlp o
  have hwW : w.heap.size + 2 < W.heap.size := (Array.getElem?_eq_some_iff.1 HS.out).1
  generalize (W.alloc (.cells #[.int .i64 x.f0, .int .i64 x.f1, .int .i64 x.f2, .int .u64 x.f3, .string x.f4] 24)).putObj (W0.heap.size + 1) o = W5 at hRb hQ hA5 hX5 hS5 ⊢
  clear hA1 hlp HR HA HS
  obtain ⟨⟨v1, hv1, hrow⟩, hleft, hbel⟩ := hA5
  have HQ := Lib.hid hQ
  have HRb := Ax.mk hRb
  have hc1 := (bC hv1 0).trans rfl
  have hc2 := (bC hX5 0).trans rfl
  have hc3 := (bC hX5 1).trans rfl
  have hc4 := (bC hX5 2).trans rfl
  have hc5 := (bC hX5 3).trans rfl
  have hc6 := (bC hX5 4).trans rfl
  have HV1 := Ax.mk hv1
  have HRow := Ax.mk hrow
  have HLeft := Ax.mk hleft
  have HBel := Ax.mk hbel
  have HX5 := Ax.mk hX5
  have HS5 := Ax.mk hS5
  clear hQ hRb hv1 hrow hleft hbel hX5 hS5
  refine wpIn_block ?_
  refine regIn_of_list _ _ (by kernel_rfl) ?_
  go_wp2_with (
   at_builtin
   refine Kd.R_append k24 (w0 := w) w.heap.size rfl (.tmp 13) (.tmp 15) 29 24 (.agg #[.int .i64 0, .int .i64 0, .int .i64 0, .int .u64 0, .string ⟨#[]⟩]) 48 rfl Tryd.underlying29 info24 rfl (by decide) (by omega) v1 acc x [.int .i64 x.f0, .int .i64 x.f1, .int .i64 x.f2, .int .u64 x.f3, .string x.f4] (fun b => b ≠ w.heap.size + 2) (fun _ => False) rfl rfl (k24_mkM _ _ _ x) (fun _ hk => hk.elim) (fun k hk => by have := (Array.getElem?_eq_some_iff.1 HS5.out).1; omega) HRow.out HBel.out HBel.out.size (by have := HL.out; omega) ?_
   intro v2 w6 ho hb hg hat
   obtain ⟨A2, c2, rfl⟩ := Kd.R_slice ho
   have hv2 := blk_grown HV1.out hg (Kd.R_ne HRow.out HV1.out (by decide))
   have hl2 := blk_grown HLeft.out hg (Kd.R_ne HRow.out HLeft.out (by decide))
   have hs2 := blk_grown HS5.out hg (Kd.R_ne HRow.out HS5.out (by decide))
   have hk2 : KeepsOthers W5 w6 := KeepsOthers.of_grownBy hg (fun j o hj ho => by
    obtain ⟨inner, hown⟩ := Kd.R_own HRow.out
    obtain ⟨cells, hcells⟩ := own_typed hown j hj
    rw [hcells] at ho
    cases ho
    rfl)
   have hg2 := bF hv2 0
   have hg3 := bF hl2 0
   have hd2 := (bC hv2 0).trans rfl
   have hd3 := (bC hl2 0).trans rfl
   have HV2 := Ax.mk hv2
   have HL2 := Ax.mk hl2
   have HS2 := Ax.mk hs2
   have HK2 := Ax.mk hk2
   have HRow2 := Ax.mk ho
   have HBel2 := Ax.mk hb
   clear hv2 hl2 hs2 hk2 ho hb hg hat hc1 hc2 hc3 hc4 hc5 hc6 HX5)
  have hsz : w.heap.size + 2 < w6.heap.size := (Array.getElem?_eq_some_iff.1 HS2.out).1
  have HRb6 := rng_others (rng_others (rng_others HRb.out HK2.out) (KeepsOthers.setCell _ ⟨w.heap.size, 0, none⟩ (.slice A2 (acc.length + 1) c2))) (KeepsOthers.setCell _ ⟨w.heap.size + 1, 0, none⟩ (.string rest))
  rw [List.length_append, List.length_singleton] at HRow2
  have hA8 : step_Scan.At w (acc ++ [x]) rest (w.heap.size + 2) ((w6.setCell ⟨w.heap.size, 0, none⟩ (.slice A2 (acc.length + 1) c2)).setCell ⟨w.heap.size + 1, 0, none⟩ (.string rest)) :=
   ⟨⟨_, bR (p := ⟨w.heap.size + 1, 0, none⟩) (step_Scan.set_box HV2.out _) (show w.heap.size ≠ w.heap.size + 1 by omega) _, Kd.R_set (Kd.R_set HRow2.out HV2.out (by decide) _ _) (bR (p := ⟨w.heap.size, 0, none⟩) HL2.out (show w.heap.size + 1 ≠ w.heap.size by omega) _) (by decide) _ _⟩,
    step_Scan.set_box (bR (p := ⟨w.heap.size, 0, none⟩) HL2.out (show w.heap.size + 1 ≠ w.heap.size by omega) _) _, below_set (below_set HBel2.out (Nat.le_refl _)) (by omega)⟩
  have hS8 := bR (p := ⟨w.heap.size + 1, 0, none⟩) (bR (p := ⟨w.heap.size, 0, none⟩) HS2.out (show w.heap.size + 2 ≠ w.heap.size by omega) (.slice A2 (acc.length + 1) c2)) (show w.heap.size + 2 ≠ w.heap.size + 1 by omega) (.string rest)
  refine HQ.out _ _ HRb6 (fun o hr => ⟨trivial, ⟨hr, step_Scan.at_put hA8 HRb6.loop (by have := HZ.out; omega) o⟩, step_Scan.put_cells hS8 HRb6.loop o⟩)
 ·rintro e W2 ⟨⟨v0, rfl⟩, hr2, hA2⟩
  refine ⟨⟨v0, rfl⟩, hr2, fun o => ?_⟩
  have hlt : W0.heap.size < W2.heap.size := (Array.getElem?_eq_some_iff.1 hr2.defs).1
  have hD := (World.putObj_heap_other (o := o) (show W0.heap.size ≠ W0.heap.size + 1 by omega)).trans hr2.defs
  obtain ⟨⟨v, hv, hrow⟩, hleft, hbel⟩ := step_Scan.at_put hA2 hr2.loop (by omega) o
  generalize W2.putObj (W0.heap.size + 1) o = W3 at hD hv hrow hleft hbel ⊢
  obtain ⟨A2, c2, rfl⟩ := Kd.R_slice hrow
  have hd1 : W3.drew.cell? ⟨w.heap.size, 0, none⟩ = some (.slice A2 q1.length c2) ∧ W3.drew.cell? ⟨w.heap.size + 1, 0, none⟩ = some (.string q2) := ⟨(bC hv 0).trans rfl, (bC hleft 0).trans rfl⟩
  have HD := Ax.mk hD
  have HRow := Ax.mk hrow
  have HBel := Ax.mk hbel
  have HZ := Ax.mk hz0
  have HZ3 : W0.heap.size < W3.heap.size := (Array.getElem?_eq_some_iff.1 hD).1
  clear hA0 hS0 hr1 hb1 hr2 hA2 hv hleft hD hrow hbel hlt hz0
  gi_wp2
  refine wpIn_wide.2 ?_
  go_region_held3 (fun V => V.cell? ⟨w.heap.size, 0, none⟩ = some (.slice A2 q1.length c2) ∧ V.cell? ⟨w.heap.size + 1, 0, none⟩ = some (.string q2)) (exact hd1) (fail)
  gi_wp2
  refine ⟨by simp, .inl ⟨_, _, rfl, run_takeDeferred (w := W3.drew) HD.out, ?_⟩⟩
  have hw : wrap64 ((a0.size : Int) - (q2.size : Int)) = IntKind.i64.wrap ((a0.size : Int) - (q2.size : Int)) := (i64_w _).symm
  rw [hw]
  refine ⟨_, results_tmp2 rfl _ _ _, _, rfl, Kd.R_mono (step_Scan.put_defs (Kd.R_drew HRow.out) HD.out) (fun _ _ => trivial), ?_⟩
  exact (below_drew1 HBel.out).trans (belowK_b (w := w) (Nat.le_refl _) W3.drew W0.heap.size _ _ (by have := HZ.out; omega) HD.out rfl rfl)
def r2_Get.l0 : Nat → ByteArray → Int → Int → Option (Int)
 | 0, _, _, _ => none
 | k + 1, x0, x3, x4 => if x4 ≥ 0 then (if 0 ≤ x4 then (if x4 < (x0.size : Int) then (r2_Get.l0 k x0 (IntKind.u64.wrap ((IntKind.u64.wrap (x3 * 256)) + (IntKind.u64.wrap (bt x0 x4)))) (wrap64 (x4 - 1))) else (none)) else (none)) else (some x3)
def r2_Get.f (k : Nat) (a0 : ByteArray) : Option (Int) := r2_Get.l0 k a0 0 ((mn (a0.size : Int) 8) - 1)
theorem r2_Get.mono_l : ∀ k, (∀ y0 y1 y2, LeO (r2_Get.l0 k y0 y1 y2) (r2_Get.l0 (k + 1) y0 y1 y2))
 | 0 => fun _ _ _ r h => by simp [r2_Get.l0] at h
 | k + 1 => by
  have ih0 := r2_Get.mono_l k
  ·intro y0 y1 y2
   unfold r2_Get.l0
   repeat' first
   | (with_reducible exact ih0 _ _ _)
   | (with_reducible exact LeO.refl _)
   | (with_reducible exact LeO.none _)
   | (with_reducible refine LeO.ite ?_ ?_)
   | (with_reducible refine LeO.bind ?_ (fun _ => ?_))
   | exact ih0 _ _ _
   | exact LeO.none _
   | refine LeO.ite ?_ ?_
   | refine LeO.bind ?_ (fun _ => ?_)
theorem r2_Get.mono : ∀ a0 k, LeO (r2_Get.f k a0) (r2_Get.f (k + 1) a0) := by
 intro a0 k
 have ih0 := r2_Get.mono_l k
 unfold r2_Get.f
 repeat' first
   | (with_reducible exact ih0 _ _ _)
   | (with_reducible exact LeO.refl _)
   | (with_reducible exact LeO.none _)
   | (with_reducible refine LeO.ite ?_ ?_)
   | (with_reducible refine LeO.bind ?_ (fun _ => ?_))
   | exact ih0 _ _ _
   | exact LeO.none _
   | refine LeO.ite ?_ ?_
   | refine LeO.bind ?_ (fun _ => ?_)
def r3_Take.f (k : Nat) (a0 : ByteArray) : Option (ByteArray × Int) := if (a0.size : Int) < 4 then (some ((⟨#[]⟩ : ByteArray), 10)) else (if 0 ≤ (wrap64 ((a0.size : Int) - 4)) then (if (wrap64 ((a0.size : Int) - 4)) ≤ (a0.size : Int) then ((r3_Put.f k (a0.extract 0 ((wrap64 ((a0.size : Int) - 4)) : Int).toNat)).bind fun t267 => (if t267.toList = a0.toList then (some (a0.extract 0 ((wrap64 ((a0.size : Int) - 4)) : Int).toNat, 0)) else (some ((⟨#[]⟩ : ByteArray), 9)))) else (none)) else (none))
theorem r3_Take.mono : ∀ a0 k, LeO (r3_Take.f k a0) (r3_Take.f (k + 1) a0) := by
 intro a0 k
 unfold r3_Take.f
 repeat' first
   | (with_reducible exact r3_Put.mono _ _)
   | (with_reducible exact LeO.refl _)
   | (with_reducible exact LeO.none _)
   | (with_reducible refine LeO.ite ?_ ?_)
   | (with_reducible refine LeO.bind ?_ (fun _ => ?_))
   | exact r3_Put.mono _ _
   | exact LeO.none _
   | refine LeO.ite ?_ ?_
   | refine LeO.bind ?_ (fun _ => ?_)
def r12_Take.f (k : Nat) (a0 : ByteArray) : Option (Int × Int × Int × Int × ByteArray × ByteArray × Int) := if (a0.size : Int) < 2 then (some (0, 0, 0, 0, (⟨#[]⟩ : ByteArray), (⟨#[]⟩ : ByteArray), 10)) else (if 0 ≤ 2 then (if 2 ≤ (a0.size : Int) then ((r2_Get.f k (a0.extract 0 2)).bind fun t269 => (if (a0.size : Int) < (wrap64 (2 + (wrap64 (t269)))) then (some (0, 0, 0, 0, (⟨#[]⟩ : ByteArray), (⟨#[]⟩ : ByteArray), 10)) else (if 2 ≤ (wrap64 (2 + (wrap64 (t269)))) then (if (wrap64 (2 + (wrap64 (t269)))) ≤ (a0.size : Int) then ((r3_Take.f k (a0.extract 2 ((wrap64 (2 + (wrap64 (t269)))) : Int).toNat)).bind fun bt270 => (if bt270.2 = 0 then (if (bt270.1.size : Int) < 17 then (some (0, 0, 0, 0, (⟨#[]⟩ : ByteArray), (⟨#[]⟩ : ByteArray), 2)) else (if 0 < (bt270.1.size : Int) then (if 1 ≤ 5 then (if 5 ≤ (bt270.1.size : Int) then ((r2_Get.f k (bt270.1.extract 1 5)).bind fun t272 => (if 5 ≤ 9 then (if 9 ≤ (bt270.1.size : Int) then ((r2_Get.f k (bt270.1.extract 5 9)).bind fun t273 => (if 9 ≤ 17 then (if 17 ≤ (bt270.1.size : Int) then ((r2_Get.f k (bt270.1.extract 9 17)).bind fun t274 => ((r12_Put.f k (wrap64 (bt bt270.1 0)) (wrap64 (t272)) (wrap64 (t273)) t274 (bt270.1.extract 17 bt270.1.size)).bind fun bt276 => (if bt276.2 = 0 then (if 0 ≤ (wrap64 (2 + (wrap64 (t269)))) then (if bt276.1.toList = (a0.extract 0 ((wrap64 (2 + (wrap64 (t269)))) : Int).toNat).toList then (some (wrap64 (bt bt270.1 0), wrap64 (t272), wrap64 (t273), t274, bt270.1.extract 17 bt270.1.size, a0.extract ((wrap64 (2 + (wrap64 (t269)))) : Int).toNat a0.size, 0)) else (some (0, 0, 0, 0, (⟨#[]⟩ : ByteArray), (⟨#[]⟩ : ByteArray), 2))) else (none)) else (some (0, 0, 0, 0, (⟨#[]⟩ : ByteArray), (⟨#[]⟩ : ByteArray), 2))))) else (none)) else (none))) else (none)) else (none))) else (none)) else (none)) else (none))) else (some (0, 0, 0, 0, (⟨#[]⟩ : ByteArray), (⟨#[]⟩ : ByteArray), bt270.2)))) else (none)) else (none)))) else (none)) else (none))
theorem r12_Take.mono : ∀ a0 k, LeO (r12_Take.f k a0) (r12_Take.f (k + 1) a0) := by
 intro a0 k
 unfold r12_Take.f
 repeat' first
   | (with_reducible exact r12_Put.mono _ _ _ _ _ _)
   | (with_reducible exact r2_Get.mono _ _)
   | (with_reducible exact r3_Take.mono _ _)
   | (with_reducible exact LeO.refl _)
   | (with_reducible exact LeO.none _)
   | (with_reducible refine LeO.ite ?_ ?_)
   | (with_reducible refine LeO.bind ?_ (fun _ => ?_))
   | exact r12_Put.mono _ _ _ _ _ _
   | exact r2_Get.mono _ _
   | exact r3_Take.mono _ _
   | exact LeO.none _
   | refine LeO.ite ?_ ?_
   | refine LeO.bind ?_ (fun _ => ?_)
def r12_Take.T11 : Bool × List (List Nat × List Nat) := (true, [([], []), ([0], [0]), ([1], [1]), ([], []), ([3], [3]), ([4], [4]), ([5], [5]), ([], []), ([7], [7]), ([8, 5], [8]), ([9], [9]), ([], []), ([11], [11]), ([12, 9], [12]), ([], []), ([14], [14]), ([2, 6, 10, 13, 15], [2, 6, 10, 13, 15]), ([], []), ([17, 16, 13, 0, 1, 2, 3, 4, 5, 6, 7, 8, 9, 10, 11, 12, 13, 14, 15, 16, 17], [16, 17])])
def r12_Take.B11 : List Nat := [0, 1, 3, 0, 8, 24, 56, 0, 128, 440, 952, 0, 2048, 7096, 0, 16384, 65535, 0, 262143]
def r12_Take.T15 : Bool × List (List Nat × List Nat) := (true, [([], []), ([], []), ([], []), ([2], [2]), ([1, 3], [1, 3]), ([0, 0], [0]), ([4, 5, 0, 1, 2, 3, 4, 5], [4]), ([6, 0, 1, 2, 3, 4, 5, 6], [])])
def r12_Take.B15 : List Nat := [0, 0, 0, 4, 14, 1, 63, 127]
def r12_Scan.l0 : Nat → ByteArray → List (S26) → ByteArray → Option ((List (S26)) × Int)
 | 0, _, _, _ => none
 | k + 1, x0, x4, x5 => (r12_Take.f k x5).bind fun bt278 => (if bt278.2.2.2.2.2.2 = 0 then (if x4.length < 2932031007402 then (r12_Scan.l0 k x0 (x4 ++ [(⟨bt278.1, bt278.2.1, bt278.2.2.1, bt278.2.2.2.1, bt278.2.2.2.2.1⟩ : S26)]) bt278.2.2.2.2.2.1) else (none)) else (some (x4, wrap64 ((x0.size : Int) - (x5.size : Int)))))
def r12_Scan.f (k : Nat) (a0 : ByteArray) : Option ((List (S26)) × Int) := r12_Scan.l0 k a0 ([] : List (S26)) a0
theorem r12_Scan.mono_l : ∀ k, (∀ y0 y1 y2, LeO (r12_Scan.l0 k y0 y1 y2) (r12_Scan.l0 (k + 1) y0 y1 y2))
 | 0 => fun _ _ _ r h => by simp [r12_Scan.l0] at h
 | k + 1 => by
  have ih0 := r12_Scan.mono_l k
  ·intro y0 y1 y2
   unfold r12_Scan.l0
   repeat' first
   | (with_reducible exact ih0 _ _ _)
   | (with_reducible exact r12_Take.mono _ _)
   | (with_reducible exact LeO.refl _)
   | (with_reducible exact LeO.none _)
   | (with_reducible refine LeO.ite ?_ ?_)
   | (with_reducible refine LeO.bind ?_ (fun _ => ?_))
   | exact ih0 _ _ _
   | exact r12_Take.mono _ _
   | exact LeO.none _
   | refine LeO.ite ?_ ?_
   | refine LeO.bind ?_ (fun _ => ?_)
theorem r12_Scan.mono : ∀ a0 k, LeO (r12_Scan.f k a0) (r12_Scan.f (k + 1) a0) := by
 intro a0 k
 have ih0 := r12_Scan.mono_l k
 unfold r12_Scan.f
 repeat' first
   | (with_reducible exact ih0 _ _ _)
   | (with_reducible exact r12_Take.mono _ _)
   | (with_reducible exact LeO.refl _)
   | (with_reducible exact LeO.none _)
   | (with_reducible refine LeO.ite ?_ ?_)
   | (with_reducible refine LeO.bind ?_ (fun _ => ?_))
   | exact ih0 _ _ _
   | exact r12_Take.mono _ _
   | exact LeO.none _
   | refine LeO.ite ?_ ?_
   | refine LeO.bind ?_ (fun _ => ?_)
mutual
def journal_Read.j4 : Nat → Int → List (S44) → ByteArray → Option (Int × (List (S44)) × ByteArray × Int)
 | 0, _, _, _ => none
 | k + 1, x224000, x224001, x224002 => some (x224000, x224001, x224002, (x224002.size : Int))
def journal_Read.l0 : Nat → Int → List (S24) → List (S24) → Int → Int → Int → List (S44) → ByteArray → Option (Int × (List (S44)) × ByteArray × Int)
 | 0, _, _, _, _, _, _, _, _ => none
 | k + 1, x5, x6, x16, x17, x18, x224000, x224001, x224002 => if x18 < x17 then (if 0 ≤ x18 then (if x18 < (x16.length : Int) then (if ((rd_T24 x16 x18).f0) = 8 then (if (x224001.length : Int) = 0 then (journal_Read.j1 k x5 x6 x18 true x16 x17 x18 x224000 x224001 x224002 ((rd_T24 x16 x18).f0) ((rd_T24 x16 x18).f1) ((rd_T24 x16 x18).f2) ((rd_T24 x16 x18).f3) ((rd_T24 x16 x18).f4)) else (if x224000 < 18446744073709551615 then (journal_Read.j1 k x5 x6 x18 (((rd_T24 x16 x18).f3) == (IntKind.u64.wrap (x224000 + 1))) x16 x17 x18 x224000 x224001 x224002 ((rd_T24 x16 x18).f0) ((rd_T24 x16 x18).f1) ((rd_T24 x16 x18).f2) ((rd_T24 x16 x18).f3) ((rd_T24 x16 x18).f4)) else (journal_Read.j1 k x5 x6 x18 false x16 x17 x18 x224000 x224001 x224002 ((rd_T24 x16 x18).f0) ((rd_T24 x16 x18).f1) ((rd_T24 x16 x18).f2) ((rd_T24 x16 x18).f3) ((rd_T24 x16 x18).f4)))) else (journal_Read.j3 k x5 x6 x16 x17 x18 x224000 x224001 x224002)) else (none)) else (none)) else (journal_Read.j4 k x224000 x224001 x224002)
def journal_Read.j3 : Nat → Int → List (S24) → List (S24) → Int → Int → Int → List (S44) → ByteArray → Option (Int × (List (S44)) × ByteArray × Int)
 | 0, _, _, _, _, _, _, _, _ => none
 | k + 1, x5, x6, x16, x17, x18, x224000, x224001, x224002 => journal_Read.l0 k x5 x6 x16 x17 (wrap64 (x18 + 1)) x224000 x224001 x224002
def journal_Read.j1 : Nat → Int → List (S24) → Int → Bool → List (S24) → Int → Int → Int → List (S44) → ByteArray → Int → Int → Int → Int → ByteArray → Option (Int × (List (S44)) × ByteArray × Int)
 | 0, _, _, _, _, _, _, _, _, _, _, _, _, _, _, _ => none
 | k + 1, x5, x6, x8, x10, x16, x17, x18, x224000, x224001, x224002, x230000, x230001, x230002, x230003, x230004 => if x230001 = 0 then (if x230002 = 0 then (journal_Read.j2 k x5 x6 x8 x16 x17 x18 (!x10) x224000 x224001 x224002 x230000 x230001 x230002 x230003 x230004) else (journal_Read.j2 k x5 x6 x8 x16 x17 x18 true x224000 x224001 x224002 x230000 x230001 x230002 x230003 x230004)) else (journal_Read.j2 k x5 x6 x8 x16 x17 x18 true x224000 x224001 x224002 x230000 x230001 x230002 x230003 x230004)
def journal_Read.j2 : Nat → Int → List (S24) → Int → List (S24) → Int → Int → Bool → Int → List (S44) → ByteArray → Int → Int → Int → Int → ByteArray → Option (Int × (List (S44)) × ByteArray × Int)
 | 0, _, _, _, _, _, _, _, _, _, _, _, _, _, _, _ => none
 | k + 1, x5, x6, x8, x16, x17, x18, x54, x224000, x224001, x224002, x230000, x230001, x230002, x230003, x230004 => if x54 = true then (journal_Read.j4 k x224000 x224001 x224002) else (if 0 ≤ x5 then (if x5 ≤ x8 then (if x8 ≤ (x6.length : Int) then ((journal_Log_with.f k x224000 x224001 x224002 x230003 ((x6.take (x8 : Int).toNat).drop (x5 : Int).toNat)).bind fun bt234 => (journal_Read.j3 k (wrap64 (x8 + 1)) x6 x16 x17 x18 bt234.1 bt234.2.1 bt234.2.2.1)) else (none)) else (none)) else (none))
end
def journal_Read.f (k : Nat) (a0 : ByteArray) : Option (Int × (List (S44)) × ByteArray × Int) := (step_Scan.f k a0).bind fun bt224 => (journal_Read.l0 k 0 bt224.1 bt224.1 (bt224.1.length : Int) 0 0 ([] : List (S44)) (⟨#[]⟩ : ByteArray))
theorem journal_Read.mono_l : ∀ k, (∀ y0 y1 y2, LeO (journal_Read.j4 k y0 y1 y2) (journal_Read.j4 (k + 1) y0 y1 y2)) ∧ (∀ y0 y1 y2 y3 y4 y5 y6 y7, LeO (journal_Read.l0 k y0 y1 y2 y3 y4 y5 y6 y7) (journal_Read.l0 (k + 1) y0 y1 y2 y3 y4 y5 y6 y7)) ∧ (∀ y0 y1 y2 y3 y4 y5 y6 y7, LeO (journal_Read.j3 k y0 y1 y2 y3 y4 y5 y6 y7) (journal_Read.j3 (k + 1) y0 y1 y2 y3 y4 y5 y6 y7)) ∧ (∀ y0 y1 y2 y3 y4 y5 y6 y7 y8 y9 y10 y11 y12 y13 y14, LeO (journal_Read.j1 k y0 y1 y2 y3 y4 y5 y6 y7 y8 y9 y10 y11 y12 y13 y14) (journal_Read.j1 (k + 1) y0 y1 y2 y3 y4 y5 y6 y7 y8 y9 y10 y11 y12 y13 y14)) ∧ (∀ y0 y1 y2 y3 y4 y5 y6 y7 y8 y9 y10 y11 y12 y13 y14, LeO (journal_Read.j2 k y0 y1 y2 y3 y4 y5 y6 y7 y8 y9 y10 y11 y12 y13 y14) (journal_Read.j2 (k + 1) y0 y1 y2 y3 y4 y5 y6 y7 y8 y9 y10 y11 y12 y13 y14))
 | 0 => ⟨fun _ _ _ r h => by simp [journal_Read.j4] at h, fun _ _ _ _ _ _ _ _ r h => by simp [journal_Read.l0] at h, fun _ _ _ _ _ _ _ _ r h => by simp [journal_Read.j3] at h, fun _ _ _ _ _ _ _ _ _ _ _ _ _ _ _ r h => by simp [journal_Read.j1] at h, fun _ _ _ _ _ _ _ _ _ _ _ _ _ _ _ r h => by simp [journal_Read.j2] at h⟩
 | k + 1 => by
  obtain ⟨ih0, ih1, ih2, ih3, ih4⟩ := journal_Read.mono_l k
  refine ⟨?_, ?_, ?_, ?_, ?_⟩
  ·intro y0 y1 y2
   unfold journal_Read.j4
   repeat' first
   | (with_reducible exact LeO.refl _)
   | (with_reducible exact LeO.none _)
   | (with_reducible refine LeO.ite ?_ ?_)
   | (with_reducible refine LeO.bind ?_ (fun _ => ?_))
   | exact LeO.none _
   | refine LeO.ite ?_ ?_
   | refine LeO.bind ?_ (fun _ => ?_)
  ·intro y0 y1 y2 y3 y4 y5 y6 y7
   unfold journal_Read.l0
   repeat' first
   | (with_reducible exact ih0 _ _ _)
   | (with_reducible exact ih2 _ _ _ _ _ _ _ _)
   | (with_reducible exact ih3 _ _ _ _ _ _ _ _ _ _ _ _ _ _ _)
   | (with_reducible exact LeO.refl _)
   | (with_reducible exact LeO.none _)
   | (with_reducible refine LeO.ite ?_ ?_)
   | (with_reducible refine LeO.bind ?_ (fun _ => ?_))
   | exact ih0 _ _ _
   | exact ih2 _ _ _ _ _ _ _ _
   | exact ih3 _ _ _ _ _ _ _ _ _ _ _ _ _ _ _
   | exact LeO.none _
   | refine LeO.ite ?_ ?_
   | refine LeO.bind ?_ (fun _ => ?_)
  ·intro y0 y1 y2 y3 y4 y5 y6 y7
   unfold journal_Read.j3
   repeat' first
   | (with_reducible exact ih1 _ _ _ _ _ _ _ _)
   | (with_reducible exact LeO.refl _)
   | (with_reducible exact LeO.none _)
   | (with_reducible refine LeO.ite ?_ ?_)
   | (with_reducible refine LeO.bind ?_ (fun _ => ?_))
   | exact ih1 _ _ _ _ _ _ _ _
   | exact LeO.none _
   | refine LeO.ite ?_ ?_
   | refine LeO.bind ?_ (fun _ => ?_)
  ·intro y0 y1 y2 y3 y4 y5 y6 y7 y8 y9 y10 y11 y12 y13 y14
   unfold journal_Read.j1
   repeat' first
   | (with_reducible exact ih4 _ _ _ _ _ _ _ _ _ _ _ _ _ _ _)
   | (with_reducible exact LeO.refl _)
   | (with_reducible exact LeO.none _)
   | (with_reducible refine LeO.ite ?_ ?_)
   | (with_reducible refine LeO.bind ?_ (fun _ => ?_))
   | exact ih4 _ _ _ _ _ _ _ _ _ _ _ _ _ _ _
   | exact LeO.none _
   | refine LeO.ite ?_ ?_
   | refine LeO.bind ?_ (fun _ => ?_)
  ·intro y0 y1 y2 y3 y4 y5 y6 y7 y8 y9 y10 y11 y12 y13 y14
   unfold journal_Read.j2
   repeat' first
   | (with_reducible exact ih0 _ _ _)
   | (with_reducible exact ih2 _ _ _ _ _ _ _ _)
   | (with_reducible exact journal_Log_with.mono _ _ _ _ _ _)
   | (with_reducible exact LeO.refl _)
   | (with_reducible exact LeO.none _)
   | (with_reducible refine LeO.ite ?_ ?_)
   | (with_reducible refine LeO.bind ?_ (fun _ => ?_))
   | exact ih0 _ _ _
   | exact ih2 _ _ _ _ _ _ _ _
   | exact journal_Log_with.mono _ _ _ _ _ _
   | exact LeO.none _
   | refine LeO.ite ?_ ?_
   | refine LeO.bind ?_ (fun _ => ?_)
theorem journal_Read.mono : ∀ a0 k, LeO (journal_Read.f k a0) (journal_Read.f (k + 1) a0) := by
 intro a0 k
 obtain ⟨ih0, ih1, ih2, ih3, ih4⟩ := journal_Read.mono_l k
 unfold journal_Read.f
 repeat' first
   | (with_reducible exact ih0 _ _ _)
   | (with_reducible exact ih1 _ _ _ _ _ _ _ _)
   | (with_reducible exact ih2 _ _ _ _ _ _ _ _)
   | (with_reducible exact ih3 _ _ _ _ _ _ _ _ _ _ _ _ _ _ _)
   | (with_reducible exact ih4 _ _ _ _ _ _ _ _ _ _ _ _ _ _ _)
   | (with_reducible exact journal_Log_with.mono _ _ _ _ _ _)
   | (with_reducible exact step_Scan.mono _ _)
   | (with_reducible exact LeO.refl _)
   | (with_reducible exact LeO.none _)
   | (with_reducible refine LeO.ite ?_ ?_)
   | (with_reducible refine LeO.bind ?_ (fun _ => ?_))
   | exact ih0 _ _ _
   | exact ih1 _ _ _ _ _ _ _ _
   | exact ih2 _ _ _ _ _ _ _ _
   | exact ih3 _ _ _ _ _ _ _ _ _ _ _ _ _ _ _
   | exact ih4 _ _ _ _ _ _ _ _ _ _ _ _ _ _ _
   | exact journal_Log_with.mono _ _ _ _ _ _
   | exact step_Scan.mono _ _
   | exact LeO.none _
   | refine LeO.ite ?_ ?_
   | refine LeO.bind ?_ (fun _ => ?_)
def journal_Read.T10 : Bool × List (List Nat × List Nat) := (true, [([], []), ([], []), ([1], [1]), ([], []), ([], []), ([], []), ([3, 4, 5], [3, 4, 5]), ([2, 6], [2, 6]), ([0, 7], [0, 7]), ([8], [8]), ([9], [9]), ([9], [9]), ([10, 8, 0, 1, 2, 3, 4, 5, 6, 7, 8, 9, 10], [10])])
def journal_Read.B10 : List Nat := [0, 0, 2, 0, 0, 0, 56, 126, 255, 511, 1023, 1023, 2047]
theorem journal_Read.tab10 : rtab .any (opsOf Tryd.f44 10) = journal_Read.T10 := by kernel_rfl
theorem journal_Read.bits10 : waitsOk journal_Read.T10.2 journal_Read.B10 = true := by kernel_rfl
set_option maxHeartbeats 8000000 in
set_option maxRecDepth 100000 in
theorem journal_Read.calls (k : Nat) (a0 : ByteArray) (r1 : Int) (r2 : List (S44)) (r3 : ByteArray) (r4 : Int) (w : World) (h : journal_Read.f k a0 = some (r1, r2, r3, r4)) (HT : Tabs w) :
  Calls Tryd.prog 44 #[.string a0] w fun e w' => ∃ v1_ : Value, e = .returned (.tuple #[.agg #[.int .u64 r1, v1_, .string r3], .int .i64 r4]) ∧ Kd.N k44 44 w' w.heap.size (fun k_ => (w.heap.size ≤ k_)) v1_ r2 ∧ Below w.heap.size w w' := by
 have hu66 := Tryd.underlying66
 have hu24 := Tryd.underlying24
 have hu44 := Tryd.underlying44
 have HB := Ax.mk (Below.refl w.heap.size w)
 have H : ((step_Scan.f k a0).bind fun bt224 => (journal_Read.l0 k 0 bt224.1 bt224.1 (bt224.1.length : Int) 0 0 ([] : List (S44)) (⟨#[]⟩ : ByteArray))) = some (r1, r2, r3, r4) := h
 clear h
 replace H := Option.bind_eq_some_iff.mp H
 obtain ⟨⟨t224, t225⟩, A20, H⟩ := H
 replace H : (journal_Read.l0 k 0 t224 t224 (t224.length : Int) 0 0 ([] : List (S44)) (⟨#[]⟩ : ByteArray)) = some (r1, r2, r3, r4) := H
 have A2 := Ax.mk A20
 clear A20
 have HC3 := Ax.mk H
 clear H
 go_enter Tryd.func44, Tryd.ntmps44
 go_upto_block 0 with (first | ((with_reducible refine gate_dst (N := 2) rfl ?_); refine box_event ?hg (N := 2) ?hd (cs := #[.int .u64 0, .slice none 0 0, .string (⟨#[]⟩ : ByteArray)]) (t := 66) ?hr ?_; (case hd => rfl); (case hg => rfl); (case hr => first | (go_simp; done) | (go_simp; rfl)); intro gb222 hg w4 hbox hb; have n0_ := Ax.mk (bP bA hb); have n1_ := Ax.mk (hbox); have n2_ := Ax.mk ((ge_new hg : w.heap.size ≤ gb222)); have n3_ := n2_; clear HB; have HB := n0_; have BK222 := n1_; have GW222 := n2_; have GE222 := n3_; clear n0_ n1_ n2_ n3_; clear hb hbox hg) | ((with_reducible refine gate_dst (N := 4) rfl ?_); refine box_event ?hg (N := 4) ?hd (cs := #[.int .u64 0, .slice none 0 0, .string (⟨#[]⟩ : ByteArray)]) (t := 66) ?hr ?_; (case hd => rfl); (case hg => rfl); (case hr => first | (go_simp; done) | (go_simp; rfl)); intro gb223 hg w5 hbox hb; have n0_ := Ax.mk (bB (bT BK222.out) hb); have n1_ := Ax.mk (bP bA hb); have n2_ := Ax.mk (hbox); have n3_ := Ax.mk ((ge_new hg : w.heap.size ≤ gb223)); have n4_ := n3_; have n5_ := Ax.mk ((ne_lt hg BK222.out : gb222 ≠ gb223)); have n6_ := Ax.mk ((ne_gt hg BK222.out : gb223 ≠ gb222)); clear BK222; clear HB; have BK222 := n0_; have HB := n1_; have BK223 := n2_; have GW223 := n3_; have GE223 := n4_; have NB222_223 := n5_; have NB223_222 := n6_; clear n0_ n1_ n2_ n3_ n4_ n5_ n6_; clear hb hbox hg) | ((with_reducible refine gate_callee (f := 29) rfl ?_); refine goesL_ (some 13) rfl rfl Tryd.func29 (by kernel_rfl) rfl #[.string a0] rfl (by (try simp only [List.map_toArray, List.map_cons, List.map_nil]); first | done | rfl | (simp only [List.length_drop, List.length_take]; rfl) | (rw [wrap_sum2 (by assumption)]; rfl)) ?_; (with_reducible refine (step_Scan.calls k a0 t224 t225 _ A2.out (HT.below bA)).mono ?_); rintro e w6 ⟨v226, rfl, ho0, hb⟩; refine ⟨_, rfl, ?_⟩; have n0_ := Ax.mk (Kd.R_lower (Kd.R_newM (M := fun k_ => (w.heap.size ≤ k_)) ho0 (bS bA) (fun k_ h_ => h_)) (bS bA)); have n1_ := Ax.mk (bB (bT BK222.out) hb); have n2_ := Ax.mk (bB (bT BK223.out) hb); have n3_ := Ax.mk (bP bA hb); clear BK222; clear BK223; clear HB; have HO227 := n0_; have BK222 := n1_; have BK223 := n2_; have HB := n3_; clear n0_ n1_ n2_ n3_; (try clear hb); (try clear hb2); (try clear hk); (try clear hi); (try clear ho0); obtain ⟨Ao7, co7, eo7⟩ := Kd.R_slice HO227.out; subst eo7))
 (try simp only [Act.put, sI, sZ, sS])
 go_cut [] (fun wc => ∃ (kq : Nat) (x224000_2 : Int) (x224001_2 : List (S44)) (x224002_2 : ByteArray) (u224001 : Value), Ax (journal_Read.j4 kq x224000_2 x224001_2 x224002_2 = some (r1, r2, r3, r4)) ∧ Ax (kq ≤ k) ∧ Ax (Kd.N k44 44 wc w.heap.size (fun k_ => (w.heap.size ≤ k_) ∧ k_ ≠ gb222 ∧ k_ ≠ gb223) u224001 x224001_2) ∧ Ax (wc.heap[gb222]? = some (.cells #[.int .u64 0, (.slice none 0 0), .string (⟨#[]⟩ : ByteArray)] 66 (0, 0))) ∧ Ax (wc.heap[gb223]? = some (.cells #[.int .u64 x224000_2, u224001, .string x224002_2] 66 (0, 0))) ∧ Ax (Below w.heap.size w wc))
 case first =>
  have H := HC3.out
  clear HC3
  have H' := Ax.mk H
  clear H
  go_wp2
  go_loopg [5, 18] k (fun kq v5 v18 w' => ∃ (x5_1 : Int) (x18_1 : Int) (x224000_1 : Int) (x224001_1 : List (S44)) (x224002_1 : ByteArray) (u224001 : Value), v5 = .int .i64 x5_1 ∧ v18 = .int .i64 x18_1 ∧ Ax (journal_Read.l0 kq x5_1 t224 t224 (t224.length : Int) x18_1 x224000_1 x224001_1 x224002_1 = some (r1, r2, r3, r4)) ∧ Ax (kq ≤ k) ∧ Ax (Kd.R k24 24 w' w.heap.size (fun k_ => (w.heap.size ≤ k_)) (.slice Ao7 t224.length co7) t224) ∧ Ax (Kd.R k24 24 w' w.heap.size (fun k_ => (w.heap.size ≤ k_)) (.slice Ao7 t224.length co7) t224) ∧ Ax (Kd.N k44 44 w' w.heap.size (fun k_ => (w.heap.size ≤ k_) ∧ some k_ ≠ ((.slice Ao7 t224.length co7) : Value).ownBlock ∧ some k_ ≠ ((.slice Ao7 t224.length co7) : Value).ownBlock ∧ k_ ≠ gb222 ∧ k_ ≠ gb223) u224001 x224001_1) ∧ Ax (w'.heap[gb222]? = some (.cells #[.int .u64 0, (.slice none 0 0), .string (⟨#[]⟩ : ByteArray)] 66 (0, 0))) ∧ Ax (w'.heap[gb223]? = some (.cells #[.int .u64 x224000_1, u224001, .string x224002_1] 66 (0, 0))) ∧ Ax (Below w.heap.size w w'))
  case atStart => exact ⟨(0), (0), (0), (([] : List (S44))), ((⟨#[]⟩ : ByteArray)), (.slice none 0 0), (by first | rfl | (simp; done) | (simp [*]; done)), (by first | rfl | (simp; done) | (simp [*]; done)), H', ⟨Nat.le_refl _⟩, ⟨by apply Kd.R_to; exact Kd.R_mono HO227.out (fun _ hk => hk.1)⟩, ⟨by apply Kd.R_to; exact Kd.R_mono HO227.out (fun _ hk => hk.1)⟩, ⟨by first | exact Kd.S_nil _ _ _ _ _ | exact Kd.N_nil _ _ _ _ _ | exact Kd.V_nil _ _ _ _ _ | exact Kd.Q_nil _ _ _ _ _ | exact Kd.R_nil _ _ _ _ _⟩, ⟨by refine bT ?_; exact BK222.out⟩, ⟨by refine bT ?_; exact BK223.out⟩, ⟨bA⟩⟩
  case round =>
   clear H'
   try clear c2
   try clear p2
   try clear c4
   obtain ⟨x5_1, x18_1, x224000_1, x224001_1, x224002_1, u224001, rfl, rfl, HA, HK1, HO_6, HO_16, HO_224001, BK222, BK223, HB⟩ := hrel
   cases gk with
   | zero => exact absurd HA.out (by simp [journal_Read.l0])
   | succ k1 =>
    have H := HA.out
    clear HA
    simp only [journal_Read.l0] at H
    by_cases c8 : x18_1 < (t224.length : Int)
    ·rw [if_pos c8] at H
     have c8b0 : decide (x18_1 < (t224.length : Int)) = true := decide_eq_true c8
     clear c8
     (first | rw [c8b0] | (simp only [i64_w, i32_w]; rw [c8b0]) | skip)
     have HC9 := Ax.mk H
     clear H
     go_upto_block 1 with (fail)
     go_cut [5] (fun v5 wc => ∃ (kq : Nat) (x5_8 : Int) (x224000_8 : Int) (x224001_8 : List (S44)) (x224002_8 : ByteArray) (u224001 : Value), v5 = .int .i64 x5_8 ∧ Ax (journal_Read.j3 kq x5_8 t224 t224 (t224.length : Int) x18_1 x224000_8 x224001_8 x224002_8 = some (r1, r2, r3, r4)) ∧ Ax (kq ≤ k1) ∧ Ax (Kd.R k24 24 wc w.heap.size (fun k_ => (w.heap.size ≤ k_)) (.slice Ao7 t224.length co7) t224) ∧ Ax (Kd.R k24 24 wc w.heap.size (fun k_ => (w.heap.size ≤ k_)) (.slice Ao7 t224.length co7) t224) ∧ Ax (Kd.N k44 44 wc w.heap.size (fun k_ => (w.heap.size ≤ k_) ∧ some k_ ≠ ((.slice Ao7 t224.length co7) : Value).ownBlock ∧ some k_ ≠ ((.slice Ao7 t224.length co7) : Value).ownBlock ∧ k_ ≠ gb222 ∧ k_ ≠ gb223) u224001 x224001_8) ∧ Ax (wc.heap[gb222]? = some (.cells #[.int .u64 0, (.slice none 0 0), .string (⟨#[]⟩ : ByteArray)] 66 (0, 0))) ∧ Ax (wc.heap[gb223]? = some (.cells #[.int .u64 x224000_8, u224001, .string x224002_8] 66 (0, 0))) ∧ Ax (Below w.heap.size w wc))
     case first =>
      have H := HC9.out
      clear HC9
      by_cases c10 : 0 ≤ x18_1
      ·rw [if_pos c10] at H
       have c10b0 : decide (0 ≤ x18_1) = true := decide_eq_true c10
       clear c10
       (first | rw [c10b0] | (simp only [i64_w, i32_w]; rw [c10b0]) | skip)
       by_cases c11 : x18_1 < (t224.length : Int)
       ·rw [if_pos c11] at H
        have c11b0 : decide (x18_1 < (t224.length : Int)) = true := decide_eq_true c11
        clear c11
        by_cases c12 : ((rd_T24 t224 x18_1).f0) = 8
        ·rw [if_pos c12] at H
         have c12b0 : (((rd_T24 t224 x18_1).f0) == 8) = true := beq_iff_eq.mpr c12
         have c12b1 : (((rd_T24 t224 x18_1).f0) != 8) = false := bne_eq_false_iff_eq.mpr c12
         clear c12
         have HC13 := Ax.mk H
         clear H
         have p228 : 0 ≤ (x18_1 : Int) := ofD
         have q228 : x18_1 < (t224.length : Int) := ofD
         obtain ⟨ad228, e228, hx228_0, hx228_1, hx228_2, hx228_3, hx228_4⟩ := at_T24 (Kd.R_reads' HO_16.out).2.2 x18_1 p228 q228
         cases e228
         replace p228 := eq_true p228
         replace q228 := eq_true q228
         go_upto_region 8 with (first | ((with_reducible refine gate_dst (N := 9) rfl ?_); refine box_event ?hg (N := 9) ?hd (cs := #[.int .i64 0, .int .i64 0, .int .i64 0, .int .u64 0, .string (⟨#[]⟩ : ByteArray)]) (t := 24) ?hr ?_; (case hd => rfl); (case hg => rfl); (case hr => first | (go_simp; done) | (go_simp; rfl)); intro gb229 hg w14 hbox hb; have n0_ := Ax.mk (Kd.R_below (Kd.R_elderB (by exact Kd.R_to HO_6.out) gb229 (Nat.le_of_eq hg.symm)) hb); have n1_ := Ax.mk (Kd.R_below (Kd.R_elderB (by exact Kd.R_to HO_16.out) gb229 (Nat.le_of_eq hg.symm)) hb); have n2_ := Ax.mk (Kd.N_below (Kd.N_elderB (by exact Kd.N_to HO_224001.out) gb229 (Nat.le_of_eq hg.symm)) hb); have n3_ := Ax.mk (bB (bT BK222.out) hb); have n4_ := Ax.mk (bB (bT BK223.out) hb); have n5_ := Ax.mk (bP bA hb); have n6_ := Ax.mk (hbox); have n7_ := Ax.mk ((ge_new hg : w.heap.size ≤ gb229)); have n8_ := n7_; have n9_ := Ax.mk ((ne_lt hg BK222.out : gb222 ≠ gb229)); have n10_ := Ax.mk ((ne_gt hg BK222.out : gb229 ≠ gb222)); have n11_ := Ax.mk ((ne_lt hg BK223.out : gb223 ≠ gb229)); have n12_ := Ax.mk ((ne_gt hg BK223.out : gb229 ≠ gb223)); clear HO_6; clear HO_16; clear HO_224001; clear BK222; clear BK223; clear HB; have HO_6 := n0_; have HO_16 := n1_; have HO_224001 := n2_; have BK222 := n3_; have BK223 := n4_; have HB := n5_; have BK229 := n6_; have GW229 := n7_; have GE229 := n8_; have NB222_229 := n9_; have NB229_222 := n10_; have NB223_229 := n11_; have NB229_223 := n12_; clear n0_ n1_ n2_ n3_ n4_ n5_ n6_ n7_ n8_ n9_ n10_ n11_ n12_; clear hb hbox hg; have hnb15 := NB229_222.out; have hnc15 := NB222_229.out; have hnb16 := NB229_223.out; have hnc16 := NB223_229.out; have hcz17_0 : w14.cell? ⟨gb229, 0, none⟩ = some (.int .i64 0) := (bC BK229.out 0).trans rfl; have hcz17_1 : w14.cell? ⟨gb229, 1, none⟩ = some (.int .i64 0) := (bC BK229.out 1).trans rfl; have hcz17_2 : w14.cell? ⟨gb229, 2, none⟩ = some (.int .i64 0) := (bC BK229.out 2).trans rfl; have hcz17_3 : w14.cell? ⟨gb229, 3, none⟩ = some (.int .u64 0) := (bC BK229.out 3).trans rfl; have hcz17_4 : w14.cell? ⟨gb229, 4, none⟩ = some (.string (⟨#[]⟩ : ByteArray)) := (bC BK229.out 4).trans rfl; have hfz17_0 := bF BK229.out 0; have hfz17_1 := bF BK229.out 1; have hfz17_2 := bF BK229.out 2; have hfz17_3 := bF BK229.out 3; have hfz17_4 := bF BK229.out 4))
         (try simp only [Act.put, sI, sZ, sS])
         go_cut [10] (fun v10 wc => ∃ (kq : Nat) (x10_12 : Bool), v10 = .bool x10_12 ∧ Ax (journal_Read.j1 kq x5_1 t224 x18_1 x10_12 t224 (t224.length : Int) x18_1 x224000_1 x224001_1 x224002_1 ((rd_T24 t224 x18_1).f0) ((rd_T24 t224 x18_1).f1) ((rd_T24 t224 x18_1).f2) ((rd_T24 t224 x18_1).f3) ((rd_T24 t224 x18_1).f4) = some (r1, r2, r3, r4)) ∧ Ax (kq ≤ k1) ∧ Ax (Kd.R k24 24 wc w.heap.size (fun k_ => (w.heap.size ≤ k_) ∧ k_ ≠ gb229) (.slice (some ad228) t224.length co7) t224) ∧ Ax (Kd.R k24 24 wc w.heap.size (fun k_ => (w.heap.size ≤ k_) ∧ k_ ≠ gb229) (.slice (some ad228) t224.length co7) t224) ∧ Ax (Kd.N k44 44 wc w.heap.size (fun k_ => (w.heap.size ≤ k_) ∧ some k_ ≠ ((.slice (some ad228) t224.length co7) : Value).ownBlock ∧ some k_ ≠ ((.slice (some ad228) t224.length co7) : Value).ownBlock ∧ k_ ≠ gb222 ∧ k_ ≠ gb223 ∧ k_ ≠ gb229) u224001 x224001_1) ∧ Ax (wc.heap[gb222]? = some (.cells #[.int .u64 0, (.slice none 0 0), .string (⟨#[]⟩ : ByteArray)] 66 (0, 0))) ∧ Ax (wc.heap[gb223]? = some (.cells #[.int .u64 x224000_1, u224001, .string x224002_1] 66 (0, 0))) ∧ Ax (wc.heap[gb229]? = some (.cells #[.int .i64 ((rd_T24 t224 x18_1).f0), .int .i64 ((rd_T24 t224 x18_1).f1), .int .i64 ((rd_T24 t224 x18_1).f2), .int .u64 ((rd_T24 t224 x18_1).f3), .string ((rd_T24 t224 x18_1).f4)] 24 (0, 0))) ∧ Ax (Below w.heap.size w wc))
         case first =>
          have H := HC13.out
          clear HC13
          by_cases c18 : (x224001_1.length : Int) = 0
          ·rw [if_pos c18] at H
           have c18b0 : ((x224001_1.length : Int) == 0) = true := beq_iff_eq.mpr c18
           have c18b1 : ((x224001_1.length : Int) != 0) = false := bne_eq_false_iff_eq.mpr c18
           clear c18
           (first | rw [c18b0] | (simp only [i64_w, i32_w]; rw [c18b0]) | skip)
           have H' := Ax.mk H
           clear H
           have hnb19 := NB223_222.out
           have hnc19 := NB222_223.out
           have hnb20 := NB223_229.out
           have hnc20 := NB229_223.out
           have hcz21_0 : w14.cell? ⟨gb223, 0, none⟩ = some (.int .u64 x224000_1) := (bC BK223.out 0).trans rfl
           have hcz21_1 : w14.cell? ⟨gb223, 1, none⟩ = some (u224001) := (bC BK223.out 1).trans rfl
           have hcz21_2 : w14.cell? ⟨gb223, 2, none⟩ = some (.string x224002_1) := (bC BK223.out 2).trans rfl
           have hfz21_0 := bF BK223.out 0
           have hfz21_1 := bF BK223.out 1
           have hfz21_2 := bF BK223.out 2
           obtain ⟨Ao22, co22, eo22⟩ := Kd.N_slice HO_224001.out
           subst eo22
           go_wp2
           go_meet
           case rel => exact ⟨_, (true), (by first | rfl | (simp; done) | (simp [*]; done)), H', ⟨by have := HK1.out; first | omega | exact Nat.le_refl _⟩, ⟨by apply Kd.R_to; exact Kd.R_mono (Kd.R_far (p := ⟨gb229, 4, none⟩) (Kd.R_far (p := ⟨gb229, 3, none⟩) (Kd.R_far (p := ⟨gb229, 2, none⟩) (Kd.R_far (p := ⟨gb229, 1, none⟩) (Kd.R_far (p := ⟨gb229, 0, none⟩) (Kd.R_mono HO_6.out (fun k_ hk => (⟨hk, hk.2⟩ : _ ∧ k_ ≠ gb229))) (fun _ hk => hk.2) (.int .i64 ((rd_T24 t224 x18_1).f0))) (fun _ hk => hk.2) (.int .i64 ((rd_T24 t224 x18_1).f1))) (fun _ hk => hk.2) (.int .i64 ((rd_T24 t224 x18_1).f2))) (fun _ hk => hk.2) (.int .u64 ((rd_T24 t224 x18_1).f3))) (fun _ hk => hk.2) (.string ((rd_T24 t224 x18_1).f4))) (fun _ hk => ⟨hk.1.1, hk.1.2⟩)⟩, ⟨by apply Kd.R_to; exact Kd.R_mono (Kd.R_far (p := ⟨gb229, 4, none⟩) (Kd.R_far (p := ⟨gb229, 3, none⟩) (Kd.R_far (p := ⟨gb229, 2, none⟩) (Kd.R_far (p := ⟨gb229, 1, none⟩) (Kd.R_far (p := ⟨gb229, 0, none⟩) (Kd.R_mono HO_16.out (fun k_ hk => (⟨hk, hk.2⟩ : _ ∧ k_ ≠ gb229))) (fun _ hk => hk.2) (.int .i64 ((rd_T24 t224 x18_1).f0))) (fun _ hk => hk.2) (.int .i64 ((rd_T24 t224 x18_1).f1))) (fun _ hk => hk.2) (.int .i64 ((rd_T24 t224 x18_1).f2))) (fun _ hk => hk.2) (.int .u64 ((rd_T24 t224 x18_1).f3))) (fun _ hk => hk.2) (.string ((rd_T24 t224 x18_1).f4))) (fun _ hk => ⟨hk.1.1, hk.1.2⟩)⟩, ⟨by apply Kd.N_to; exact Kd.N_mono (Kd.N_far (p := ⟨gb229, 4, none⟩) (Kd.N_far (p := ⟨gb229, 3, none⟩) (Kd.N_far (p := ⟨gb229, 2, none⟩) (Kd.N_far (p := ⟨gb229, 1, none⟩) (Kd.N_far (p := ⟨gb229, 0, none⟩) (Kd.N_mono HO_224001.out (fun k_ hk => (⟨hk, hk.2⟩ : _ ∧ k_ ≠ gb229))) (fun _ hk => hk.2) (.int .i64 ((rd_T24 t224 x18_1).f0))) (fun _ hk => hk.2) (.int .i64 ((rd_T24 t224 x18_1).f1))) (fun _ hk => hk.2) (.int .i64 ((rd_T24 t224 x18_1).f2))) (fun _ hk => hk.2) (.int .u64 ((rd_T24 t224 x18_1).f3))) (fun _ hk => hk.2) (.string ((rd_T24 t224 x18_1).f4))) (fun _ hk => ⟨hk.1.1.1, ⟨hk.1.1.2.1, ⟨hk.1.1.2.2.1, ⟨hk.1.1.2.2.2.1, ⟨hk.1.1.2.2.2.2, hk.1.2⟩⟩⟩⟩⟩)⟩, ⟨by refine bT ?_; refine bR ?_ NB222_229.out _; refine bT ?_; refine bR ?_ NB222_229.out _; refine bT ?_; refine bR ?_ NB222_229.out _; refine bT ?_; refine bR ?_ NB222_229.out _; refine bT ?_; refine bR ?_ NB222_229.out _; refine bT ?_; exact BK222.out⟩, ⟨by refine bT ?_; refine bR ?_ NB223_229.out _; refine bT ?_; refine bR ?_ NB223_229.out _; refine bT ?_; refine bR ?_ NB223_229.out _; refine bT ?_; refine bR ?_ NB223_229.out _; refine bT ?_; refine bR ?_ NB223_229.out _; refine bT ?_; exact BK223.out⟩, ⟨by refine bT ?_; refine bU (cs := #[.int .i64 ((rd_T24 t224 x18_1).f0), .int .i64 ((rd_T24 t224 x18_1).f1), .int .i64 ((rd_T24 t224 x18_1).f2), .int .u64 ((rd_T24 t224 x18_1).f3), .string (⟨#[]⟩ : ByteArray)]) ?_ 4 _ rfl; refine bT ?_; refine bU (cs := #[.int .i64 ((rd_T24 t224 x18_1).f0), .int .i64 ((rd_T24 t224 x18_1).f1), .int .i64 ((rd_T24 t224 x18_1).f2), .int .u64 0, .string (⟨#[]⟩ : ByteArray)]) ?_ 3 _ rfl; refine bT ?_; refine bU (cs := #[.int .i64 ((rd_T24 t224 x18_1).f0), .int .i64 ((rd_T24 t224 x18_1).f1), .int .i64 0, .int .u64 0, .string (⟨#[]⟩ : ByteArray)]) ?_ 2 _ rfl; refine bT ?_; refine bU (cs := #[.int .i64 ((rd_T24 t224 x18_1).f0), .int .i64 0, .int .i64 0, .int .u64 0, .string (⟨#[]⟩ : ByteArray)]) ?_ 1 _ rfl; refine bT ?_; refine bU (cs := #[.int .i64 0, .int .i64 0, .int .i64 0, .int .u64 0, .string (⟨#[]⟩ : ByteArray)]) ?_ 0 _ rfl; refine bT ?_; exact BK229.out⟩, ⟨bA⟩⟩
          ·rw [if_neg c18] at H
           have c18b0 : ((x224001_1.length : Int) == 0) = false := beq_eq_false_iff_ne.mpr c18
           have c18b1 : ((x224001_1.length : Int) != 0) = true := bne_iff_ne.mpr c18
           have c18b2 : ¬ (x224001_1 = []) := fun h_ => c18 (by rw [h_]; rfl)
           (first | rw [c18b0] | (simp only [i64_w, i32_w]; rw [c18b0]) | skip)
           by_cases c23 : x224000_1 < 18446744073709551615
           ·rw [if_pos c23] at H
            have c23b0 : decide (x224000_1 < 18446744073709551615) = true := decide_eq_true c23
            clear c23
            have H' := Ax.mk H
            clear H
            have hnb24 := NB223_222.out
            have hnc24 := NB222_223.out
            have hnb25 := NB223_229.out
            have hnc25 := NB229_223.out
            have hcz26_0 : w14.cell? ⟨gb223, 0, none⟩ = some (.int .u64 x224000_1) := (bC BK223.out 0).trans rfl
            have hcz26_1 : w14.cell? ⟨gb223, 1, none⟩ = some (u224001) := (bC BK223.out 1).trans rfl
            have hcz26_2 : w14.cell? ⟨gb223, 2, none⟩ = some (.string x224002_1) := (bC BK223.out 2).trans rfl
            have hfz26_0 := bF BK223.out 0
            have hfz26_1 := bF BK223.out 1
            have hfz26_2 := bF BK223.out 2
            obtain ⟨Ao27, co27, eo27⟩ := Kd.N_slice HO_224001.out
            subst eo27
            have hnb28 := NB229_222.out
            have hnc28 := NB222_229.out
            have hcz29_0 : w14.cell? ⟨gb229, 0, none⟩ = some (.int .i64 0) := (bC BK229.out 0).trans rfl
            have hcz29_1 : w14.cell? ⟨gb229, 1, none⟩ = some (.int .i64 0) := (bC BK229.out 1).trans rfl
            have hcz29_2 : w14.cell? ⟨gb229, 2, none⟩ = some (.int .i64 0) := (bC BK229.out 2).trans rfl
            have hcz29_3 : w14.cell? ⟨gb229, 3, none⟩ = some (.int .u64 0) := (bC BK229.out 3).trans rfl
            have hcz29_4 : w14.cell? ⟨gb229, 4, none⟩ = some (.string (⟨#[]⟩ : ByteArray)) := (bC BK229.out 4).trans rfl
            have hfz29_0 := bF BK229.out 0
            have hfz29_1 := bF BK229.out 1
            have hfz29_2 := bF BK229.out 2
            have hfz29_3 := bF BK229.out 3
            have hfz29_4 := bF BK229.out 4
            go_wp2
            go_meet
            case rel => exact ⟨_, ((((rd_T24 t224 x18_1).f3) == (IntKind.u64.wrap (x224000_1 + 1)))), (by first | rfl | (simp; done) | (simp [*]; done)), H', ⟨by have := HK1.out; first | omega | exact Nat.le_refl _⟩, ⟨by apply Kd.R_to; exact Kd.R_mono (Kd.R_far (p := ⟨gb229, 4, none⟩) (Kd.R_far (p := ⟨gb229, 3, none⟩) (Kd.R_far (p := ⟨gb229, 2, none⟩) (Kd.R_far (p := ⟨gb229, 1, none⟩) (Kd.R_far (p := ⟨gb229, 0, none⟩) (Kd.R_mono HO_6.out (fun k_ hk => (⟨hk, hk.2⟩ : _ ∧ k_ ≠ gb229))) (fun _ hk => hk.2) (.int .i64 ((rd_T24 t224 x18_1).f0))) (fun _ hk => hk.2) (.int .i64 ((rd_T24 t224 x18_1).f1))) (fun _ hk => hk.2) (.int .i64 ((rd_T24 t224 x18_1).f2))) (fun _ hk => hk.2) (.int .u64 ((rd_T24 t224 x18_1).f3))) (fun _ hk => hk.2) (.string ((rd_T24 t224 x18_1).f4))) (fun _ hk => ⟨hk.1.1, hk.1.2⟩)⟩, ⟨by apply Kd.R_to; exact Kd.R_mono (Kd.R_far (p := ⟨gb229, 4, none⟩) (Kd.R_far (p := ⟨gb229, 3, none⟩) (Kd.R_far (p := ⟨gb229, 2, none⟩) (Kd.R_far (p := ⟨gb229, 1, none⟩) (Kd.R_far (p := ⟨gb229, 0, none⟩) (Kd.R_mono HO_16.out (fun k_ hk => (⟨hk, hk.2⟩ : _ ∧ k_ ≠ gb229))) (fun _ hk => hk.2) (.int .i64 ((rd_T24 t224 x18_1).f0))) (fun _ hk => hk.2) (.int .i64 ((rd_T24 t224 x18_1).f1))) (fun _ hk => hk.2) (.int .i64 ((rd_T24 t224 x18_1).f2))) (fun _ hk => hk.2) (.int .u64 ((rd_T24 t224 x18_1).f3))) (fun _ hk => hk.2) (.string ((rd_T24 t224 x18_1).f4))) (fun _ hk => ⟨hk.1.1, hk.1.2⟩)⟩, ⟨by apply Kd.N_to; exact Kd.N_mono (Kd.N_far (p := ⟨gb229, 4, none⟩) (Kd.N_far (p := ⟨gb229, 3, none⟩) (Kd.N_far (p := ⟨gb229, 2, none⟩) (Kd.N_far (p := ⟨gb229, 1, none⟩) (Kd.N_far (p := ⟨gb229, 0, none⟩) (Kd.N_mono HO_224001.out (fun k_ hk => (⟨hk, hk.2⟩ : _ ∧ k_ ≠ gb229))) (fun _ hk => hk.2) (.int .i64 ((rd_T24 t224 x18_1).f0))) (fun _ hk => hk.2) (.int .i64 ((rd_T24 t224 x18_1).f1))) (fun _ hk => hk.2) (.int .i64 ((rd_T24 t224 x18_1).f2))) (fun _ hk => hk.2) (.int .u64 ((rd_T24 t224 x18_1).f3))) (fun _ hk => hk.2) (.string ((rd_T24 t224 x18_1).f4))) (fun _ hk => ⟨hk.1.1.1, ⟨hk.1.1.2.1, ⟨hk.1.1.2.2.1, ⟨hk.1.1.2.2.2.1, ⟨hk.1.1.2.2.2.2, hk.1.2⟩⟩⟩⟩⟩)⟩, ⟨by refine bT ?_; refine bR ?_ NB222_229.out _; refine bT ?_; refine bR ?_ NB222_229.out _; refine bT ?_; refine bR ?_ NB222_229.out _; refine bT ?_; refine bR ?_ NB222_229.out _; refine bT ?_; refine bR ?_ NB222_229.out _; refine bT ?_; exact BK222.out⟩, ⟨by refine bT ?_; refine bR ?_ NB223_229.out _; refine bT ?_; refine bR ?_ NB223_229.out _; refine bT ?_; refine bR ?_ NB223_229.out _; refine bT ?_; refine bR ?_ NB223_229.out _; refine bT ?_; refine bR ?_ NB223_229.out _; refine bT ?_; exact BK223.out⟩, ⟨by refine bT ?_; refine bU (cs := #[.int .i64 ((rd_T24 t224 x18_1).f0), .int .i64 ((rd_T24 t224 x18_1).f1), .int .i64 ((rd_T24 t224 x18_1).f2), .int .u64 ((rd_T24 t224 x18_1).f3), .string (⟨#[]⟩ : ByteArray)]) ?_ 4 _ rfl; refine bT ?_; refine bU (cs := #[.int .i64 ((rd_T24 t224 x18_1).f0), .int .i64 ((rd_T24 t224 x18_1).f1), .int .i64 ((rd_T24 t224 x18_1).f2), .int .u64 0, .string (⟨#[]⟩ : ByteArray)]) ?_ 3 _ rfl; refine bT ?_; refine bU (cs := #[.int .i64 ((rd_T24 t224 x18_1).f0), .int .i64 ((rd_T24 t224 x18_1).f1), .int .i64 0, .int .u64 0, .string (⟨#[]⟩ : ByteArray)]) ?_ 2 _ rfl; refine bT ?_; refine bU (cs := #[.int .i64 ((rd_T24 t224 x18_1).f0), .int .i64 0, .int .i64 0, .int .u64 0, .string (⟨#[]⟩ : ByteArray)]) ?_ 1 _ rfl; refine bT ?_; refine bU (cs := #[.int .i64 0, .int .i64 0, .int .i64 0, .int .u64 0, .string (⟨#[]⟩ : ByteArray)]) ?_ 0 _ rfl; refine bT ?_; exact BK229.out⟩, ⟨bA⟩⟩
           ·rw [if_neg c23] at H
            have c23b0 : decide (x224000_1 < 18446744073709551615) = false := decide_eq_false c23
            clear c23
            have H' := Ax.mk H
            clear H
            have hnb30 := NB223_222.out
            have hnc30 := NB222_223.out
            have hnb31 := NB223_229.out
            have hnc31 := NB229_223.out
            have hcz32_0 : w14.cell? ⟨gb223, 0, none⟩ = some (.int .u64 x224000_1) := (bC BK223.out 0).trans rfl
            have hcz32_1 : w14.cell? ⟨gb223, 1, none⟩ = some (u224001) := (bC BK223.out 1).trans rfl
            have hcz32_2 : w14.cell? ⟨gb223, 2, none⟩ = some (.string x224002_1) := (bC BK223.out 2).trans rfl
            have hfz32_0 := bF BK223.out 0
            have hfz32_1 := bF BK223.out 1
            have hfz32_2 := bF BK223.out 2
            obtain ⟨Ao33, co33, eo33⟩ := Kd.N_slice HO_224001.out
            subst eo33
            go_wp2
            go_meet
            case rel => exact ⟨_, (false), (by first | rfl | (simp; done) | (simp [*]; done)), H', ⟨by have := HK1.out; first | omega | exact Nat.le_refl _⟩, ⟨by apply Kd.R_to; exact Kd.R_mono (Kd.R_far (p := ⟨gb229, 4, none⟩) (Kd.R_far (p := ⟨gb229, 3, none⟩) (Kd.R_far (p := ⟨gb229, 2, none⟩) (Kd.R_far (p := ⟨gb229, 1, none⟩) (Kd.R_far (p := ⟨gb229, 0, none⟩) (Kd.R_mono HO_6.out (fun k_ hk => (⟨hk, hk.2⟩ : _ ∧ k_ ≠ gb229))) (fun _ hk => hk.2) (.int .i64 ((rd_T24 t224 x18_1).f0))) (fun _ hk => hk.2) (.int .i64 ((rd_T24 t224 x18_1).f1))) (fun _ hk => hk.2) (.int .i64 ((rd_T24 t224 x18_1).f2))) (fun _ hk => hk.2) (.int .u64 ((rd_T24 t224 x18_1).f3))) (fun _ hk => hk.2) (.string ((rd_T24 t224 x18_1).f4))) (fun _ hk => ⟨hk.1.1, hk.1.2⟩)⟩, ⟨by apply Kd.R_to; exact Kd.R_mono (Kd.R_far (p := ⟨gb229, 4, none⟩) (Kd.R_far (p := ⟨gb229, 3, none⟩) (Kd.R_far (p := ⟨gb229, 2, none⟩) (Kd.R_far (p := ⟨gb229, 1, none⟩) (Kd.R_far (p := ⟨gb229, 0, none⟩) (Kd.R_mono HO_16.out (fun k_ hk => (⟨hk, hk.2⟩ : _ ∧ k_ ≠ gb229))) (fun _ hk => hk.2) (.int .i64 ((rd_T24 t224 x18_1).f0))) (fun _ hk => hk.2) (.int .i64 ((rd_T24 t224 x18_1).f1))) (fun _ hk => hk.2) (.int .i64 ((rd_T24 t224 x18_1).f2))) (fun _ hk => hk.2) (.int .u64 ((rd_T24 t224 x18_1).f3))) (fun _ hk => hk.2) (.string ((rd_T24 t224 x18_1).f4))) (fun _ hk => ⟨hk.1.1, hk.1.2⟩)⟩, ⟨by apply Kd.N_to; exact Kd.N_mono (Kd.N_far (p := ⟨gb229, 4, none⟩) (Kd.N_far (p := ⟨gb229, 3, none⟩) (Kd.N_far (p := ⟨gb229, 2, none⟩) (Kd.N_far (p := ⟨gb229, 1, none⟩) (Kd.N_far (p := ⟨gb229, 0, none⟩) (Kd.N_mono HO_224001.out (fun k_ hk => (⟨hk, hk.2⟩ : _ ∧ k_ ≠ gb229))) (fun _ hk => hk.2) (.int .i64 ((rd_T24 t224 x18_1).f0))) (fun _ hk => hk.2) (.int .i64 ((rd_T24 t224 x18_1).f1))) (fun _ hk => hk.2) (.int .i64 ((rd_T24 t224 x18_1).f2))) (fun _ hk => hk.2) (.int .u64 ((rd_T24 t224 x18_1).f3))) (fun _ hk => hk.2) (.string ((rd_T24 t224 x18_1).f4))) (fun _ hk => ⟨hk.1.1.1, ⟨hk.1.1.2.1, ⟨hk.1.1.2.2.1, ⟨hk.1.1.2.2.2.1, ⟨hk.1.1.2.2.2.2, hk.1.2⟩⟩⟩⟩⟩)⟩, ⟨by refine bT ?_; refine bR ?_ NB222_229.out _; refine bT ?_; refine bR ?_ NB222_229.out _; refine bT ?_; refine bR ?_ NB222_229.out _; refine bT ?_; refine bR ?_ NB222_229.out _; refine bT ?_; refine bR ?_ NB222_229.out _; refine bT ?_; exact BK222.out⟩, ⟨by refine bT ?_; refine bR ?_ NB223_229.out _; refine bT ?_; refine bR ?_ NB223_229.out _; refine bT ?_; refine bR ?_ NB223_229.out _; refine bT ?_; refine bR ?_ NB223_229.out _; refine bT ?_; refine bR ?_ NB223_229.out _; refine bT ?_; exact BK223.out⟩, ⟨by refine bT ?_; refine bU (cs := #[.int .i64 ((rd_T24 t224 x18_1).f0), .int .i64 ((rd_T24 t224 x18_1).f1), .int .i64 ((rd_T24 t224 x18_1).f2), .int .u64 ((rd_T24 t224 x18_1).f3), .string (⟨#[]⟩ : ByteArray)]) ?_ 4 _ rfl; refine bT ?_; refine bU (cs := #[.int .i64 ((rd_T24 t224 x18_1).f0), .int .i64 ((rd_T24 t224 x18_1).f1), .int .i64 ((rd_T24 t224 x18_1).f2), .int .u64 0, .string (⟨#[]⟩ : ByteArray)]) ?_ 3 _ rfl; refine bT ?_; refine bU (cs := #[.int .i64 ((rd_T24 t224 x18_1).f0), .int .i64 ((rd_T24 t224 x18_1).f1), .int .i64 0, .int .u64 0, .string (⟨#[]⟩ : ByteArray)]) ?_ 2 _ rfl; refine bT ?_; refine bU (cs := #[.int .i64 ((rd_T24 t224 x18_1).f0), .int .i64 0, .int .i64 0, .int .u64 0, .string (⟨#[]⟩ : ByteArray)]) ?_ 1 _ rfl; refine bT ?_; refine bU (cs := #[.int .i64 0, .int .i64 0, .int .i64 0, .int .u64 0, .string (⟨#[]⟩ : ByteArray)]) ?_ 0 _ rfl; refine bT ?_; exact BK229.out⟩, ⟨bA⟩⟩
         case rest =>
          clear HC13
          try clear c1
          try clear c2
          try clear p2
          try clear q2
          try clear hx2
          try clear c3
          try clear c4
          try clear c8
          try clear c8b0
          try clear c10
          try clear c10b0
          try clear c11
          try clear c11b0
          try clear c12
          try clear c12b0
          try clear c12b1
          try clear c15
          try clear c16
          try clear c18
          try clear c18b0
          try clear c18b1
          try clear c18b2
          try clear c19
          try clear c20
          try clear p22
          try clear q22
          try clear hx22
          try clear c23
          try clear c23b0
          try clear c24
          try clear c25
          try clear c28
          try clear c29
          try clear c30
          try clear c31
          try clear hcz17_0
          try clear hcz17_1
          try clear hcz17_2
          try clear hcz17_3
          try clear hcz17_4
          try clear hcz21_0
          try clear hcz21_1
          try clear hcz21_2
          try clear hcz26_0
          try clear hcz26_1
          try clear hcz26_2
          try clear hcz29_0
          try clear hcz29_1
          try clear hcz29_2
          try clear hcz29_3
          try clear hcz29_4
          try clear hcz32_0
          try clear hcz32_1
          try clear hcz32_2
          try clear hfz17_0
          try clear hfz17_1
          try clear hfz17_2
          try clear hfz17_3
          try clear hfz17_4
          try clear hfz21_0
          try clear hfz21_1
          try clear hfz21_2
          try clear hfz26_0
          try clear hfz26_1
          try clear hfz26_2
          try clear hfz29_0
          try clear hfz29_1
          try clear hfz29_2
          try clear hfz29_3
          try clear hfz29_4
          try clear hfz32_0
          try clear hfz32_1
          try clear hfz32_2
          try clear hx228_0
          try clear hx228_1
          try clear hx228_2
          try clear hx228_3
          try clear hx228_4
          try clear p2
          try clear p228
          try clear q228
          obtain ⟨kq, x10_12, rfl, HA, HJ12, HO_6, HO_16, HO_224001, BK222, BK223, BK229, HB⟩ := hcut
          cases kq with
          | zero => exact absurd HA.out (by simp [journal_Read.j1])
          | succ kj12 =>
           have H := HA.out
           clear HA
           simp only [journal_Read.j1] at H
           have HC34 := Ax.mk H
           clear H
           go_upto_region 9 with (fail)
           go_cut [54] (fun v54 wc => ∃ (kq : Nat) (x54_33 : Bool), v54 = .bool x54_33 ∧ Ax (journal_Read.j2 kq x5_1 t224 x18_1 t224 (t224.length : Int) x18_1 x54_33 x224000_1 x224001_1 x224002_1 ((rd_T24 t224 x18_1).f0) ((rd_T24 t224 x18_1).f1) ((rd_T24 t224 x18_1).f2) ((rd_T24 t224 x18_1).f3) ((rd_T24 t224 x18_1).f4) = some (r1, r2, r3, r4)) ∧ Ax (kq ≤ kj12) ∧ Ax (Kd.R k24 24 wc w.heap.size (fun k_ => (w.heap.size ≤ k_) ∧ k_ ≠ gb229) (.slice (some ad228) t224.length co7) t224) ∧ Ax (Kd.R k24 24 wc w.heap.size (fun k_ => (w.heap.size ≤ k_) ∧ k_ ≠ gb229) (.slice (some ad228) t224.length co7) t224) ∧ Ax (Kd.N k44 44 wc w.heap.size (fun k_ => (w.heap.size ≤ k_) ∧ some k_ ≠ ((.slice (some ad228) t224.length co7) : Value).ownBlock ∧ some k_ ≠ ((.slice (some ad228) t224.length co7) : Value).ownBlock ∧ k_ ≠ gb222 ∧ k_ ≠ gb223 ∧ k_ ≠ gb229) u224001 x224001_1) ∧ Ax (wc.heap[gb222]? = some (.cells #[.int .u64 0, (.slice none 0 0), .string (⟨#[]⟩ : ByteArray)] 66 (0, 0))) ∧ Ax (wc.heap[gb223]? = some (.cells #[.int .u64 x224000_1, u224001, .string x224002_1] 66 (0, 0))) ∧ Ax (wc.heap[gb229]? = some (.cells #[.int .i64 ((rd_T24 t224 x18_1).f0), .int .i64 ((rd_T24 t224 x18_1).f1), .int .i64 ((rd_T24 t224 x18_1).f2), .int .u64 ((rd_T24 t224 x18_1).f3), .string ((rd_T24 t224 x18_1).f4)] 24 (0, 0))) ∧ Ax (Below w.heap.size w wc))
           case first =>
            have H := HC34.out
            clear HC34
            by_cases c35 : ((rd_T24 t224 x18_1).f1) = 0
            ·rw [if_pos c35] at H
             have c35b0 : (((rd_T24 t224 x18_1).f1) == 0) = true := beq_iff_eq.mpr c35
             have c35b1 : (((rd_T24 t224 x18_1).f1) != 0) = false := bne_eq_false_iff_eq.mpr c35
             clear c35
             (first | rw [c35b0] | (simp only [i64_w, i32_w]; rw [c35b0]) | skip)
             by_cases c36 : ((rd_T24 t224 x18_1).f2) = 0
             ·rw [if_pos c36] at H
              have c36b0 : (((rd_T24 t224 x18_1).f2) == 0) = true := beq_iff_eq.mpr c36
              have c36b1 : (((rd_T24 t224 x18_1).f2) != 0) = false := bne_eq_false_iff_eq.mpr c36
              clear c36
              have H' := Ax.mk H
              clear H
              have hnb37 := NB229_222.out
              have hnc37 := NB222_229.out
              have hnb38 := NB229_223.out
              have hnc38 := NB223_229.out
              have hcz39_0 : wc.cell? ⟨gb229, 0, none⟩ = some (.int .i64 ((rd_T24 t224 x18_1).f0)) := (bC BK229.out 0).trans rfl
              have hcz39_1 : wc.cell? ⟨gb229, 1, none⟩ = some (.int .i64 ((rd_T24 t224 x18_1).f1)) := (bC BK229.out 1).trans rfl
              have hcz39_2 : wc.cell? ⟨gb229, 2, none⟩ = some (.int .i64 ((rd_T24 t224 x18_1).f2)) := (bC BK229.out 2).trans rfl
              have hcz39_3 : wc.cell? ⟨gb229, 3, none⟩ = some (.int .u64 ((rd_T24 t224 x18_1).f3)) := (bC BK229.out 3).trans rfl
              have hcz39_4 : wc.cell? ⟨gb229, 4, none⟩ = some (.string ((rd_T24 t224 x18_1).f4)) := (bC BK229.out 4).trans rfl
              have hfz39_0 := bF BK229.out 0
              have hfz39_1 := bF BK229.out 1
              have hfz39_2 := bF BK229.out 2
              have hfz39_3 := bF BK229.out 3
              have hfz39_4 := bF BK229.out 4
              go_wp2
              go_meet
              case rel => exact ⟨_, (!x10_12), (by first | rfl | (simp; done) | (simp [*]; done)), H', ⟨by have := HK1.out; have := HJ12.out; first | omega | exact Nat.le_refl _⟩, ⟨by apply Kd.R_to; exact HO_6.out⟩, ⟨by apply Kd.R_to; exact HO_16.out⟩, ⟨by apply Kd.N_to; exact HO_224001.out⟩, ⟨by refine bT ?_; exact BK222.out⟩, ⟨by refine bT ?_; exact BK223.out⟩, ⟨by refine bT ?_; exact BK229.out⟩, ⟨bA⟩⟩
             ·rw [if_neg c36] at H
              have c36b0 : (((rd_T24 t224 x18_1).f2) == 0) = false := beq_eq_false_iff_ne.mpr c36
              have c36b1 : (((rd_T24 t224 x18_1).f2) != 0) = true := bne_iff_ne.mpr c36
              have H' := Ax.mk H
              clear H
              have hnb40 := NB229_222.out
              have hnc40 := NB222_229.out
              have hnb41 := NB229_223.out
              have hnc41 := NB223_229.out
              have hcz42_0 : wc.cell? ⟨gb229, 0, none⟩ = some (.int .i64 ((rd_T24 t224 x18_1).f0)) := (bC BK229.out 0).trans rfl
              have hcz42_1 : wc.cell? ⟨gb229, 1, none⟩ = some (.int .i64 ((rd_T24 t224 x18_1).f1)) := (bC BK229.out 1).trans rfl
              have hcz42_2 : wc.cell? ⟨gb229, 2, none⟩ = some (.int .i64 ((rd_T24 t224 x18_1).f2)) := (bC BK229.out 2).trans rfl
              have hcz42_3 : wc.cell? ⟨gb229, 3, none⟩ = some (.int .u64 ((rd_T24 t224 x18_1).f3)) := (bC BK229.out 3).trans rfl
              have hcz42_4 : wc.cell? ⟨gb229, 4, none⟩ = some (.string ((rd_T24 t224 x18_1).f4)) := (bC BK229.out 4).trans rfl
              have hfz42_0 := bF BK229.out 0
              have hfz42_1 := bF BK229.out 1
              have hfz42_2 := bF BK229.out 2
              have hfz42_3 := bF BK229.out 3
              have hfz42_4 := bF BK229.out 4
              go_wp2
              go_meet
              case rel => exact ⟨_, (true), (by first | rfl | (simp; done) | (simp [*]; done)), H', ⟨by have := HK1.out; have := HJ12.out; first | omega | exact Nat.le_refl _⟩, ⟨by apply Kd.R_to; exact HO_6.out⟩, ⟨by apply Kd.R_to; exact HO_16.out⟩, ⟨by apply Kd.N_to; exact HO_224001.out⟩, ⟨by refine bT ?_; exact BK222.out⟩, ⟨by refine bT ?_; exact BK223.out⟩, ⟨by refine bT ?_; exact BK229.out⟩, ⟨bA⟩⟩
            ·rw [if_neg c35] at H
             have c35b0 : (((rd_T24 t224 x18_1).f1) == 0) = false := beq_eq_false_iff_ne.mpr c35
             have c35b1 : (((rd_T24 t224 x18_1).f1) != 0) = true := bne_iff_ne.mpr c35
             (first | rw [c35b0] | (simp only [i64_w, i32_w]; rw [c35b0]) | skip)
             have H' := Ax.mk H
             clear H
             have hnb43 := NB229_222.out
             have hnc43 := NB222_229.out
             have hnb44 := NB229_223.out
             have hnc44 := NB223_229.out
             have hcz45_0 : wc.cell? ⟨gb229, 0, none⟩ = some (.int .i64 ((rd_T24 t224 x18_1).f0)) := (bC BK229.out 0).trans rfl
             have hcz45_1 : wc.cell? ⟨gb229, 1, none⟩ = some (.int .i64 ((rd_T24 t224 x18_1).f1)) := (bC BK229.out 1).trans rfl
             have hcz45_2 : wc.cell? ⟨gb229, 2, none⟩ = some (.int .i64 ((rd_T24 t224 x18_1).f2)) := (bC BK229.out 2).trans rfl
             have hcz45_3 : wc.cell? ⟨gb229, 3, none⟩ = some (.int .u64 ((rd_T24 t224 x18_1).f3)) := (bC BK229.out 3).trans rfl
             have hcz45_4 : wc.cell? ⟨gb229, 4, none⟩ = some (.string ((rd_T24 t224 x18_1).f4)) := (bC BK229.out 4).trans rfl
             have hfz45_0 := bF BK229.out 0
             have hfz45_1 := bF BK229.out 1
             have hfz45_2 := bF BK229.out 2
             have hfz45_3 := bF BK229.out 3
             have hfz45_4 := bF BK229.out 4
             go_wp2
             go_meet
             case rel => exact ⟨_, (true), (by first | rfl | (simp; done) | (simp [*]; done)), H', ⟨by have := HK1.out; have := HJ12.out; first | omega | exact Nat.le_refl _⟩, ⟨by apply Kd.R_to; exact HO_6.out⟩, ⟨by apply Kd.R_to; exact HO_16.out⟩, ⟨by apply Kd.N_to; exact HO_224001.out⟩, ⟨by refine bT ?_; exact BK222.out⟩, ⟨by refine bT ?_; exact BK223.out⟩, ⟨by refine bT ?_; exact BK229.out⟩, ⟨bA⟩⟩
           case rest =>
            clear HC34
            try clear c1
            try clear c2
            try clear p2
            try clear q2
            try clear hx2
            try clear c3
            try clear c4
            try clear c8
            try clear c8b0
            try clear c10
            try clear c10b0
            try clear c11
            try clear c11b0
            try clear c12
            try clear c12b0
            try clear c12b1
            try clear c15
            try clear c16
            try clear c18
            try clear c18b0
            try clear c18b1
            try clear c18b2
            try clear c19
            try clear c20
            try clear p22
            try clear q22
            try clear hx22
            try clear c23
            try clear c23b0
            try clear c24
            try clear c25
            try clear c28
            try clear c29
            try clear c30
            try clear c31
            try clear c35
            try clear c35b0
            try clear c35b1
            try clear c36
            try clear c36b0
            try clear c36b1
            try clear c37
            try clear c38
            try clear c40
            try clear c41
            try clear c43
            try clear c44
            try clear hcz17_0
            try clear hcz17_1
            try clear hcz17_2
            try clear hcz17_3
            try clear hcz17_4
            try clear hcz21_0
            try clear hcz21_1
            try clear hcz21_2
            try clear hcz26_0
            try clear hcz26_1
            try clear hcz26_2
            try clear hcz29_0
            try clear hcz29_1
            try clear hcz29_2
            try clear hcz29_3
            try clear hcz29_4
            try clear hcz32_0
            try clear hcz32_1
            try clear hcz32_2
            try clear hcz39_0
            try clear hcz39_1
            try clear hcz39_2
            try clear hcz39_3
            try clear hcz39_4
            try clear hcz42_0
            try clear hcz42_1
            try clear hcz42_2
            try clear hcz42_3
            try clear hcz42_4
            try clear hcz45_0
            try clear hcz45_1
            try clear hcz45_2
            try clear hcz45_3
            try clear hcz45_4
            try clear hfz17_0
            try clear hfz17_1
            try clear hfz17_2
            try clear hfz17_3
            try clear hfz17_4
            try clear hfz21_0
            try clear hfz21_1
            try clear hfz21_2
            try clear hfz26_0
            try clear hfz26_1
            try clear hfz26_2
            try clear hfz29_0
            try clear hfz29_1
            try clear hfz29_2
            try clear hfz29_3
            try clear hfz29_4
            try clear hfz32_0
            try clear hfz32_1
            try clear hfz32_2
            try clear hfz39_0
            try clear hfz39_1
            try clear hfz39_2
            try clear hfz39_3
            try clear hfz39_4
            try clear hfz42_0
            try clear hfz42_1
            try clear hfz42_2
            try clear hfz42_3
            try clear hfz42_4
            try clear hfz45_0
            try clear hfz45_1
            try clear hfz45_2
            try clear hfz45_3
            try clear hfz45_4
            try clear hx228_0
            try clear hx228_1
            try clear hx228_2
            try clear hx228_3
            try clear hx228_4
            try clear p2
            try clear p22
            try clear p228
            try clear q2
            try clear q22
            try clear q228
            obtain ⟨kq, x54_33, rfl, HA, HJ33, HO_6, HO_16, HO_224001, BK222, BK223, BK229, HB⟩ := hcut
            cases kq with
            | zero => exact absurd HA.out (by simp [journal_Read.j2])
            | succ kj33 =>
             have H := HA.out
             clear HA
             simp only [journal_Read.j2] at H
             by_cases c46 : x54_33 = true
             ·subst c46
              have H1 : (journal_Read.j4 kj33 x224000_1 x224001_1 x224002_1) = some (r1, r2, r3, r4) := by rw [if_pos rfl] at H; exact H
              clear H
              have H := H1
              clear H1
              have H' := Ax.mk H
              clear H
              go_wp2
              go_meet
              case rel => exact ⟨_, (x224000_1), (x224001_1), (x224002_1), (u224001), H', ⟨by have := HK1.out; have := HJ12.out; have := HJ33.out; first | omega | exact Nat.le_refl _⟩, ⟨by apply Kd.N_to; exact Kd.N_mono HO_224001.out (fun _ hk => ⟨hk.1, ⟨hk.2.2.2.1, hk.2.2.2.2.1⟩⟩)⟩, ⟨by refine bT ?_; exact BK222.out⟩, ⟨by refine bT ?_; exact BK223.out⟩, ⟨bA⟩⟩
             ·replace c46 := Bool.eq_false_iff.mpr c46
              subst c46
              have H1 : (if 0 ≤ x5_1 then (if x5_1 ≤ x18_1 then (if x18_1 ≤ (t224.length : Int) then ((journal_Log_with.f kj33 x224000_1 x224001_1 x224002_1 ((rd_T24 t224 x18_1).f3) ((t224.take (x18_1 : Int).toNat).drop (x5_1 : Int).toNat)).bind fun bt234 => (journal_Read.j3 kj33 (wrap64 (x18_1 + 1)) t224 t224 (t224.length : Int) x18_1 bt234.1 bt234.2.1 bt234.2.2.1)) else (none)) else (none)) else (none)) = some (r1, r2, r3, r4) := by rw [if_neg (show ¬ (false = true) by decide)] at H; exact H
              clear H
              have H := H1
              clear H1
              by_cases c47 : 0 ≤ x5_1
              ·rw [if_pos c47] at H
               have c47b0 := eq_true c47
               have c47b1 : decide (0 ≤ x5_1) = true := decide_eq_true c47
               clear c47
               by_cases c48 : x5_1 ≤ x18_1
               ·rw [if_pos c48] at H
                have c48b0 := eq_true c48
                have c48b1 : decide (x5_1 ≤ x18_1) = true := decide_eq_true c48
                clear c48
                by_cases c49 : x18_1 ≤ (t224.length : Int)
                ·rw [if_pos c49] at H
                 have c49b0 := eq_true c49
                 have c49b1 : decide (x18_1 ≤ (t224.length : Int)) = true := decide_eq_true c49
                 clear c49
                 obtain ⟨y230, hy230⟩ : ∃ y_ : List (S24), y_ = ((t224.take (x18_1 : Int).toNat).drop (x5_1 : Int).toNat) := ⟨_, rfl⟩
                 replace H : ((journal_Log_with.f kj33 x224000_1 x224001_1 x224002_1 ((rd_T24 t224 x18_1).f3) y230).bind fun bt234 => (journal_Read.j3 kj33 (wrap64 (x18_1 + 1)) t224 t224 (t224.length : Int) x18_1 bt234.1 bt234.2.1 bt234.2.2.1)) = some (r1, r2, r3, r4) := by first | (rw [hy230]; with_reducible exact H) | (have H2_ := (Option.bind_some _ _).symm.trans H; rw [hy230]; with_reducible exact H2_) | (have H2_ := (Option.bind_some _ _).symm.trans H; with_reducible exact H2_) | with_reducible exact H | (rw [hy230]; exact H) | exact H
                 have Ny230 := Ax.mk hy230
                 clear hy230
                 replace H := Option.bind_eq_some_iff.mp H
                 obtain ⟨⟨t234, t235, t238, t239⟩, A500, H⟩ := H
                 replace H : (journal_Read.j3 kj33 (wrap64 (x18_1 + 1)) t224 t224 (t224.length : Int) x18_1 t234 t235 t238) = some (r1, r2, r3, r4) := H
                 have A50 := Ax.mk A500
                 clear A500
                 have H' := Ax.mk H
                 clear H
                 try go_wp2
                 have n0_ := Ax.mk (Kd.R_drew HO_6.out)
                 have n1_ := Ax.mk (Kd.R_drew HO_16.out)
                 have n2_ := Ax.mk (Kd.N_drew HO_224001.out)
                 have n3_ := Ax.mk (blk_drew BK222.out)
                 have n4_ := Ax.mk (blk_drew BK223.out)
                 have n5_ := Ax.mk (blk_drew BK229.out)
                 have n6_ := Ax.mk (below_drew1 HB.out)
                 clear HO_6
                 clear HO_16
                 clear HO_224001
                 clear BK222
                 clear BK223
                 clear BK229
                 clear HB
                 have HO_6 := n0_
                 have HO_16 := n1_
                 have HO_224001 := n2_
                 have BK222 := n3_
                 have BK223 := n4_
                 have BK229 := n5_
                 have HB := n6_
                 clear n0_ n1_ n2_ n3_ n4_ n5_ n6_
                 have q52 : (x18_1 : Int) ≤ ((t224.length : Int) : Int) := ofD
                 obtain ⟨i052, hi052, _, hsz52, _⟩ := info_parts info24
                 have hroom52 : t224.length ≤ co7 := (Kd.R_reads' HO_6.out).2.1
                 have hC52 : Kd.C k24 _ (some ad228) t224.length t224 := (Kd.R_reads' HO_6.out).2.2
                 have ql52 : (x5_1 : Int) ≤ (x18_1 : Int) := ofD
                 have q052 : (0 : Int) ≤ (x5_1 : Int) := ofD
                 have hcut52 := cut_mid (P := Tryd.prog) 29 24 .i64 .i64 Tryd.underlying29 hi052 5 hsz52 (some ad228) t224.length co7 x5_1 x18_1 q052 ql52 q52 hroom52
                 have hr52 := Kd.C_mid (lo := (x5_1 : Int).toNat) (hi := (x18_1 : Int).toNat) (c := co7) hC52 (by omega) (by omega) hroom52
                 obtain ⟨A52, hA52⟩ : ∃ A1, A1 = (if co7 = (x5_1 : Int).toNat then (some ad228) else ((some ad228) : Option Addr).map (·.add ((x5_1 : Int).toNat * 5))) := ⟨_, rfl⟩
                 obtain ⟨c52, hc52⟩ : ∃ c1, c1 = co7 - (x5_1 : Int).toNat := ⟨_, rfl⟩
                 have hy52 : y230.length = (x18_1 : Int).toNat - (x5_1 : Int).toNat := (by rw [Ny230.out, List.length_drop, List.length_take] <;> omega)
                 rw [show ((t224).take (x18_1 : Int).toNat).drop (x5_1 : Int).toNat = y230 from Ny230.out.symm] at hr52
                 replace hr52 : Kd.C k24 _ A52 y230.length y230 := (by rw [hA52]; exact hr52)
                 rw [← hy52, ← hA52, ← hc52] at hcut52
                 have HR233 := Ax.mk hr52
                 have HC233 := Ax.mk (show y230.length ≤ c52 from by rw [hy52, hc52]; exact Nat.sub_le_sub_right (Nat.le_trans (by omega) hroom52) _)
                 clear hr52 hC52 hroom52 hi052 hsz52
                 have KC52 := Ax.mk hc52
                 clear hc52
                 have KY52 := Ax.mk hy52
                 have KA52 := Ax.mk hA52
                 clear hy52 hA52
                 have KL52 := Ax.mk (show (x18_1 : Int).toNat ≤ t224.length from by omega)
                 have KM52 := Ax.mk (show (x5_1 : Int).toNat ≤ (x18_1 : Int).toNat from by omega)
                 replace q52 := eq_true q52
                 obtain ⟨Ao53, co53, eo53⟩ := Kd.N_slice HO_224001.out
                 (first | subst eo53 | (injection eo53 with f1_ f2_ f3_; have f4_ := f1_.symm; have f5_ := f3_.symm; clear f1_ f2_ f3_; subst f4_; subst f5_))
                 refine start_ (n := 13) (S := fun w' => w'.cell? ⟨gb223, 0, none⟩ = some (.int .u64 x224000_1) ∧ w'.cell? ⟨gb223, 1, none⟩ = some (.slice Ao53 x224001_1.length co53) ∧ w'.cell? ⟨gb223, 2, none⟩ = some (.string x224002_1) ∧ w'.cell? ⟨gb229, 0, none⟩ = some (.int .i64 ((rd_T24 t224 x18_1).f0)) ∧ w'.cell? ⟨gb229, 1, none⟩ = some (.int .i64 ((rd_T24 t224 x18_1).f1)) ∧ w'.cell? ⟨gb229, 2, none⟩ = some (.int .i64 ((rd_T24 t224 x18_1).f2)) ∧ w'.cell? ⟨gb229, 3, none⟩ = some (.int .u64 ((rd_T24 t224 x18_1).f3)) ∧ w'.cell? ⟨gb229, 4, none⟩ = some (.string ((rd_T24 t224 x18_1).f4))) (ds := [12]) (TF 0 13) (by kernel_rfl) rfl rfl ⟨(bC BK223.out 0).trans rfl, (bC BK223.out 1).trans rfl, (bC BK223.out 2).trans rfl, (bC BK229.out 0).trans rfl, (bC BK229.out 1).trans rfl, (bC BK229.out 2).trans rfl, (bC BK229.out 3).trans rfl, (bC BK229.out 4).trans rfl⟩ (fun hHeld => ?_); refine with_tabW journal_Read.tab10 journal_Read.bits10 (fun HT_ HW_ => ?_)
                 generalize wc.drew = w51 at HO_6 HO_16 HO_224001 BK222 BK223 BK229 HB HR233 hHeld ⊢
                 refine pure_ (i := 1) (N := some 57) (v := ?_) (a' := ?_) (BT 13 2) rfl rfl (any_of HT_.out (by kernel_rfl)) (fun _ _ _ h => h) (Or.inl ⟨by rfl, ?_⟩) ?_ ?_
                 rotate_left; · intro w'; go_simp; with_reducible rfl
                 rotate_left; · simp only [Act.put, sI, sZ, sS, i64_w, i32_w]; rfl
                 refine pure_ (i := 3) (N := some 59) (v := ?_) (a' := ?_) (BT 13 10) rfl rfl (any_of HT_.out (by kernel_rfl)) (fun _ _ _ h => h) (Or.inl ⟨by rfl, ?_⟩) ?_ ?_
                 rotate_left; · intro w'; go_simp; with_reducible rfl
                 rotate_left; · simp only [Act.put, sI, sZ, sS, i64_w, i32_w]; rfl
                 refine pure_ (i := 4) (N := some 60) (v := ?_) (a' := ?_) (BT 13 26) rfl rfl (any_of HT_.out (by kernel_rfl)) (fun _ _ _ h => h) (Or.inl ⟨by rfl, ?_⟩) ?_ ?_
                 rotate_left; · intro w'; go_simp; with_reducible rfl
                 rotate_left; · simp only [Act.put, sI, sZ, sS, i64_w, i32_w]; rfl
                 refine pure_ (i := 5) (N := some 61) (v := ?_) (a' := ?_) (BT 13 58) rfl rfl (any_of HT_.out (by kernel_rfl)) (fun _ _ _ h => h) (Or.inl ⟨by rfl, ?_⟩) ?_ ?_
                 rotate_left; · intro w'; go_simp; with_reducible rfl
                 rotate_left; · simp only [Act.put, sI, sZ, sS, i64_w, i32_w]; rfl
                 refine pure_ (i := 6) (N := some 62) (v := ?_) (a' := ?_) (BT 13 122) rfl rfl (any_of HT_.out (by kernel_rfl)) (fun _ _ _ h => h) (Or.inl ⟨by rfl, ?_⟩) ?_ ?_
                 rotate_left; · intro w'; go_simp; with_reducible rfl
                 rotate_left; · simp only [Act.put, sI, sZ, sS, i64_w, i32_w]; rfl
                 refine take_ (i := 0) (N := some 56) (v := ?_) (a' := ?_) (BT 13 123) rfl rfl (take_ofW HT_.out HW_.out (by kernel_rfl)) (fun _ _ _ h => h) (Or.inl ⟨by rfl, ?_⟩) hHeld ?_ ?_
                 rotate_left
                 ·rintro w' ⟨s0, s1, s2, s3, s4, s5, s6, s7⟩
                  go_simp
                  with_reducible rfl
                 rotate_left
                 ·simp only [Act.put, sI, sZ, sS, i64_w, i32_w]
                  rfl
                 refine take_ (i := 2) (N := some 58) (v := ?_) (a' := ?_) (TF 7 6) rfl rfl (take_ofW HT_.out HW_.out (by kernel_rfl)) (fun _ _ _ h => h) (Or.inl ⟨by rfl, ?_⟩) hHeld ?_ ?_
                 rotate_left
                 ·rintro w' ⟨s0, s1, s2, s3, s4, s5, s6, s7⟩
                  go_simp
                  with_reducible rfl
                 rotate_left
                 ·simp only [Act.put, sI, sZ, sS, i64_w, i32_w]
                  rfl
                 refine pure_ (i := 7) (N := some 63) (v := ?_) (a' := ?_) (TF 8 5) rfl rfl (any_of HT_.out (by kernel_rfl)) (fun _ _ _ h => h) (Or.inl ⟨by rfl, ?_⟩) ?_ ?_
                 rotate_left; · intro w'; go_simp; with_reducible rfl
                 rotate_left; · simp only [Act.put, sI, sZ, sS, i64_w, i32_w]; rfl
                 refine one_ (i := 8) (N := some 64) (TF 9 4) rfl rfl (one_of HT_.out (by kernel_rfl)) (by decide) (fun K hK => ?_)
                 refine goes_ Tryd.func62 (by kernel_rfl) rfl #[.agg #[.int .u64 x224000_1, .slice Ao53 x224001_1.length co53, .string x224002_1], .agg #[.int .u64 ((rd_T24 t224 x18_1).f3), .slice A52 y230.length c52]] (by rfl) rfl rfl (by (try simp only [List.map_toArray, List.map_cons, List.map_nil]); first | done | rfl | (simp only [List.length_drop, List.length_take]; rfl) | (rw [wrap_sum2 (by assumption)]; rfl) | (rw [KA52.out, KY52.out, KC52.out]; rfl)) ?_
                 with_reducible refine (journal_Log_with.calls kj33 x224000_1 (fun k_ => ((w.heap.size ≤ k_) ∧ (some k_ ≠ (.slice (some ad228) t224.length co7 : Value).ownBlock ∧ (some k_ ≠ (.slice (some ad228) t224.length co7 : Value).ownBlock ∧ (k_ ≠ gb222 ∧ (k_ ≠ gb223 ∧ k_ ≠ gb229)))))) _ _ x224001_1 x224002_1 ((rd_T24 t224 x18_1).f3) _ _ y230 t234 t235 t238 t239 _ ?side1 ?side2 ?side3 A50.out (HT.below bA)).mono ?_
                 (case side1 => exact Kd.N_V (HO_224001.out))
                 (case side2 => repeat (first | exact (by repeat (first | (with_reducible exact HR233.out) | (with_reducible refine Kd.C_alloc ?_ _) | (with_reducible refine Kd.C_drewN ?_ _) | (with_reducible refine Kd.C_drew ?_) | exact HR233.out)) | (with_reducible refine Kd.C_alloc ?_ _) | (with_reducible refine Kd.C_drewN ?_ _) | (with_reducible refine Kd.C_drew ?_)))
                 (case side3 => exact HC233.out)
                 rintro e w54 ⟨v236, rfl, ho0, hb⟩
                 refine ⟨_, rfl, ?_⟩
                 have n0_ := Ax.mk (Kd.R_below (by exact Kd.R_to HO_6.out) hb)
                 have n1_ := Ax.mk (Kd.R_below (by exact Kd.R_to HO_16.out) hb)
                 have n2_ := Ax.mk (Kd.N_elder' (by exact Kd.N_to HO_224001.out) (Kd.N_base ho0) hb)
                 have n3_ := Ax.mk (Kd.N_lower (Kd.N_mono (ok' := fun k_ => (w.heap.size ≤ k_) ∧ some k_ ≠ (.slice (some ad228) t224.length co7 : Value).ownBlock ∧ some k_ ≠ (.slice (some ad228) t224.length co7 : Value).ownBlock ∧ k_ ≠ gb222 ∧ k_ ≠ gb223 ∧ k_ ≠ gb229) ho0 (fun k_ hk_ => ⟨Or.elim hk_ (fun hs_ => hs_.1) (fun hn_ => (Nat.le_trans (bS bA) hn_)), Or.elim hk_ (fun hs_ => hs_.2.1) (fun hn_ => (Kd.fresh' (Kd.R_lt (by exact Kd.R_to HO_6.out)) k_ hn_)), Or.elim hk_ (fun hs_ => hs_.2.2.1) (fun hn_ => (Kd.fresh' (Kd.R_lt (by exact Kd.R_to HO_16.out)) k_ hn_)), Or.elim hk_ (fun hs_ => hs_.2.2.2.1) (fun hn_ => (Kd.freshB (g := gb222) (o := .cells #[.int .u64 0, .slice none 0 0, .string (⟨#[]⟩ : ByteArray)] 66 (0, 0)) (bT BK222.out) k_ hn_)), Or.elim hk_ (fun hs_ => hs_.2.2.2.2.1) (fun hn_ => (Kd.freshB (g := gb223) (o := .cells #[.int .u64 x224000_1, .slice Ao53 x224001_1.length co53, .string x224002_1] 66 (0, 0)) (bT BK223.out) k_ hn_)), Or.elim hk_ (fun hs_ => hs_.2.2.2.2.2) (fun hn_ => (Kd.freshB (g := gb229) (o := .cells #[.int .i64 ((rd_T24 t224 x18_1).f0), .int .i64 ((rd_T24 t224 x18_1).f1), .int .i64 ((rd_T24 t224 x18_1).f2), .int .u64 ((rd_T24 t224 x18_1).f3), .string ((rd_T24 t224 x18_1).f4)] 24 (0, 0)) (bT BK229.out) k_ hn_))⟩)) (bS bA))
                 have n4_ := Ax.mk (bB (bT BK222.out) hb)
                 have n5_ := Ax.mk (bB (bT BK223.out) hb)
                 have n6_ := Ax.mk (bB (bT BK229.out) hb)
                 have n7_ := Ax.mk (Kd.C_below (by repeat (first | (with_reducible exact HR233.out) | (with_reducible refine Kd.C_alloc ?_ _) | (with_reducible refine Kd.C_drewN ?_ _) | (with_reducible refine Kd.C_drew ?_) | exact HR233.out)) hb)
                 have n8_ := Ax.mk (bP bA hb)
                 clear HO_6
                 clear HO_16
                 clear HO_224001
                 clear BK222
                 clear BK223
                 clear BK229
                 clear HR233
                 clear HB
                 have HO_6 := n0_
                 have HO_16 := n1_
                 have HO_224001 := n2_
                 have HO237 := n3_
                 have BK222 := n4_
                 have BK223 := n5_
                 have BK229 := n6_
                 have HR233 := n7_
                 have HB := n8_
                 clear n0_ n1_ n2_ n3_ n4_ n5_ n6_ n7_ n8_
                 (try clear hb)
                 (try clear hb2)
                 (try clear hk)
                 (try clear hi)
                 (try clear ho0)
                 obtain ⟨Ao56, co56, eo56⟩ := Kd.N_slice HO237.out
                 (first | subst eo56 | (injection eo56 with f1_ f2_ f3_; have f4_ := f1_.symm; have f5_ := f3_.symm; clear f1_ f2_ f3_; subst f4_; subst f5_))
                 refine hK.out _ _ ⟨(bC BK223.out 0).trans rfl, (bC BK223.out 1).trans rfl, (bC BK223.out 2).trans rfl, (bC BK229.out 0).trans rfl, (bC BK229.out 1).trans rfl, (bC BK229.out 2).trans rfl, (bC BK229.out 3).trans rfl, (bC BK229.out 4).trans rfl⟩ (fun hHeld => ?_)
                 clear hK K
                 refine norm_ (a' := ?_) ?_ ?_
                 rotate_left
                 ·show Act.put _ (some 64) _ = _
                  simp only [Act.put, sI, sZ, sS, i64_w, i32_w]
                  rfl
                 refine pure_ (i := 9) (N := some 55) (v := ?_) (a' := ?_) (TF 10 3) rfl rfl (any_of HT_.out (by kernel_rfl)) (fun _ _ _ h => h) (Or.inl ⟨by rfl, ?_⟩) ?_ ?_
                 rotate_left; · intro w'; go_simp; with_reducible rfl
                 rotate_left; · simp only [Act.put, sI, sZ, sS, i64_w, i32_w]; rfl
                 refine pure_ (i := 10) (N := some 65) (v := ?_) (a' := ?_) (TF 11 2) rfl rfl (any_of HT_.out (by kernel_rfl)) (fun _ _ _ h => h) (Or.inl ⟨by rfl, ?_⟩) ?_ ?_
                 rotate_left; · intro w'; go_simp; with_reducible rfl
                 rotate_left; · simp only [Act.put, sI, sZ, sS, i64_w, i32_w]; rfl
                 refine pure_ (i := 11) (N := some 66) (v := ?_) (a' := ?_) (TF 12 1) rfl rfl (any_of HT_.out (by kernel_rfl)) (fun _ _ _ h => h) (Or.inl ⟨by rfl, ?_⟩) ?_ ?_
                 rotate_left; · intro w'; go_simp; with_reducible rfl
                 rotate_left; · simp only [Act.put, sI, sZ, sS, i64_w, i32_w]; rfl
                 refine last_ (i := 12) (N := none) (TF 13 0) rfl rfl (one_of HT_.out (by kernel_rfl)) (by decide) (fun K hK => ?_)
                 have hs55 : w54.cell? ⟨gb223, 0, none⟩ = some (.int .u64 x224000_1) := (bC BK223.out 0).trans rfl
                 have hfs55 := bF BK223.out 0
                 have hns55_0 := NB222_223.out
                 have hns55_2 := NB229_223.out
                 have hms55_0 := NB223_222.out
                 have hms55_2 := NB223_229.out
                 have hs57 : w54.cell? ⟨gb223, 1, none⟩ = some (.slice Ao53 x224001_1.length co53) := (bC BK223.out 1).trans rfl
                 have hfs57 := bF BK223.out 1
                 have hns57_0 := NB222_223.out
                 have hns57_2 := NB229_223.out
                 have hms57_0 := NB223_222.out
                 have hms57_2 := NB223_229.out
                 have hs58 : w54.cell? ⟨gb223, 2, none⟩ = some (.string x224002_1) := (bC BK223.out 2).trans rfl
                 have hfs58 := bF BK223.out 2
                 have hns58_0 := NB222_223.out
                 have hns58_2 := NB229_223.out
                 have hms58_0 := NB223_222.out
                 have hms58_2 := NB223_229.out
                 refine skip_ (w1 := ?_) (by rfl) rfl ?_ ?_
                 rotate_left
                 ·go_simp
                  rfl
                 refine hK.out _ _ ?_
                 clear hK K
                 refine done_ (done_of HT_.out (by kernel_rfl)) ?_
                 try go_wp2
                 go_meet
                 case rel => exact ⟨_, (wrap64 (x18_1 + 1)), (t234), (t235), (t238), (.slice Ao56 t235.length co56), (by first | rfl | (simp; done) | (simp [*]; done)), H', ⟨by have := HK1.out; have := HJ12.out; have := HJ33.out; first | omega | exact Nat.le_refl _⟩, ⟨by apply Kd.R_to; exact Kd.R_mono (Kd.R_far (p := ⟨gb223, 2, none⟩) (Kd.R_far (p := ⟨gb223, 1, none⟩) (Kd.R_far (p := ⟨gb223, 0, none⟩) (Kd.R_types HO_6.out BK223.out (by decide)) (fun _ hk => hk.2) (.int .u64 t234)) (fun _ hk => hk.2) (.slice Ao56 t235.length co56)) (fun _ hk => hk.2) (.string t238)) (fun _ hk => hk.1.1)⟩, ⟨by apply Kd.R_to; exact Kd.R_mono (Kd.R_far (p := ⟨gb223, 2, none⟩) (Kd.R_far (p := ⟨gb223, 1, none⟩) (Kd.R_far (p := ⟨gb223, 0, none⟩) (Kd.R_types HO_16.out BK223.out (by decide)) (fun _ hk => hk.2) (.int .u64 t234)) (fun _ hk => hk.2) (.slice Ao56 t235.length co56)) (fun _ hk => hk.2) (.string t238)) (fun _ hk => hk.1.1)⟩, ⟨by apply Kd.N_to; exact Kd.N_mono (Kd.N_far (p := ⟨gb223, 2, none⟩) (Kd.N_far (p := ⟨gb223, 1, none⟩) (Kd.N_far (p := ⟨gb223, 0, none⟩) (Kd.N_mono HO237.out (fun k_ hk => (⟨hk, hk.2.2.2.2.1⟩ : _ ∧ k_ ≠ gb223))) (fun _ hk => hk.2) (.int .u64 t234)) (fun _ hk => hk.2) (.slice Ao56 t235.length co56)) (fun _ hk => hk.2) (.string t238)) (fun _ hk => ⟨hk.1.1, ⟨hk.1.2.1, ⟨hk.1.2.2.1, ⟨hk.1.2.2.2.1, hk.1.2.2.2.2.1⟩⟩⟩⟩)⟩, ⟨by refine bT ?_; refine bR ?_ NB222_223.out _; refine bT ?_; refine bR ?_ NB222_223.out _; refine bT ?_; refine bR ?_ NB222_223.out _; refine bT ?_; exact BK222.out⟩, ⟨by refine bT ?_; refine bU (cs := #[.int .u64 t234, .slice Ao56 t235.length co56, .string x224002_1]) ?_ 2 _ rfl; refine bT ?_; refine bU (cs := #[.int .u64 t234, .slice Ao53 x224001_1.length co53, .string x224002_1]) ?_ 1 _ rfl; refine bT ?_; refine bU (cs := #[.int .u64 x224000_1, .slice Ao53 x224001_1.length co53, .string x224002_1]) ?_ 0 _ rfl; refine bT ?_; exact BK223.out⟩, ⟨bA⟩⟩
                ·rw [if_neg c49] at H
                 exact absurd H (by simp)
               ·rw [if_neg c48] at H
                exact absurd H (by simp)
              ·rw [if_neg c47] at H
               exact absurd H (by simp)
        ·rw [if_neg c12] at H
         have c12b0 : (((rd_T24 t224 x18_1).f0) == 8) = false := beq_eq_false_iff_ne.mpr c12
         have c12b1 : (((rd_T24 t224 x18_1).f0) != 8) = true := bne_iff_ne.mpr c12
         have H' := Ax.mk H
         clear H
         have p228 : 0 ≤ (x18_1 : Int) := ofD
         have q228 : x18_1 < (t224.length : Int) := ofD
         obtain ⟨ad228, e228, hx228_0, hx228_1, hx228_2, hx228_3, hx228_4⟩ := at_T24 (Kd.R_reads' HO_16.out).2.2 x18_1 p228 q228
         cases e228
         replace p228 := eq_true p228
         replace q228 := eq_true q228
         go_wp2_with (first | ((with_reducible refine gate_dst (N := 9) rfl ?_); refine box_event ?hg (N := 9) ?hd (cs := #[.int .i64 0, .int .i64 0, .int .i64 0, .int .u64 0, .string (⟨#[]⟩ : ByteArray)]) (t := 24) ?hr ?_; (case hd => rfl); (case hg => rfl); (case hr => first | (go_simp; done) | (go_simp; rfl)); intro gb229 hg w59 hbox hb; have n0_ := Ax.mk (Kd.R_below (Kd.R_elderB (by exact Kd.R_to HO_6.out) gb229 (Nat.le_of_eq hg.symm)) hb); have n1_ := Ax.mk (Kd.R_below (Kd.R_elderB (by exact Kd.R_to HO_16.out) gb229 (Nat.le_of_eq hg.symm)) hb); have n2_ := Ax.mk (Kd.N_below (Kd.N_elderB (by exact Kd.N_to HO_224001.out) gb229 (Nat.le_of_eq hg.symm)) hb); have n3_ := Ax.mk (bB (bT BK222.out) hb); have n4_ := Ax.mk (bB (bT BK223.out) hb); have n5_ := Ax.mk (bP bA hb); have n6_ := Ax.mk (hbox); have n7_ := Ax.mk ((ge_new hg : w.heap.size ≤ gb229)); have n8_ := n7_; have n9_ := Ax.mk ((ne_lt hg BK222.out : gb222 ≠ gb229)); have n10_ := Ax.mk ((ne_gt hg BK222.out : gb229 ≠ gb222)); have n11_ := Ax.mk ((ne_lt hg BK223.out : gb223 ≠ gb229)); have n12_ := Ax.mk ((ne_gt hg BK223.out : gb229 ≠ gb223)); clear HO_6; clear HO_16; clear HO_224001; clear BK222; clear BK223; clear HB; have HO_6 := n0_; have HO_16 := n1_; have HO_224001 := n2_; have BK222 := n3_; have BK223 := n4_; have HB := n5_; have BK229 := n6_; have GW229 := n7_; have GE229 := n8_; have NB222_229 := n9_; have NB229_222 := n10_; have NB223_229 := n11_; have NB229_223 := n12_; clear n0_ n1_ n2_ n3_ n4_ n5_ n6_ n7_ n8_ n9_ n10_ n11_ n12_; clear hb hbox hg; have hnb60 := NB229_222.out; have hnc60 := NB222_229.out; have hnb61 := NB229_223.out; have hnc61 := NB223_229.out; have hcz62_0 : w59.cell? ⟨gb229, 0, none⟩ = some (.int .i64 0) := (bC BK229.out 0).trans rfl; have hcz62_1 : w59.cell? ⟨gb229, 1, none⟩ = some (.int .i64 0) := (bC BK229.out 1).trans rfl; have hcz62_2 : w59.cell? ⟨gb229, 2, none⟩ = some (.int .i64 0) := (bC BK229.out 2).trans rfl; have hcz62_3 : w59.cell? ⟨gb229, 3, none⟩ = some (.int .u64 0) := (bC BK229.out 3).trans rfl; have hcz62_4 : w59.cell? ⟨gb229, 4, none⟩ = some (.string (⟨#[]⟩ : ByteArray)) := (bC BK229.out 4).trans rfl; have hfz62_0 := bF BK229.out 0; have hfz62_1 := bF BK229.out 1; have hfz62_2 := bF BK229.out 2; have hfz62_3 := bF BK229.out 3; have hfz62_4 := bF BK229.out 4))
         go_meet
         case rel => exact ⟨_, (x5_1), (x224000_1), (x224001_1), (x224002_1), (u224001), (by first | rfl | (simp; done) | (simp [*]; done)), H', ⟨by have := HK1.out; first | omega | exact Nat.le_refl _⟩, ⟨by apply Kd.R_to; exact Kd.R_mono (Kd.R_far (p := ⟨gb229, 4, none⟩) (Kd.R_far (p := ⟨gb229, 3, none⟩) (Kd.R_far (p := ⟨gb229, 2, none⟩) (Kd.R_far (p := ⟨gb229, 1, none⟩) (Kd.R_far (p := ⟨gb229, 0, none⟩) (Kd.R_mono HO_6.out (fun k_ hk => (⟨hk, hk.2⟩ : _ ∧ k_ ≠ gb229))) (fun _ hk => hk.2) (.int .i64 ((rd_T24 t224 x18_1).f0))) (fun _ hk => hk.2) (.int .i64 ((rd_T24 t224 x18_1).f1))) (fun _ hk => hk.2) (.int .i64 ((rd_T24 t224 x18_1).f2))) (fun _ hk => hk.2) (.int .u64 ((rd_T24 t224 x18_1).f3))) (fun _ hk => hk.2) (.string ((rd_T24 t224 x18_1).f4))) (fun _ hk => hk.1.1)⟩, ⟨by apply Kd.R_to; exact Kd.R_mono (Kd.R_far (p := ⟨gb229, 4, none⟩) (Kd.R_far (p := ⟨gb229, 3, none⟩) (Kd.R_far (p := ⟨gb229, 2, none⟩) (Kd.R_far (p := ⟨gb229, 1, none⟩) (Kd.R_far (p := ⟨gb229, 0, none⟩) (Kd.R_mono HO_16.out (fun k_ hk => (⟨hk, hk.2⟩ : _ ∧ k_ ≠ gb229))) (fun _ hk => hk.2) (.int .i64 ((rd_T24 t224 x18_1).f0))) (fun _ hk => hk.2) (.int .i64 ((rd_T24 t224 x18_1).f1))) (fun _ hk => hk.2) (.int .i64 ((rd_T24 t224 x18_1).f2))) (fun _ hk => hk.2) (.int .u64 ((rd_T24 t224 x18_1).f3))) (fun _ hk => hk.2) (.string ((rd_T24 t224 x18_1).f4))) (fun _ hk => hk.1.1)⟩, ⟨by apply Kd.N_to; exact Kd.N_mono (Kd.N_far (p := ⟨gb229, 4, none⟩) (Kd.N_far (p := ⟨gb229, 3, none⟩) (Kd.N_far (p := ⟨gb229, 2, none⟩) (Kd.N_far (p := ⟨gb229, 1, none⟩) (Kd.N_far (p := ⟨gb229, 0, none⟩) (Kd.N_mono HO_224001.out (fun k_ hk => (⟨hk, hk.2⟩ : _ ∧ k_ ≠ gb229))) (fun _ hk => hk.2) (.int .i64 ((rd_T24 t224 x18_1).f0))) (fun _ hk => hk.2) (.int .i64 ((rd_T24 t224 x18_1).f1))) (fun _ hk => hk.2) (.int .i64 ((rd_T24 t224 x18_1).f2))) (fun _ hk => hk.2) (.int .u64 ((rd_T24 t224 x18_1).f3))) (fun _ hk => hk.2) (.string ((rd_T24 t224 x18_1).f4))) (fun _ hk => ⟨hk.1.1.1, ⟨hk.1.1.2.1, ⟨hk.1.1.2.2.1, ⟨hk.1.1.2.2.2.1, hk.1.1.2.2.2.2⟩⟩⟩⟩)⟩, ⟨by refine bT ?_; refine bR ?_ NB222_229.out _; refine bT ?_; refine bR ?_ NB222_229.out _; refine bT ?_; refine bR ?_ NB222_229.out _; refine bT ?_; refine bR ?_ NB222_229.out _; refine bT ?_; refine bR ?_ NB222_229.out _; refine bT ?_; exact BK222.out⟩, ⟨by refine bT ?_; refine bR ?_ NB223_229.out _; refine bT ?_; refine bR ?_ NB223_229.out _; refine bT ?_; refine bR ?_ NB223_229.out _; refine bT ?_; refine bR ?_ NB223_229.out _; refine bT ?_; refine bR ?_ NB223_229.out _; refine bT ?_; exact BK223.out⟩, ⟨bA⟩⟩
       ·rw [if_neg c11] at H
        exact absurd H (by simp)
      ·rw [if_neg c10] at H
       exact absurd H (by simp)
     case rest =>
      clear HC9
      try clear c1
      try clear c2
      try clear p2
      try clear q2
      try clear hx2
      try clear c3
      try clear c4
      try clear c5
      try clear q5
      try clear c6
      try clear p6
      try clear c8
      try clear c8b0
      try clear c10
      try clear c10b0
      try clear c11
      try clear c11b0
      try clear c12
      try clear c12b0
      try clear c12b1
      try clear c15
      try clear c16
      try clear c18
      try clear c18b0
      try clear c18b1
      try clear c18b2
      try clear c19
      try clear c20
      try clear p22
      try clear q22
      try clear hx22
      try clear c23
      try clear c23b0
      try clear c24
      try clear c25
      try clear c28
      try clear c29
      try clear c30
      try clear c31
      try clear c35
      try clear c35b0
      try clear c35b1
      try clear c36
      try clear c36b0
      try clear c36b1
      try clear c37
      try clear c38
      try clear c40
      try clear c41
      try clear c43
      try clear c44
      try clear c46
      try clear c47
      try clear c47b0
      try clear c47b1
      try clear c48
      try clear c48b0
      try clear c48b1
      try clear c49
      try clear c49b0
      try clear c49b1
      try clear c52
      try clear q52
      try clear c60
      try clear c61
      try clear c62
      try clear hcz17_0
      try clear hcz17_1
      try clear hcz17_2
      try clear hcz17_3
      try clear hcz17_4
      try clear hcz21_0
      try clear hcz21_1
      try clear hcz21_2
      try clear hcz26_0
      try clear hcz26_1
      try clear hcz26_2
      try clear hcz29_0
      try clear hcz29_1
      try clear hcz29_2
      try clear hcz29_3
      try clear hcz29_4
      try clear hcz32_0
      try clear hcz32_1
      try clear hcz32_2
      try clear hcz39_0
      try clear hcz39_1
      try clear hcz39_2
      try clear hcz39_3
      try clear hcz39_4
      try clear hcz42_0
      try clear hcz42_1
      try clear hcz42_2
      try clear hcz42_3
      try clear hcz42_4
      try clear hcz45_0
      try clear hcz45_1
      try clear hcz45_2
      try clear hcz45_3
      try clear hcz45_4
      try clear hcz62_0
      try clear hcz62_1
      try clear hcz62_2
      try clear hcz62_3
      try clear hcz62_4
      try clear hfz17_0
      try clear hfz17_1
      try clear hfz17_2
      try clear hfz17_3
      try clear hfz17_4
      try clear hfz21_0
      try clear hfz21_1
      try clear hfz21_2
      try clear hfz26_0
      try clear hfz26_1
      try clear hfz26_2
      try clear hfz29_0
      try clear hfz29_1
      try clear hfz29_2
      try clear hfz29_3
      try clear hfz29_4
      try clear hfz32_0
      try clear hfz32_1
      try clear hfz32_2
      try clear hfz39_0
      try clear hfz39_1
      try clear hfz39_2
      try clear hfz39_3
      try clear hfz39_4
      try clear hfz42_0
      try clear hfz42_1
      try clear hfz42_2
      try clear hfz42_3
      try clear hfz42_4
      try clear hfz45_0
      try clear hfz45_1
      try clear hfz45_2
      try clear hfz45_3
      try clear hfz45_4
      try clear hfz62_0
      try clear hfz62_1
      try clear hfz62_2
      try clear hfz62_3
      try clear hfz62_4
      try clear hx228_0
      try clear hx228_1
      try clear hx228_2
      try clear hx228_3
      try clear hx228_4
      try clear p2
      try clear p22
      try clear p228
      try clear q052
      try clear q2
      try clear q22
      try clear q228
      try clear q52
      obtain ⟨kq, x5_8, x224000_8, x224001_8, x224002_8, u224001, rfl, HA, HJ8, HO_6, HO_16, HO_224001, BK222, BK223, HB⟩ := hcut
      cases kq with
      | zero => exact absurd HA.out (by simp [journal_Read.j3])
      | succ kj8 =>
       have H := HA.out
       clear HA
       simp only [journal_Read.j3] at H
       have H' := Ax.mk H
       clear H
       go_wp2
       go_roundg kj8
       case measure => have := HK1.out; have := HJ8.out; omega
       case rel => exact ⟨(x5_8), (wrap64 (x18_1 + 1)), (x224000_8), (x224001_8), (x224002_8), (u224001), (by first | rfl | (simp; done) | (simp [*]; done)), (by first | rfl | (simp; done) | (simp [*]; done)), H', ⟨by have := HK1.out; have := HJ8.out; omega⟩, ⟨by apply Kd.R_to; exact HO_6.out⟩, ⟨by apply Kd.R_to; exact HO_16.out⟩, ⟨by apply Kd.N_to; exact HO_224001.out⟩, ⟨by refine bT ?_; exact BK222.out⟩, ⟨by refine bT ?_; exact BK223.out⟩, ⟨bA⟩⟩
    ·rw [if_neg c8] at H
     have c8b0 : decide (x18_1 < (t224.length : Int)) = false := decide_eq_false c8
     clear c8
     (first | rw [c8b0] | (simp only [i64_w, i32_w]; rw [c8b0]) | skip)
     have H' := Ax.mk H
     clear H
     go_wp2
     go_meet
     case rel => exact ⟨_, (x224000_1), (x224001_1), (x224002_1), (u224001), H', ⟨by have := HK1.out; first | omega | exact Nat.le_refl _⟩, ⟨by apply Kd.N_to; exact Kd.N_mono HO_224001.out (fun _ hk => ⟨hk.1, ⟨hk.2.2.2.1, hk.2.2.2.2⟩⟩)⟩, ⟨by refine bT ?_; exact BK222.out⟩, ⟨by refine bT ?_; exact BK223.out⟩, ⟨bA⟩⟩
 case rest =>
  clear HC3
  try clear c1
  try clear c2
  try clear p2
  try clear q2
  try clear hx2
  try clear c3
  try clear c4
  try clear c5
  try clear q5
  try clear c6
  try clear p6
  try clear c8
  try clear c8b0
  try clear c10
  try clear c10b0
  try clear c11
  try clear c11b0
  try clear c12
  try clear c12b0
  try clear c12b1
  try clear c15
  try clear c16
  try clear c18
  try clear c18b0
  try clear c18b1
  try clear c18b2
  try clear c19
  try clear c20
  try clear p22
  try clear q22
  try clear hx22
  try clear c23
  try clear c23b0
  try clear c24
  try clear c25
  try clear c28
  try clear c29
  try clear c30
  try clear c31
  try clear c35
  try clear c35b0
  try clear c35b1
  try clear c36
  try clear c36b0
  try clear c36b1
  try clear c37
  try clear c38
  try clear c40
  try clear c41
  try clear c43
  try clear c44
  try clear c46
  try clear c47
  try clear c47b0
  try clear c47b1
  try clear c48
  try clear c48b0
  try clear c48b1
  try clear c49
  try clear c49b0
  try clear c49b1
  try clear c52
  try clear q52
  try clear c60
  try clear c61
  try clear c62
  try clear hcz17_0
  try clear hcz17_1
  try clear hcz17_2
  try clear hcz17_3
  try clear hcz17_4
  try clear hcz21_0
  try clear hcz21_1
  try clear hcz21_2
  try clear hcz26_0
  try clear hcz26_1
  try clear hcz26_2
  try clear hcz29_0
  try clear hcz29_1
  try clear hcz29_2
  try clear hcz29_3
  try clear hcz29_4
  try clear hcz32_0
  try clear hcz32_1
  try clear hcz32_2
  try clear hcz39_0
  try clear hcz39_1
  try clear hcz39_2
  try clear hcz39_3
  try clear hcz39_4
  try clear hcz42_0
  try clear hcz42_1
  try clear hcz42_2
  try clear hcz42_3
  try clear hcz42_4
  try clear hcz45_0
  try clear hcz45_1
  try clear hcz45_2
  try clear hcz45_3
  try clear hcz45_4
  try clear hcz62_0
  try clear hcz62_1
  try clear hcz62_2
  try clear hcz62_3
  try clear hcz62_4
  try clear hfz17_0
  try clear hfz17_1
  try clear hfz17_2
  try clear hfz17_3
  try clear hfz17_4
  try clear hfz21_0
  try clear hfz21_1
  try clear hfz21_2
  try clear hfz26_0
  try clear hfz26_1
  try clear hfz26_2
  try clear hfz29_0
  try clear hfz29_1
  try clear hfz29_2
  try clear hfz29_3
  try clear hfz29_4
  try clear hfz32_0
  try clear hfz32_1
  try clear hfz32_2
  try clear hfz39_0
  try clear hfz39_1
  try clear hfz39_2
  try clear hfz39_3
  try clear hfz39_4
  try clear hfz42_0
  try clear hfz42_1
  try clear hfz42_2
  try clear hfz42_3
  try clear hfz42_4
  try clear hfz45_0
  try clear hfz45_1
  try clear hfz45_2
  try clear hfz45_3
  try clear hfz45_4
  try clear hfz62_0
  try clear hfz62_1
  try clear hfz62_2
  try clear hfz62_3
  try clear hfz62_4
  try clear hx228_0
  try clear hx228_1
  try clear hx228_2
  try clear hx228_3
  try clear hx228_4
  try clear p2
  try clear p22
  try clear p228
  try clear p6
  try clear q052
  try clear q2
  try clear q22
  try clear q228
  try clear q5
  try clear q52
  obtain ⟨kq, x224000_2, x224001_2, x224002_2, u224001, HA, HJ2, HO_224001, BK222, BK223, HB⟩ := hcut
  cases kq with
  | zero => exact absurd HA.out (by simp [journal_Read.j4])
  | succ kj2 =>
   have H := HA.out
   clear HA
   simp only [journal_Read.j4] at H
   simp only [Option.some.injEq, Prod.mk.injEq] at H
   obtain ⟨rfl, rfl, rfl, rfl⟩ := H
   try go_wp2
   have n0_ := Ax.mk (Kd.N_drew HO_224001.out)
   have n1_ := Ax.mk (blk_drew BK222.out)
   have n2_ := Ax.mk (blk_drew BK223.out)
   have n3_ := Ax.mk (below_drew1 HB.out)
   clear HO_224001
   clear BK222
   clear BK223
   clear HB
   have HO_224001 := n0_
   have BK222 := n1_
   have BK223 := n2_
   have HB := n3_
   clear n0_ n1_ n2_ n3_
   obtain ⟨Ao65, co65, eo65⟩ := Kd.N_slice HO_224001.out
   (first | subst eo65 | (injection eo65 with f1_ f2_ f3_; have f4_ := f1_.symm; have f5_ := f3_.symm; clear f1_ f2_ f3_; subst f4_; subst f5_))
   refine start_ (n := 6) (S := fun w' => w'.cell? ⟨gb223, 0, none⟩ = some (.int .u64 x224000_2) ∧ w'.cell? ⟨gb223, 1, none⟩ = some (.slice Ao65 x224001_2.length co65) ∧ w'.cell? ⟨gb223, 2, none⟩ = some (.string x224002_2)) (ds := []) (TF 0 6) (by kernel_rfl) rfl rfl ⟨(bC BK223.out 0).trans rfl, (bC BK223.out 1).trans rfl, (bC BK223.out 2).trans rfl⟩ (fun hHeld => ?_)
   generalize wc.drew = w63 at HO_224001 BK222 BK223 HB hHeld ⊢
   refine pure_ (i := 1) (N := some 71) (v := ?_) (a' := ?_) (BT 6 2) rfl rfl (by kernel_rfl) (fun _ _ _ h => h) (Or.inl ⟨by rfl, ?_⟩) ?_ ?_
   rotate_left; · intro w'; go_simp; with_reducible rfl
   rotate_left; · simp only [Act.put, sI, sZ, sS, i64_w, i32_w]; rfl
   refine take_ (i := 0) (N := some 70) (v := ?_) (a' := ?_) (TF 2 4) rfl rfl (by kernel_rfl) (fun _ _ _ h => h) (Or.inl ⟨by rfl, ?_⟩) hHeld ?_ ?_
   rotate_left
   ·rintro w' ⟨s0, s1, s2⟩
    go_simp
    with_reducible rfl
   rotate_left
   ·simp only [Act.put, sI, sZ, sS, i64_w, i32_w]
    rfl
   refine take_ (i := 2) (N := some 72) (v := ?_) (a' := ?_) (TF 3 3) rfl rfl (by kernel_rfl) (fun _ _ _ h => h) (Or.inl ⟨by rfl, ?_⟩) hHeld ?_ ?_
   rotate_left
   ·rintro w' ⟨s0, s1, s2⟩
    go_simp
    with_reducible rfl
   rotate_left
   ·simp only [Act.put, sI, sZ, sS, i64_w, i32_w]
    rfl
   refine pure_ (i := 3) (N := some 73) (v := ?_) (a' := ?_) (TF 4 2) rfl rfl (by kernel_rfl) (fun _ _ _ h => h) (Or.inl ⟨by rfl, ?_⟩) ?_ ?_
   rotate_left; · intro w'; go_simp; with_reducible rfl
   rotate_left; · simp only [Act.put, sI, sZ, sS, i64_w, i32_w]; rfl
   refine one_ (i := 4) (N := none) (TF 5 1) rfl rfl (by kernel_rfl) (by decide) (fun K hK => ?_)
   have hs64 : w63.cell? ⟨gb222, 0, none⟩ = some (.int .u64 0) := (bC BK222.out 0).trans rfl
   have hfs64 := bF BK222.out 0
   have hns64_1 := NB223_222.out
   have hms64_1 := NB222_223.out
   have hs66 : w63.cell? ⟨gb222, 1, none⟩ = some (.slice none 0 0) := (bC BK222.out 1).trans rfl
   have hfs66 := bF BK222.out 1
   have hns66_1 := NB223_222.out
   have hms66_1 := NB222_223.out
   have hs67 : w63.cell? ⟨gb222, 2, none⟩ = some (.string (⟨#[]⟩ : ByteArray)) := (bC BK222.out 2).trans rfl
   have hfs67 := bF BK222.out 2
   have hns67_1 := NB223_222.out
   have hms67_1 := NB222_223.out
   refine skip_ (w1 := ?_) (by rfl) rfl ?_ ?_
   rotate_left
   ·go_simp
    rfl
   refine hK.out _ _ ⟨((cell_far (p := ⟨gb222, _, none⟩) NB223_222.out _).trans (((cell_far (p := ⟨gb222, _, none⟩) NB223_222.out _).trans (((cell_far (p := ⟨gb222, _, none⟩) NB223_222.out _).trans (hHeld.1)))))), ((cell_far (p := ⟨gb222, _, none⟩) NB223_222.out _).trans (((cell_far (p := ⟨gb222, _, none⟩) NB223_222.out _).trans (((cell_far (p := ⟨gb222, _, none⟩) NB223_222.out _).trans (hHeld.2.1)))))), ((cell_far (p := ⟨gb222, _, none⟩) NB223_222.out _).trans (((cell_far (p := ⟨gb222, _, none⟩) NB223_222.out _).trans (((cell_far (p := ⟨gb222, _, none⟩) NB223_222.out _).trans (hHeld.2.2))))))⟩ (fun hHeld => ?_)
   clear hK K
   refine pure_ (i := 5) (N := some 3) (v := ?_) (a' := ?_) (TF 6 0) rfl rfl (by kernel_rfl) (fun _ _ _ h => h) (Or.inl ⟨by rfl, ?_⟩) ?_ ?_
   rotate_left; · intro w'; go_simp; with_reducible rfl
   rotate_left; · simp only [Act.put, sI, sZ, sS, i64_w, i32_w]; rfl
   refine done_ (by kernel_rfl) ?_
   try go_wp2
   refine bodyPost_ret (results_ct rfl _ _ gb222 66 #[.int .u64 x224000_2, .slice Ao65 x224001_2.length co65, .string x224002_2] (0, 0) _ rfl (by refine bT ?_; refine bU (cs := #[.int .u64 x224000_2, .slice Ao65 x224001_2.length co65, .string (⟨#[]⟩ : ByteArray)]) ?_ 2 _ rfl; refine bT ?_; refine bU (cs := #[.int .u64 x224000_2, .slice none 0 0, .string (⟨#[]⟩ : ByteArray)]) ?_ 1 _ rfl; refine bT ?_; refine bU (cs := #[.int .u64 0, .slice none 0 0, .string (⟨#[]⟩ : ByteArray)]) ?_ 0 _ rfl; exact bT BK222.out) Tryd.underlying66 rfl (by kernel_rfl)) rfl ?_
   exact ⟨_, by first | rfl | (simp [errW_none, errW_some] <;> rfl) | (simp [*, errW_none, errW_some] <;> rfl), by apply Kd.N_to; exact Kd.N_mono (Kd.N_far (p := ⟨gb222, 2, none⟩) (Kd.N_far (p := ⟨gb222, 1, none⟩) (Kd.N_far (p := ⟨gb222, 0, none⟩) (Kd.N_mono HO_224001.out (fun k_ hk => (⟨hk, hk.2.1⟩ : _ ∧ k_ ≠ gb222))) (fun _ hk => hk.2) (.int .u64 x224000_2)) (fun _ hk => hk.2) (.slice Ao65 x224001_2.length co65)) (fun _ hk => hk.2) (.string x224002_2)) (fun _ hk => hk.1.1), bA⟩
mutual
def r13_Read.j3 : Nat → Int → List (S46) → ByteArray → Option (Int × (List (S46)) × ByteArray × Int)
 | 0, _, _, _ => none
 | k + 1, x302000, x302001, x302002 => some (x302000, x302001, x302002, (x302002.size : Int))
def r13_Read.l0 : Nat → List (S26) → List (S26) → Int → Int → List (S46) → ByteArray → Option (Int × (List (S46)) × ByteArray × Int)
 | 0, _, _, _, _, _, _ => none
 | k + 1, x4, x7, x8, x302000, x302001, x302002 => if x8 < (x4.length : Int) then (if 0 ≤ x8 then (if ((rd_T26 x4 x8).f0) = 8 then (if ((rd_T26 x4 x8).f1) = 0 then (if ((rd_T26 x4 x8).f2) = 0 then (if (x302001.length : Int) > 0 then (if x302000 = 18446744073709551615 then (r13_Read.j1 k x4 x7 x8 true x302000 x302001 x302002) else (r13_Read.j1 k x4 x7 x8 (((rd_T26 x4 x8).f3) != (IntKind.u64.wrap (x302000 + 1))) x302000 x302001 x302002)) else (r13_Read.j1 k x4 x7 x8 false x302000 x302001 x302002)) else (r13_Read.j1 k x4 x7 x8 true x302000 x302001 x302002)) else (r13_Read.j1 k x4 x7 x8 true x302000 x302001 x302002)) else (if x7.length < 2932031007402 then (r13_Read.j2 k x4 (x7 ++ [(⟨(rd_T26 x4 x8).f0, (rd_T26 x4 x8).f1, (rd_T26 x4 x8).f2, (rd_T26 x4 x8).f3, (rd_T26 x4 x8).f4⟩ : S26)]) x8 x302000 x302001 x302002) else (none))) else (none)) else (r13_Read.j3 k x302000 x302001 x302002)
def r13_Read.j2 : Nat → List (S26) → List (S26) → Int → Int → List (S46) → ByteArray → Option (Int × (List (S46)) × ByteArray × Int)
 | 0, _, _, _, _, _, _ => none
 | k + 1, x4, x7, x8, x302000, x302001, x302002 => r13_Read.l0 k x4 x7 (wrap64 (x8 + 1)) x302000 x302001 x302002
def r13_Read.j1 : Nat → List (S26) → List (S26) → Int → Bool → Int → List (S46) → ByteArray → Option (Int × (List (S46)) × ByteArray × Int)
 | 0, _, _, _, _, _, _, _ => none
 | k + 1, x4, x7, x8, x72, x302000, x302001, x302002 => if x72 = true then (r13_Read.j3 k x302000 x302001 x302002) else (if 0 ≤ x8 then (if x8 < (x4.length : Int) then ((r13_bytes.f k ((rd_T26 x4 x8).f3) x7).bind fun bt312 => (if x302001.length < 4398046511104 then (if x302002.size + bt312.1.size ≤ 9223372036854775807 then (r13_Read.j2 k x4 ([] : List (S26)) x8 ((rd_T26 x4 x8).f3) (x302001 ++ [(⟨(rd_T26 x4 x8).f3, x7⟩ : S46)]) (x302002 ++ bt312.1)) else (none)) else (none))) else (none)) else (none))
end
def r13_Read.f (k : Nat) (a0 : ByteArray) : Option (Int × (List (S46)) × ByteArray × Int) := (r12_Scan.f k a0).bind fun bt297 => (r13_Read.l0 k bt297.1 ([] : List (S26)) 0 0 ([] : List (S46)) (⟨#[]⟩ : ByteArray))
theorem r13_Read.mono_l : ∀ k, (∀ y0 y1 y2, LeO (r13_Read.j3 k y0 y1 y2) (r13_Read.j3 (k + 1) y0 y1 y2)) ∧ (∀ y0 y1 y2 y3 y4 y5, LeO (r13_Read.l0 k y0 y1 y2 y3 y4 y5) (r13_Read.l0 (k + 1) y0 y1 y2 y3 y4 y5)) ∧ (∀ y0 y1 y2 y3 y4 y5, LeO (r13_Read.j2 k y0 y1 y2 y3 y4 y5) (r13_Read.j2 (k + 1) y0 y1 y2 y3 y4 y5)) ∧ (∀ y0 y1 y2 y3 y4 y5 y6, LeO (r13_Read.j1 k y0 y1 y2 y3 y4 y5 y6) (r13_Read.j1 (k + 1) y0 y1 y2 y3 y4 y5 y6))
 | 0 => ⟨fun _ _ _ r h => by simp [r13_Read.j3] at h, fun _ _ _ _ _ _ r h => by simp [r13_Read.l0] at h, fun _ _ _ _ _ _ r h => by simp [r13_Read.j2] at h, fun _ _ _ _ _ _ _ r h => by simp [r13_Read.j1] at h⟩
 | k + 1 => by
  obtain ⟨ih0, ih1, ih2, ih3⟩ := r13_Read.mono_l k
  refine ⟨?_, ?_, ?_, ?_⟩
  ·intro y0 y1 y2
   unfold r13_Read.j3
   repeat' first
   | (with_reducible exact LeO.refl _)
   | (with_reducible exact LeO.none _)
   | (with_reducible refine LeO.ite ?_ ?_)
   | (with_reducible refine LeO.bind ?_ (fun _ => ?_))
   | exact LeO.none _
   | refine LeO.ite ?_ ?_
   | refine LeO.bind ?_ (fun _ => ?_)
  ·intro y0 y1 y2 y3 y4 y5
   unfold r13_Read.l0
   repeat' first
   | (with_reducible exact ih0 _ _ _)
   | (with_reducible exact ih2 _ _ _ _ _ _)
   | (with_reducible exact ih3 _ _ _ _ _ _ _)
   | (with_reducible exact LeO.refl _)
   | (with_reducible exact LeO.none _)
   | (with_reducible refine LeO.ite ?_ ?_)
   | (with_reducible refine LeO.bind ?_ (fun _ => ?_))
   | exact ih0 _ _ _
   | exact ih2 _ _ _ _ _ _
   | exact ih3 _ _ _ _ _ _ _
   | exact LeO.none _
   | refine LeO.ite ?_ ?_
   | refine LeO.bind ?_ (fun _ => ?_)
  ·intro y0 y1 y2 y3 y4 y5
   unfold r13_Read.j2
   repeat' first
   | (with_reducible exact ih1 _ _ _ _ _ _)
   | (with_reducible exact LeO.refl _)
   | (with_reducible exact LeO.none _)
   | (with_reducible refine LeO.ite ?_ ?_)
   | (with_reducible refine LeO.bind ?_ (fun _ => ?_))
   | exact ih1 _ _ _ _ _ _
   | exact LeO.none _
   | refine LeO.ite ?_ ?_
   | refine LeO.bind ?_ (fun _ => ?_)
  ·intro y0 y1 y2 y3 y4 y5 y6
   unfold r13_Read.j1
   repeat' first
   | (with_reducible exact ih0 _ _ _)
   | (with_reducible exact ih2 _ _ _ _ _ _)
   | (with_reducible exact r13_bytes.mono _ _ _)
   | (with_reducible exact LeO.refl _)
   | (with_reducible exact LeO.none _)
   | (with_reducible refine LeO.ite ?_ ?_)
   | (with_reducible refine LeO.bind ?_ (fun _ => ?_))
   | exact ih0 _ _ _
   | exact ih2 _ _ _ _ _ _
   | exact r13_bytes.mono _ _ _
   | exact LeO.none _
   | refine LeO.ite ?_ ?_
   | refine LeO.bind ?_ (fun _ => ?_)
theorem r13_Read.mono : ∀ a0 k, LeO (r13_Read.f k a0) (r13_Read.f (k + 1) a0) := by
 intro a0 k
 obtain ⟨ih0, ih1, ih2, ih3⟩ := r13_Read.mono_l k
 unfold r13_Read.f
 repeat' first
   | (with_reducible exact ih0 _ _ _)
   | (with_reducible exact ih1 _ _ _ _ _ _)
   | (with_reducible exact ih2 _ _ _ _ _ _)
   | (with_reducible exact ih3 _ _ _ _ _ _ _)
   | (with_reducible exact r12_Scan.mono _ _)
   | (with_reducible exact r13_bytes.mono _ _ _)
   | (with_reducible exact LeO.refl _)
   | (with_reducible exact LeO.none _)
   | (with_reducible refine LeO.ite ?_ ?_)
   | (with_reducible refine LeO.bind ?_ (fun _ => ?_))
   | exact ih0 _ _ _
   | exact ih1 _ _ _ _ _ _
   | exact ih2 _ _ _ _ _ _
   | exact ih3 _ _ _ _ _ _ _
   | exact r12_Scan.mono _ _
   | exact r13_bytes.mono _ _ _
   | exact LeO.none _
   | refine LeO.ite ?_ ?_
   | refine LeO.bind ?_ (fun _ => ?_)
def r13_Read.T9 : Bool × List (List Nat × List Nat) := (true, [([], []), ([], []), ([0, 1], [0, 1]), ([2], [2]), ([3], [3]), ([4], [4]), ([5], [5]), ([6], [6]), ([6], [6]), ([7, 8, 6], [6, 7, 8]), ([9, 6], [6, 9]), ([10, 6], [6, 10]), ([11, 6], [6, 11]), ([6, 12], [6, 12]), ([13, 6], [13]), ([14], [14]), ([15, 14], [14, 15]), ([16, 14], [14, 16]), ([17, 14], [14, 17]), ([18, 14, 14], [14, 18]), ([19], [19]), ([20, 19], [19, 20]), ([21, 19], [19, 21]), ([22, 19, 19], [19, 22]), ([23], [23]), ([23], [23]), ([24, 25, 23], [23, 24, 25]), ([26, 23], [23, 26]), ([27, 23], [23, 27]), ([23], [23]), ([29, 23], [23, 29]), ([30, 23], [23, 30]), ([28, 31, 23], [23, 28, 31]), ([23, 32, 19], [19, 23, 32]), ([19, 33, 14], [14, 19, 33]), ([14, 34], [14, 34])])
def r13_Read.B9 : List Nat := [0, 0, 3, 7, 15, 31, 63, 127, 127, 511, 1023, 2047, 4095, 8191, 16383, 32767, 65535, 131071, 262143, 524287, 1048575, 2097151, 4194303, 8388607, 16777215, 16777215, 67108863, 134217727, 268435455, 16777215, 553648127, 1627389951, 4294967295, 8589934591, 17179869183, 34359738367]
end Go.Proofs.YtboommbclbjlnaaDoor.Fn
end
