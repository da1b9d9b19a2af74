-- Packed by pack.py, a program of this session, out of texts of this claim.
import Derived.Test.YtboommbclbjlnaaDoorClJournalAfter1
import Derived.Test.YtboommbclbjlnaaDoorClJournalAfter3
import Derived.Test.YtboommbclbjlnaaDoorClJournalAfter2
section
-- Written by printx.py, a program of this session over the kit's print: each Go function as a plain Lean function, and that the Go code computes it.
namespace Go.Proofs.YtboommbclbjlnaaDoor.Fn
open Go.RowKit Go.Proofs.YtboommbclbjlnaaDoorW.PrintWords Go.Proofs.YtboommbclbjlnaaDoorW.PrintLast Go.Proofs.YtboommbclbjlnaaDoorW.PrintMore Go.Proofs.YtboommbclbjlnaaDoor.Lf
attribute [local go_sem] max2_int min2_int max_two min_two max_three min_three max_four min_four   -- for this text's walks alone
set_option linter.unusedVariables false
set_option linter.unusedSimpArgs false
def l13_short.l0 : Nat → List (List (S24)) → Int → Option (Bool)
 | 0, _, _ => none
 | k + 1, x0, x3 => if x3 < (x0.length : Int) then (if 0 ≤ x3 then ((l13_shortSteps.f k (rd_L4 x0 x3)).bind fun t203 => (if t203 = true then (if ((rd_L4 x0 x3).length : Int) > 12 then (some false) else (l13_short.l0 k x0 (wrap64 (x3 + 1)))) else (some false))) else (none)) else (some true)
def l13_short.f (k : Nat) (l0 : List (List (S24))) : Option (Bool) := if (l0.length : Int) > 12 then (some false) else (l13_short.l0 k l0 0)
theorem l13_short.mono_l : ∀ k, (∀ y0 y1, LeO (l13_short.l0 k y0 y1) (l13_short.l0 (k + 1) y0 y1))
 | 0 => fun _ _ r h => by simp [l13_short.l0] at h
 | k + 1 => by
  have ih0 := l13_short.mono_l k
  ·intro y0 y1
   unfold l13_short.l0
   repeat' first
   | (with_reducible exact ih0 _ _)
   | (with_reducible exact l13_shortSteps.mono _ _)
   | (with_reducible exact LeO.refl _)
   | (with_reducible exact LeO.none _)
   | (with_reducible refine LeO.ite ?_ ?_)
   | (with_reducible refine LeO.bind ?_ (fun _ => ?_))
   | exact ih0 _ _
   | exact l13_shortSteps.mono _ _
   | exact LeO.none _
   | refine LeO.ite ?_ ?_
   | refine LeO.bind ?_ (fun _ => ?_)
theorem l13_short.mono : ∀ a0 k, LeO (l13_short.f k a0) (l13_short.f (k + 1) a0) := by
 intro a0 k
 have ih0 := l13_short.mono_l k
 unfold l13_short.f
 repeat' first
   | (with_reducible exact ih0 _ _)
   | (with_reducible exact l13_shortSteps.mono _ _)
   | (with_reducible exact LeO.refl _)
   | (with_reducible exact LeO.none _)
   | (with_reducible refine LeO.ite ?_ ?_)
   | (with_reducible refine LeO.bind ?_ (fun _ => ?_))
   | exact ih0 _ _
   | exact l13_shortSteps.mono _ _
   | exact LeO.none _
   | refine LeO.ite ?_ ?_
   | refine LeO.bind ?_ (fun _ => ?_)
set_option maxHeartbeats 8000000 in
set_option maxRecDepth 100000 in
theorem l13_short.calls (k : Nat) (A0 : Option Addr) (c0 : Nat) (l0 : List (List (S24))) (r : Bool) (w : World) (hr0 : Kd.C (Kd.slice 24 k24) w A0 l0.length l0) (hc0 : l0.length ≤ c0) (h : l13_short.f k l0 = some r) :
  Calls Tryd.prog 33 #[.slice A0 l0.length c0] w fun e w' => e = .returned (.bool r) ∧ Drawn0 w w' := by
 have HR0 := Ax.mk hr0
 have HC0 := Ax.mk hc0
 clear hr0 hc0
 have H : (if (l0.length : Int) > 12 then (some false) else (l13_short.l0 k l0 0)) = some r := h
 clear h
 by_cases c2 : (l0.length : Int) > 12
 ·rw [if_pos c2] at H
  have c2b0 : decide (12 < (l0.length : Int)) = true := decide_eq_true c2
  have c2b1 : decide (12 < l0.length) = true := decide_eq_true (by omega)
  clear c2
  obtain rfl := Option.some.inj H
  go_enter Tryd.func33, Tryd.ntmps33
  go_wp2
  go_ret
  exact ⟨by first | rfl | (simp; done) | (simp [*]; done), by repeat (first | exact Drawn0.refl _ | apply Drawn0.step)⟩
 ·rw [if_neg c2] at H
  have c2b0 : decide (12 < (l0.length : Int)) = false := decide_eq_false c2
  have c2b1 : decide (12 < l0.length) = false := decide_eq_false (by omega)
  clear c2
  have H' := Ax.mk H
  clear H
  go_enter Tryd.func33, Tryd.ntmps33
  go_wp2
  go_loopg [3] k (fun kq v3 w' => ∃ (x3_1 : Int), v3 = .int .i64 x3_1 ∧ Ax (l13_short.l0 kq l0 x3_1 = some r) ∧ Ax (kq ≤ k) ∧ Drawn0 w w')
  case atStart => exact ⟨(0), (by first | rfl | (simp; done) | (simp [*]; done)), H', ⟨Nat.le_refl _⟩, by repeat (first | exact Drawn0.refl _ | apply Drawn0.step)⟩
  case round =>
   clear H'
   try clear c2
   try clear c2b0
   try clear c2b1
   try clear p2
   obtain ⟨x3_1, rfl, HA, HK1, ⟨m1, rfl⟩⟩ := hrel
   cases gk with
   | zero => exact absurd HA.out (by simp [l13_short.l0])
   | succ k1 =>
    have H := HA.out
    clear HA
    simp only [l13_short.l0] at H
    by_cases c3 : x3_1 < (l0.length : Int)
    ·rw [if_pos c3] at H
     have c3b0 : decide (x3_1 < (l0.length : Int)) = true := decide_eq_true c3
     clear c3
     by_cases c4 : 0 ≤ x3_1
     ·rw [if_pos c4] at H
      have c4b0 : decide (0 ≤ x3_1) = true := decide_eq_true c4
      clear c4
      replace H := Option.bind_eq_some_iff.mp H
      obtain ⟨t203, A50, H⟩ := H
      replace H : (if t203 = true then (if ((rd_L4 l0 x3_1).length : Int) > 12 then (some false) else (l13_short.l0 k1 l0 (wrap64 (x3_1 + 1)))) else (some false)) = some r := H
      have A5 := Ax.mk A50
      clear A50
      by_cases c6 : t203 = true
      ·subst c6
       have H1 : (if ((rd_L4 l0 x3_1).length : Int) > 12 then (some false) else (l13_short.l0 k1 l0 (wrap64 (x3_1 + 1)))) = some r := by rw [if_pos rfl] at H; exact H
       clear H
       have H := H1
       clear H1
       by_cases c7 : ((rd_L4 l0 x3_1).length : Int) > 12
       ·rw [if_pos c7] at H
        have c7b0 : decide (12 < ((rd_L4 l0 x3_1).length : Int)) = true := decide_eq_true c7
        have c7b1 : decide (12 < (rd_L4 l0 x3_1).length) = true := decide_eq_true (by omega)
        clear c7
        obtain rfl := Option.some.inj H
        have p202 : 0 ≤ (x3_1 : Int) := of_decide_eq_true (by first | (with_reducible assumption) | assumption)
        have q202 : x3_1 < (l0.length : Int) := of_decide_eq_true (by first | (with_reducible assumption) | assumption)
        obtain ⟨ad202, A202_0, c202_0, e202, hx202_0, hl202_0, hi202_0⟩ := at_L4 HR0.out x3_1 p202 q202
        cases e202
        have HR202_0 := Ax.mk hi202_0
        have HC202_0 := Ax.mk hl202_0
        clear hi202_0 hl202_0
        replace p202 := eq_true p202
        replace q202 := eq_true q202
        go_wp2_with (first | ((with_reducible refine gate_callee (f := 32) rfl ?_); refine goesL_ (some 18) rfl rfl Tryd.func32 (by kernel_rfl) rfl #[.slice A202_0 (rd_L4 l0 x3_1).length c202_0] rfl (by (try simp only [List.map_toArray, List.map_cons, List.map_nil]); first | done | rfl | (simp only [List.length_drop, List.length_take]; rfl) | (rw [wrap_sum2 (by assumption)]; rfl)) ?_; (with_reducible refine (l13_shortSteps.calls k1 _ _ (rd_L4 l0 x3_1) true _ ?side1 ?side2 A5.out).mono ?_); (case side1 => repeat (first | exact HR202_0.out | (with_reducible refine Kd.C_alloc ?_ _) | (with_reducible refine Kd.C_drewN ?_ _) | (with_reducible refine Kd.C_drew ?_))); (case side2 => exact HC202_0.out); rintro e w' ⟨rfl, ⟨nd, rfl⟩⟩; refine ⟨_, rfl, ?_⟩; have p204 : 0 ≤ (x3_1 : Int) := of_decide_eq_true (by first | (with_reducible assumption) | assumption); have q204 : x3_1 < (l0.length : Int) := of_decide_eq_true (by first | (with_reducible assumption) | assumption); obtain ⟨ad204, A204_0, c204_0, e204, hx204_0, hl204_0, hi204_0⟩ := at_L4 HR0.out x3_1 p204 q204; obtain rfl : ad202 = ad204 := (by injection e204); have HR204_0 := Ax.mk hi204_0; have HC204_0 := Ax.mk hl204_0; clear hi204_0 hl204_0; replace p204 := eq_true p204; replace q204 := eq_true q204; have ea_ := Option.some.inj (hx202_0.symm.trans hx204_0); injection ea_ with ea_ en_ ec_; subst ea_; subst ec_; clear en_))
        go_ret
        exact ⟨by first | rfl | (simp; done) | (simp [*]; done), by repeat (first | exact Drawn0.refl _ | apply Drawn0.step)⟩
       ·rw [if_neg c7] at H
        have c7b0 : decide (12 < ((rd_L4 l0 x3_1).length : Int)) = false := decide_eq_false c7
        have c7b1 : decide (12 < (rd_L4 l0 x3_1).length) = false := decide_eq_false (by omega)
        clear c7
        have H' := Ax.mk H
        clear H
        have p202 : 0 ≤ (x3_1 : Int) := of_decide_eq_true (by first | (with_reducible assumption) | assumption)
        have q202 : x3_1 < (l0.length : Int) := of_decide_eq_true (by first | (with_reducible assumption) | assumption)
        obtain ⟨ad202, A202_0, c202_0, e202, hx202_0, hl202_0, hi202_0⟩ := at_L4 HR0.out x3_1 p202 q202
        cases e202
        have HR202_0 := Ax.mk hi202_0
        have HC202_0 := Ax.mk hl202_0
        clear hi202_0 hl202_0
        replace p202 := eq_true p202
        replace q202 := eq_true q202
        go_wp2_with (first | ((with_reducible refine gate_callee (f := 32) rfl ?_); refine goesL_ (some 18) rfl rfl Tryd.func32 (by kernel_rfl) rfl #[.slice A202_0 (rd_L4 l0 x3_1).length c202_0] rfl (by (try simp only [List.map_toArray, List.map_cons, List.map_nil]); first | done | rfl | (simp only [List.length_drop, List.length_take]; rfl) | (rw [wrap_sum2 (by assumption)]; rfl)) ?_; (with_reducible refine (l13_shortSteps.calls k1 _ _ (rd_L4 l0 x3_1) true _ ?side1 ?side2 A5.out).mono ?_); (case side1 => repeat (first | exact HR202_0.out | (with_reducible refine Kd.C_alloc ?_ _) | (with_reducible refine Kd.C_drewN ?_ _) | (with_reducible refine Kd.C_drew ?_))); (case side2 => exact HC202_0.out); rintro e w' ⟨rfl, ⟨nd, rfl⟩⟩; refine ⟨_, rfl, ?_⟩; have p204 : 0 ≤ (x3_1 : Int) := of_decide_eq_true (by first | (with_reducible assumption) | assumption); have q204 : x3_1 < (l0.length : Int) := of_decide_eq_true (by first | (with_reducible assumption) | assumption); obtain ⟨ad204, A204_0, c204_0, e204, hx204_0, hl204_0, hi204_0⟩ := at_L4 HR0.out x3_1 p204 q204; obtain rfl : ad202 = ad204 := (by injection e204); have HR204_0 := Ax.mk hi204_0; have HC204_0 := Ax.mk hl204_0; clear hi204_0 hl204_0; replace p204 := eq_true p204; replace q204 := eq_true q204; have ea_ := Option.some.inj (hx202_0.symm.trans hx204_0); injection ea_ with ea_ en_ ec_; subst ea_; subst ec_; clear en_))
        go_roundg k1
        case measure => have := HK1.out; omega
        case rel => exact ⟨(wrap64 (x3_1 + 1)), (by first | rfl | (simp; done) | (simp [*]; done)), H', ⟨by have := HK1.out; omega⟩, by repeat (first | exact Drawn0.refl _ | apply Drawn0.step)⟩
      ·replace c6 := Bool.eq_false_iff.mpr c6
       subst c6
       have H1 : (some false) = some r := by rw [if_neg (show ¬ (false = true) by decide)] at H; exact H
       clear H
       have H := H1
       clear H1
       obtain rfl := Option.some.inj H
       have p202 : 0 ≤ (x3_1 : Int) := of_decide_eq_true (by first | (with_reducible assumption) | assumption)
       have q202 : x3_1 < (l0.length : Int) := of_decide_eq_true (by first | (with_reducible assumption) | assumption)
       obtain ⟨ad202, A202_0, c202_0, e202, hx202_0, hl202_0, hi202_0⟩ := at_L4 HR0.out x3_1 p202 q202
       cases e202
       have HR202_0 := Ax.mk hi202_0
       have HC202_0 := Ax.mk hl202_0
       clear hi202_0 hl202_0
       replace p202 := eq_true p202
       replace q202 := eq_true q202
       go_wp2_with (first | ((with_reducible refine gate_callee (f := 32) rfl ?_); refine goesL_ (some 18) rfl rfl Tryd.func32 (by kernel_rfl) rfl #[.slice A202_0 (rd_L4 l0 x3_1).length c202_0] rfl (by (try simp only [List.map_toArray, List.map_cons, List.map_nil]); first | done | rfl | (simp only [List.length_drop, List.length_take]; rfl) | (rw [wrap_sum2 (by assumption)]; rfl)) ?_; (with_reducible refine (l13_shortSteps.calls k1 _ _ (rd_L4 l0 x3_1) false _ ?side1 ?side2 A5.out).mono ?_); (case side1 => repeat (first | exact HR202_0.out | (with_reducible refine Kd.C_alloc ?_ _) | (with_reducible refine Kd.C_drewN ?_ _) | (with_reducible refine Kd.C_drew ?_))); (case side2 => exact HC202_0.out); rintro e w' ⟨rfl, ⟨nd, rfl⟩⟩; refine ⟨_, rfl, ?_⟩))
       go_ret
       exact ⟨by first | rfl | (simp; done) | (simp [*]; done), by repeat (first | exact Drawn0.refl _ | apply Drawn0.step)⟩
     ·rw [if_neg c4] at H
      exact absurd H (by simp)
    ·rw [if_neg c3] at H
     have c3b0 : decide (x3_1 < (l0.length : Int)) = false := decide_eq_false c3
     clear c3
     obtain rfl := Option.some.inj H
     go_wp2
     go_ret
     exact ⟨by first | rfl | (simp; done) | (simp [*]; done), by repeat (first | exact Drawn0.refl _ | apply Drawn0.step)⟩
def l13_shown.f (k : Nat)  : Option (Bool) := (journal_New.f k 5 (([(⟨3, 1, 0, 0, (⟨#[]⟩ : ByteArray)⟩ : S24)] : List (S24)))).bind fun bt170 => ((journal_Add.f k bt170.1 bt170.2.1 bt170.2.2.1 (([(⟨3, 2, 0, 0, (⟨#[]⟩ : ByteArray)⟩ : S24)] : List (S24)))).bind fun bt180 => ((journal_Add.f k bt180.1 bt180.2.1 bt180.2.2.1 (([(⟨3, 3, 0, 0, (⟨#[]⟩ : ByteArray)⟩ : S24)] : List (S24)))).bind fun bt190 => ((journal_After.f k bt190.1 bt190.2.1 bt190.2.2.1 6).bind fun t197 => (if bt170.2.2.2 = 0 then (if bt180.2.2.2 = 0 then (if bt190.2.2.2 = 0 then (if bt190.1 = 7 then (if (t197.length : Int) = 1 then (if 0 < (t197.length : Int) then (some (((rd_T24 t197 0).f1) == 3)) else (none)) else (none)) else (none)) else (none)) else (none)) else (none)))))
theorem l13_shown.mono : ∀ k, LeO (l13_shown.f k ) (l13_shown.f (k + 1) ) := by
 intro  k
 unfold l13_shown.f
 repeat' first
   | (with_reducible exact journal_Add.mono _ _ _ _ _)
   | (with_reducible exact journal_After.mono _ _ _ _ _)
   | (with_reducible exact journal_New.mono _ _ _)
   | (with_reducible exact LeO.refl _)
   | (with_reducible exact LeO.none _)
   | (with_reducible refine LeO.ite ?_ ?_)
   | (with_reducible refine LeO.bind ?_ (fun _ => ?_))
   | exact journal_Add.mono _ _ _ _ _
   | exact journal_After.mono _ _ _ _ _
   | exact journal_New.mono _ _ _
   | exact LeO.none _
   | refine LeO.ite ?_ ?_
   | refine LeO.bind ?_ (fun _ => ?_)
set_option maxHeartbeats 8000000 in
set_option maxRecDepth 100000 in
theorem l13_shown.calls (k : Nat)  (r : Bool) (w : World) (h : l13_shown.f k  = some r) (HT : Tabs w) :
  Calls Tryd.prog 31 #[] w fun e w' => e = .returned (.bool r) ∧ Below w.heap.size w w' := by
 have hu24 := Tryd.underlying24
 have hu66 := Tryd.underlying66
 have HB := Ax.mk (Below.refl w.heap.size w)
 have H : ((journal_New.f k 5 (([(⟨3, 1, 0, 0, (⟨#[]⟩ : ByteArray)⟩ : S24)] : List (S24)))).bind fun bt170 => ((journal_Add.f k bt170.1 bt170.2.1 bt170.2.2.1 (([(⟨3, 2, 0, 0, (⟨#[]⟩ : ByteArray)⟩ : S24)] : List (S24)))).bind fun bt180 => ((journal_Add.f k bt180.1 bt180.2.1 bt180.2.2.1 (([(⟨3, 3, 0, 0, (⟨#[]⟩ : ByteArray)⟩ : S24)] : List (S24)))).bind fun bt190 => ((journal_After.f k bt190.1 bt190.2.1 bt190.2.2.1 6).bind fun t197 => (if bt170.2.2.2 = 0 then (if bt180.2.2.2 = 0 then (if bt190.2.2.2 = 0 then (if bt190.1 = 7 then (if (t197.length : Int) = 1 then (if 0 < (t197.length : Int) then (some (((rd_T24 t197 0).f1) == 3)) else (none)) else (none)) else (none)) else (none)) else (none)) else (none)))))) = some r := h
 clear h
 obtain ⟨y167, hy167⟩ : ∃ y_ : List (S24), y_ = (([(⟨3, 1, 0, 0, (⟨#[]⟩ : ByteArray)⟩ : S24)] : List (S24))) := ⟨_, rfl⟩
 replace H : ((journal_New.f k 5 y167).bind fun bt170 => ((journal_Add.f k bt170.1 bt170.2.1 bt170.2.2.1 (([(⟨3, 2, 0, 0, (⟨#[]⟩ : ByteArray)⟩ : S24)] : List (S24)))).bind fun bt180 => ((journal_Add.f k bt180.1 bt180.2.1 bt180.2.2.1 (([(⟨3, 3, 0, 0, (⟨#[]⟩ : ByteArray)⟩ : S24)] : List (S24)))).bind fun bt190 => ((journal_After.f k bt190.1 bt190.2.1 bt190.2.2.1 6).bind fun t197 => (if bt170.2.2.2 = 0 then (if bt180.2.2.2 = 0 then (if bt190.2.2.2 = 0 then (if bt190.1 = 7 then (if (t197.length : Int) = 1 then (if 0 < (t197.length : Int) then (some (((rd_T24 t197 0).f1) == 3)) else (none)) else (none)) else (none)) else (none)) else (none)) else (none)))))) = some r := by first | (rw [hy167]; with_reducible exact H) | (have H2_ := (Option.bind_some _ _).symm.trans H; rw [hy167]; with_reducible exact H2_) | (have H2_ := (Option.bind_some _ _).symm.trans H; with_reducible exact H2_) | with_reducible exact H | (rw [hy167]; exact H) | exact H
 have Ny167 := Ax.mk hy167
 clear hy167
 replace H := Option.bind_eq_some_iff.mp H
 obtain ⟨⟨t170, t171, t174, t175⟩, A10, H⟩ := H
 replace H : ((journal_Add.f k t170 t171 t174 (([(⟨3, 2, 0, 0, (⟨#[]⟩ : ByteArray)⟩ : S24)] : List (S24)))).bind fun bt180 => ((journal_Add.f k bt180.1 bt180.2.1 bt180.2.2.1 (([(⟨3, 3, 0, 0, (⟨#[]⟩ : ByteArray)⟩ : S24)] : List (S24)))).bind fun bt190 => ((journal_After.f k bt190.1 bt190.2.1 bt190.2.2.1 6).bind fun t197 => (if t175 = 0 then (if bt180.2.2.2 = 0 then (if bt190.2.2.2 = 0 then (if bt190.1 = 7 then (if (t197.length : Int) = 1 then (if 0 < (t197.length : Int) then (some (((rd_T24 t197 0).f1) == 3)) else (none)) else (none)) else (none)) else (none)) else (none)) else (none))))) = some r := H
 have A1 := Ax.mk A10
 clear A10
 obtain ⟨y177, hy177⟩ : ∃ y_ : List (S24), y_ = (([(⟨3, 2, 0, 0, (⟨#[]⟩ : ByteArray)⟩ : S24)] : List (S24))) := ⟨_, rfl⟩
 replace H : ((journal_Add.f k t170 t171 t174 y177).bind fun bt180 => ((journal_Add.f k bt180.1 bt180.2.1 bt180.2.2.1 (([(⟨3, 3, 0, 0, (⟨#[]⟩ : ByteArray)⟩ : S24)] : List (S24)))).bind fun bt190 => ((journal_After.f k bt190.1 bt190.2.1 bt190.2.2.1 6).bind fun t197 => (if t175 = 0 then (if bt180.2.2.2 = 0 then (if bt190.2.2.2 = 0 then (if bt190.1 = 7 then (if (t197.length : Int) = 1 then (if 0 < (t197.length : Int) then (some (((rd_T24 t197 0).f1) == 3)) else (none)) else (none)) else (none)) else (none)) else (none)) else (none))))) = some r := by first | (rw [hy177]; with_reducible exact H) | (have H2_ := (Option.bind_some _ _).symm.trans H; rw [hy177]; with_reducible exact H2_) | (have H2_ := (Option.bind_some _ _).symm.trans H; with_reducible exact H2_) | with_reducible exact H | (rw [hy177]; exact H) | exact H
 have Ny177 := Ax.mk hy177
 clear hy177
 replace H := Option.bind_eq_some_iff.mp H
 obtain ⟨⟨t180, t181, t184, t185⟩, A20, H⟩ := H
 replace H : ((journal_Add.f k t180 t181 t184 (([(⟨3, 3, 0, 0, (⟨#[]⟩ : ByteArray)⟩ : S24)] : List (S24)))).bind fun bt190 => ((journal_After.f k bt190.1 bt190.2.1 bt190.2.2.1 6).bind fun t197 => (if t175 = 0 then (if t185 = 0 then (if bt190.2.2.2 = 0 then (if bt190.1 = 7 then (if (t197.length : Int) = 1 then (if 0 < (t197.length : Int) then (some (((rd_T24 t197 0).f1) == 3)) else (none)) else (none)) else (none)) else (none)) else (none)) else (none)))) = some r := H
 have A2 := Ax.mk A20
 clear A20
 obtain ⟨y187, hy187⟩ : ∃ y_ : List (S24), y_ = (([(⟨3, 3, 0, 0, (⟨#[]⟩ : ByteArray)⟩ : S24)] : List (S24))) := ⟨_, rfl⟩
 replace H : ((journal_Add.f k t180 t181 t184 y187).bind fun bt190 => ((journal_After.f k bt190.1 bt190.2.1 bt190.2.2.1 6).bind fun t197 => (if t175 = 0 then (if t185 = 0 then (if bt190.2.2.2 = 0 then (if bt190.1 = 7 then (if (t197.length : Int) = 1 then (if 0 < (t197.length : Int) then (some (((rd_T24 t197 0).f1) == 3)) else (none)) else (none)) else (none)) else (none)) else (none)) else (none)))) = some r := by first | (rw [hy187]; with_reducible exact H) | (have H2_ := (Option.bind_some _ _).symm.trans H; rw [hy187]; with_reducible exact H2_) | (have H2_ := (Option.bind_some _ _).symm.trans H; with_reducible exact H2_) | with_reducible exact H | (rw [hy187]; exact H) | exact H
 have Ny187 := Ax.mk hy187
 clear hy187
 replace H := Option.bind_eq_some_iff.mp H
 obtain ⟨⟨t190, t191, t194, t195⟩, A30, H⟩ := H
 replace H : ((journal_After.f k t190 t191 t194 6).bind fun t197 => (if t175 = 0 then (if t185 = 0 then (if t195 = 0 then (if t190 = 7 then (if (t197.length : Int) = 1 then (if 0 < (t197.length : Int) then (some (((rd_T24 t197 0).f1) == 3)) else (none)) else (none)) else (none)) else (none)) else (none)) else (none))) = some r := H
 have A3 := Ax.mk A30
 clear A30
 replace H := Option.bind_eq_some_iff.mp H
 obtain ⟨t197, A40, H⟩ := H
 replace H : (if t175 = 0 then (if t185 = 0 then (if t195 = 0 then (if t190 = 7 then (if (t197.length : Int) = 1 then (if 0 < (t197.length : Int) then (some (((rd_T24 t197 0).f1) == 3)) else (none)) else (none)) else (none)) else (none)) else (none)) else (none)) = some r := H
 have A4 := Ax.mk A40
 clear A40
 by_cases c5 : t175 = 0
 ·rw [if_pos c5] at H
  have c5b0 : (t175 == 0) = true := beq_iff_eq.mpr c5
  have c5b1 : (t175 != 0) = false := bne_eq_false_iff_eq.mpr c5
  clear c5
  by_cases c6 : t185 = 0
  ·rw [if_pos c6] at H
   have c6b0 : (t185 == 0) = true := beq_iff_eq.mpr c6
   have c6b1 : (t185 != 0) = false := bne_eq_false_iff_eq.mpr c6
   clear c6
   by_cases c7 : t195 = 0
   ·rw [if_pos c7] at H
    have c7b0 : (t195 == 0) = true := beq_iff_eq.mpr c7
    have c7b1 : (t195 != 0) = false := bne_eq_false_iff_eq.mpr c7
    clear c7
    by_cases c8 : t190 = 7
    ·rw [if_pos c8] at H
     have c8b0 : (t190 == 7) = true := beq_iff_eq.mpr c8
     have c8b1 : (t190 != 7) = false := bne_eq_false_iff_eq.mpr c8
     clear c8
     by_cases c9 : (t197.length : Int) = 1
     ·rw [if_pos c9] at H
      have c9b0 : ((t197.length : Int) == 1) = true := beq_iff_eq.mpr c9
      have c9b1 : ((t197.length : Int) != 1) = false := bne_eq_false_iff_eq.mpr c9
      clear c9
      by_cases c10 : 0 < (t197.length : Int)
      ·rw [if_pos c10] at H
       have c10b0 : decide (0 < (t197.length : Int)) = true := decide_eq_true c10
       have c10b1 : decide (0 < t197.length) = true := decide_eq_true (by omega)
       clear c10
       obtain rfl := Option.some.inj H
       go_enter Tryd.func31, Tryd.ntmps31
       go_wp2_with (first | ((with_reducible refine gate_dst (N := 10) rfl ?_); (try (refine gate_guard (by rfl) ?_; dsimp only)); refine Kd.R_lit k24 _ 24 ?hg (N := 10) ?hd (xs := ([(⟨3, 1, 0, 0, (⟨#[]⟩ : ByteArray)⟩ : S24)] : List (S24))) (inner := [.int .i64 3, .int .i64 1, .int .i64 0, .int .u64 0, .string (⟨#[]⟩ : ByteArray)]) (ok := fun _ => True) (okp := fun _ => True) ?hr ?hp (fun _ hk => hk) trivial (Below.refl _ _) (Nat.le_refl _) (by simp) ?_; (case hd => rfl); (case hg => rfl); (case hr => first | (go_simp; done) | (go_simp; rfl)); (case hp => exact (Reps.c5 (show Kd.M k24 _ _ _ (⟨3, 1, 0, 0, (⟨#[]⟩ : ByteArray)⟩ : S24) [.int .i64 3, .int .i64 1, .int .i64 0, .int .u64 0, .string (⟨#[]⟩ : ByteArray)] from (k24_mkM _ _ _ (⟨3, 1, 0, 0, (⟨#[]⟩ : ByteArray)⟩ : S24) )) (Reps.none _ _))); intro v168 w11 ho12 hb hg_ hnew_; clear hg_ hnew_; (first | rw [← Ny167.out] at ho12 | (simp only [Int.reduceToNat] at ho12; rw [← Ny167.out] at ho12)); have n0_ := Ax.mk (Kd.R_lower ho12 (bS bA)); have n1_ := Ax.mk (bP bA hb); clear HB; have HO169 := n0_; have HB := n1_; clear n0_ n1_; clear hb ho12; obtain ⟨Ao13, co13, eo13⟩ := Kd.R_slice HO169.out; subst eo13) | ((with_reducible refine gate_callee (f := 38) rfl ?_); refine goesL_ (some 11) rfl rfl Tryd.func38 (by kernel_rfl) rfl #[.int .u64 5, .slice Ao13 y167.length co13] rfl (by (try simp only [List.map_toArray, List.map_cons, List.map_nil]); first | done | rfl | (simp only [List.length_drop, List.length_take]; rfl) | (rw [wrap_sum2 (by assumption)]; rfl)) ?_; (with_reducible refine (journal_New.calls k 5 _ _ y167 t170 t171 t174 t175 _ ?side1 ?side2 A1.out (HT.below bA)).mono ?_); (case side1 => repeat (first | exact (Kd.R_reads' HO169.out).2.2 | (with_reducible refine Kd.C_alloc ?_ _) | (with_reducible refine Kd.C_drewN ?_ _) | (with_reducible refine Kd.C_drew ?_))); (case side2 => exact (Kd.R_reads' HO169.out).2.1); rintro e w14 ⟨v172, rfl, ho0, hb⟩; refine ⟨_, rfl, ?_⟩; have n0_ := Ax.mk (Kd.R_below (by exact Kd.R_to HO169.out) hb); have n1_ := Ax.mk (Kd.N_lower (Kd.N_mono (ok' := fun k_ => some k_ ≠ (.slice Ao13 y167.length co13 : Value).ownBlock) ho0 (fun k_ hk_ => (Kd.fresh' (Kd.R_lt (by exact Kd.R_to HO169.out)) k_ hk_))) (bS bA)); have n2_ := Ax.mk (bP bA hb); clear HO169; clear HB; have HO169 := n0_; have HO173 := n1_; have HB := n2_; clear n0_ n1_ n2_; (try clear hb); (try clear hb2); (try clear hk); (try clear hi); (try clear ho0)) | ((with_reducible refine gate_dst (N := 1) rfl ?_); (try (refine gate_guard (by rfl) ?_; dsimp only)); refine box_event ?hg (N := 1) ?hd (cs := #[.int .u64 0, .slice none 0 0, .string (⟨#[]⟩ : ByteArray)]) (t := 66) ?hr ?_; (case hd => rfl); (case hg => rfl); (case hr => first | (go_simp; done) | (go_simp; rfl)); intro gb176 hg w15 hbox hb; have n0_ := Ax.mk (Kd.R_below (by exact Kd.R_to HO169.out) hb); have n1_ := Ax.mk (Kd.N_below (Kd.N_elderB (by exact Kd.N_to HO173.out) gb176 (Nat.le_of_eq hg.symm)) hb); have n2_ := Ax.mk (bP bA hb); have n3_ := Ax.mk (hbox); have n4_ := Ax.mk ((ge_new hg : w.heap.size ≤ gb176)); have n5_ := n4_; clear HO169; clear HO173; clear HB; have HO169 := n0_; have HO173 := n1_; have HB := n2_; have BK176 := n3_; have GW176 := n4_; have GE176 := n5_; clear n0_ n1_ n2_ n3_ n4_ n5_; clear hb hbox hg; have hcz16_0 : w15.cell? ⟨gb176, 0, none⟩ = some (.int .u64 0) := (bC BK176.out 0).trans rfl; have hcz16_1 : w15.cell? ⟨gb176, 1, none⟩ = some (.slice none 0 0) := (bC BK176.out 1).trans rfl; have hcz16_2 : w15.cell? ⟨gb176, 2, none⟩ = some (.string (⟨#[]⟩ : ByteArray)) := (bC BK176.out 2).trans rfl; have hfz16_0 := bF BK176.out 0; have hfz16_1 := bF BK176.out 1; have hfz16_2 := bF BK176.out 2; obtain ⟨Ao17, co17, eo17⟩ := Kd.N_slice HO173.out; subst eo17) | ((with_reducible refine gate_dst (N := 17) rfl ?_); (try (refine gate_guard (by rfl) ?_; dsimp only)); refine Kd.R_lit k24 _ 24 ?hg (N := 17) ?hd (xs := ([(⟨3, 2, 0, 0, (⟨#[]⟩ : ByteArray)⟩ : S24)] : List (S24))) (inner := [.int .i64 3, .int .i64 2, .int .i64 0, .int .u64 0, .string (⟨#[]⟩ : ByteArray)]) (ok := fun _ => True) (okp := fun _ => True) ?hr ?hp (fun _ hk => hk) trivial (Below.refl _ _) (Nat.le_refl _) (by simp) ?_; (case hd => rfl); (case hg => rfl); (case hr => first | (go_simp; done) | (go_simp; rfl)); (case hp => exact (Reps.c5 (show Kd.M k24 _ _ _ (⟨3, 2, 0, 0, (⟨#[]⟩ : ByteArray)⟩ : S24) [.int .i64 3, .int .i64 2, .int .i64 0, .int .u64 0, .string (⟨#[]⟩ : ByteArray)] from (k24_mkM _ _ _ (⟨3, 2, 0, 0, (⟨#[]⟩ : ByteArray)⟩ : S24) )) (Reps.none _ _))); intro v178 w18 ho19 hb hg_ hnew_; clear hg_ hnew_; (first | rw [← Ny177.out] at ho19 | (simp only [Int.reduceToNat] at ho19; rw [← Ny177.out] at ho19)); have n0_ := Ax.mk (Kd.R_elder' (by apply Kd.R_to; exact (Kd.R_mono (Kd.R_far (p := ⟨gb176, 2, none⟩) (Kd.R_far (p := ⟨gb176, 1, none⟩) (Kd.R_far (p := ⟨gb176, 0, none⟩) (Kd.R_types HO169.out BK176.out (by decide)) (fun _ hk => hk.2) (.int .u64 t170)) (fun _ hk => hk.2) (.slice Ao17 t171.length co17)) (fun _ hk => hk.2) (.string t174)) (fun _ h_ => h_.1))) (Kd.R_base ho19) hb); have n1_ := Ax.mk (Kd.N_elder' (by apply Kd.N_to; exact (Kd.N_mono (Kd.N_far (p := ⟨gb176, 2, none⟩) (Kd.N_far (p := ⟨gb176, 1, none⟩) (Kd.N_far (p := ⟨gb176, 0, none⟩) (Kd.N_mono HO173.out (fun k_ hk => (⟨hk, hk.2⟩ : _ ∧ k_ ≠ gb176))) (fun _ hk => hk.2) (.int .u64 t170)) (fun _ hk => hk.2) (.slice Ao17 t171.length co17)) (fun _ hk => hk.2) (.string t174)) (fun _ h_ => h_.1))) (Kd.R_base ho19) hb); have n2_ := Ax.mk (Kd.R_lower (Kd.R_new' ho19 (Kd.R_lt (by apply Kd.R_to; exact (Kd.R_mono (Kd.R_far (p := ⟨gb176, 2, none⟩) (Kd.R_far (p := ⟨gb176, 1, none⟩) (Kd.R_far (p := ⟨gb176, 0, none⟩) (Kd.R_types HO169.out BK176.out (by decide)) (fun _ hk => hk.2) (.int .u64 t170)) (fun _ hk => hk.2) (.slice Ao17 t171.length co17)) (fun _ hk => hk.2) (.string t174)) (fun _ h_ => h_.1))))) (bS bA)); have n3_ := Ax.mk (bB (g := gb176) (o := .cells #[.int .u64 t170, .slice Ao17 t171.length co17, .string t174] 66 (0, 0)) (by refine bT ?_; refine bU (cs := #[.int .u64 t170, .slice Ao17 t171.length co17, .string (⟨#[]⟩ : ByteArray)]) ?_ 2 _ rfl; refine bT ?_; refine bU (cs := #[.int .u64 t170, .slice none 0 0, .string (⟨#[]⟩ : ByteArray)]) ?_ 1 _ rfl; refine bT ?_; refine bU (cs := #[.int .u64 0, .slice none 0 0, .string (⟨#[]⟩ : ByteArray)]) ?_ 0 _ rfl; exact bT BK176.out) hb); have n4_ := Ax.mk (bP bA hb); clear HO169; clear HO173; clear BK176; clear HB; have HO169 := n0_; have HO173 := n1_; have HO179 := n2_; have BK176 := n3_; have HB := n4_; clear n0_ n1_ n2_ n3_ n4_; clear hb ho19; obtain ⟨Ao20, co20, eo20⟩ := Kd.R_slice HO179.out; subst eo20) | ((with_reducible refine gate_callee (f := 39) rfl ?_); refine goesL_ (some 18) rfl rfl Tryd.func39 (by kernel_rfl) rfl #[.agg #[.int .u64 t170, .slice Ao17 t171.length co17, .string t174], .slice Ao20 y177.length co20] rfl (by (try simp only [List.map_toArray, List.map_cons, List.map_nil]); first | done | rfl | (simp only [List.length_drop, List.length_take]; rfl) | (rw [wrap_sum2 (by assumption)]; rfl)) ?_; (with_reducible refine (journal_Add.calls k t170 (fun k_ => ((some k_ ≠ (.slice Ao13 y167.length co13 : Value).ownBlock ∧ k_ ≠ gb176) ∧ some k_ ≠ (.slice Ao20 y177.length co20 : Value).ownBlock)) _ _ t171 t174 _ _ y177 t180 t181 t184 t185 _ ?side1 ?side2 ?side3 A2.out (HT.below bA)).mono ?_); (case side1 => exact Kd.N_V (HO173.out)); (case side2 => repeat (first | exact (Kd.R_reads' HO179.out).2.2 | (with_reducible refine Kd.C_alloc ?_ _) | (with_reducible refine Kd.C_drewN ?_ _) | (with_reducible refine Kd.C_drew ?_))); (case side3 => exact (Kd.R_reads' HO179.out).2.1); rintro e w21 ⟨v182, rfl, ho0, hb⟩; refine ⟨_, rfl, ?_⟩; have n0_ := Ax.mk (Kd.R_below (by exact Kd.R_to HO169.out) hb); have n1_ := Ax.mk (Kd.N_elder' (by exact Kd.N_to HO173.out) (Kd.N_base ho0) hb); have n2_ := Ax.mk (Kd.R_below (by exact Kd.R_to HO179.out) hb); have n3_ := Ax.mk (Kd.N_lower (Kd.N_mono (ok' := fun k_ => some k_ ≠ (.slice Ao13 y167.length co13 : Value).ownBlock ∧ some k_ ≠ (.slice Ao20 y177.length co20 : Value).ownBlock ∧ k_ ≠ gb176) ho0 (fun k_ hk_ => ⟨Or.elim hk_ (fun hs_ => hs_.1.1) (fun hn_ => (Kd.fresh' (Kd.R_lt (by exact Kd.R_to HO169.out)) k_ hn_)), Or.elim hk_ (fun hs_ => hs_.2) (fun hn_ => (Kd.fresh' (Kd.R_lt (by exact Kd.R_to HO179.out)) k_ hn_)), Or.elim hk_ (fun hs_ => hs_.1.2) (fun hn_ => (Kd.freshB (g := gb176) (o := .cells #[.int .u64 t170, .slice Ao17 t171.length co17, .string t174] 66 (0, 0)) (bT BK176.out) k_ hn_))⟩)) (bS bA)); have n4_ := Ax.mk (bB (bT BK176.out) hb); have n5_ := Ax.mk (bP bA hb); clear HO169; clear HO173; clear HO179; clear BK176; clear HB; have HO169 := n0_; have HO173 := n1_; have HO179 := n2_; have HO183 := n3_; have BK176 := n4_; have HB := n5_; clear n0_ n1_ n2_ n3_ n4_ n5_; (try clear hb); (try clear hb2); (try clear hk); (try clear hi); (try clear ho0)) | ((with_reducible refine gate_dst (N := 3) rfl ?_); (try (refine gate_guard (by rfl) ?_; dsimp only)); refine box_event ?hg (N := 3) ?hd (cs := #[.int .u64 0, .slice none 0 0, .string (⟨#[]⟩ : ByteArray)]) (t := 66) ?hr ?_; (case hd => rfl); (case hg => rfl); (case hr => first | (go_simp; done) | (go_simp; rfl)); intro gb186 hg w22 hbox hb; have n0_ := Ax.mk (Kd.R_below (by exact Kd.R_to HO169.out) hb); have n1_ := Ax.mk (Kd.N_below (Kd.N_elderB (by exact Kd.N_to HO173.out) gb186 (Nat.le_of_eq hg.symm)) hb); have n2_ := Ax.mk (Kd.R_below (by exact Kd.R_to HO179.out) hb); have n3_ := Ax.mk (Kd.N_below (Kd.N_elderB (by exact Kd.N_to HO183.out) gb186 (Nat.le_of_eq hg.symm)) hb); have n4_ := Ax.mk (bB (bT BK176.out) hb); have n5_ := Ax.mk (bP bA hb); have n6_ := Ax.mk (hbox); have n7_ := Ax.mk ((ge_new hg : w.heap.size ≤ gb186)); have n8_ := n7_; have n9_ := Ax.mk ((ne_lt hg BK176.out : gb176 ≠ gb186)); have n10_ := Ax.mk ((ne_gt hg BK176.out : gb186 ≠ gb176)); clear HO169; clear HO173; clear HO179; clear HO183; clear BK176; clear HB; have HO169 := n0_; have HO173 := n1_; have HO179 := n2_; have HO183 := n3_; have BK176 := n4_; have HB := n5_; have BK186 := n6_; have GW186 := n7_; have GE186 := n8_; have NB176_186 := n9_; have NB186_176 := n10_; clear n0_ n1_ n2_ n3_ n4_ n5_ n6_ n7_ n8_ n9_ n10_; clear hb hbox hg; have hnb23 := NB186_176.out; have hnc23 := NB176_186.out; have hcz24_0 : w22.cell? ⟨gb186, 0, none⟩ = some (.int .u64 0) := (bC BK186.out 0).trans rfl; have hcz24_1 : w22.cell? ⟨gb186, 1, none⟩ = some (.slice none 0 0) := (bC BK186.out 1).trans rfl; have hcz24_2 : w22.cell? ⟨gb186, 2, none⟩ = some (.string (⟨#[]⟩ : ByteArray)) := (bC BK186.out 2).trans rfl; have hfz24_0 := bF BK186.out 0; have hfz24_1 := bF BK186.out 1; have hfz24_2 := bF BK186.out 2; obtain ⟨Ao25, co25, eo25⟩ := Kd.N_slice HO183.out; subst eo25) | ((with_reducible refine gate_dst (N := 24) rfl ?_); (try (refine gate_guard (by rfl) ?_; dsimp only)); refine Kd.R_lit k24 _ 24 ?hg (N := 24) ?hd (xs := ([(⟨3, 3, 0, 0, (⟨#[]⟩ : ByteArray)⟩ : S24)] : List (S24))) (inner := [.int .i64 3, .int .i64 3, .int .i64 0, .int .u64 0, .string (⟨#[]⟩ : ByteArray)]) (ok := fun _ => True) (okp := fun _ => True) ?hr ?hp (fun _ hk => hk) trivial (Below.refl _ _) (Nat.le_refl _) (by simp) ?_; (case hd => rfl); (case hg => rfl); (case hr => first | (go_simp; done) | (go_simp; rfl)); (case hp => exact (Reps.c5 (show Kd.M k24 _ _ _ (⟨3, 3, 0, 0, (⟨#[]⟩ : ByteArray)⟩ : S24) [.int .i64 3, .int .i64 3, .int .i64 0, .int .u64 0, .string (⟨#[]⟩ : ByteArray)] from (k24_mkM _ _ _ (⟨3, 3, 0, 0, (⟨#[]⟩ : ByteArray)⟩ : S24) )) (Reps.none _ _))); intro v188 w26 ho27 hb hg_ hnew_; clear hg_ hnew_; (first | rw [← Ny187.out] at ho27 | (simp only [Int.reduceToNat] at ho27; rw [← Ny187.out] at ho27)); have n0_ := Ax.mk (Kd.R_elder' (by apply Kd.R_to; exact (Kd.R_mono (Kd.R_far (p := ⟨gb186, 2, none⟩) (Kd.R_far (p := ⟨gb186, 1, none⟩) (Kd.R_far (p := ⟨gb186, 0, none⟩) (Kd.R_types HO169.out BK186.out (by decide)) (fun _ hk => hk.2) (.int .u64 t180)) (fun _ hk => hk.2) (.slice Ao25 t181.length co25)) (fun _ hk => hk.2) (.string t184)) (fun _ h_ => h_.1))) (Kd.R_base ho27) hb); have n1_ := Ax.mk (Kd.N_elder' (by apply Kd.N_to; exact (Kd.N_mono (Kd.N_far (p := ⟨gb186, 2, none⟩) (Kd.N_far (p := ⟨gb186, 1, none⟩) (Kd.N_far (p := ⟨gb186, 0, none⟩) (Kd.N_mono HO173.out (fun k_ hk => (⟨hk, hk.2⟩ : _ ∧ k_ ≠ gb186))) (fun _ hk => hk.2) (.int .u64 t180)) (fun _ hk => hk.2) (.slice Ao25 t181.length co25)) (fun _ hk => hk.2) (.string t184)) (fun _ h_ => h_.1))) (Kd.R_base ho27) hb); have n2_ := Ax.mk (Kd.R_elder' (by apply Kd.R_to; exact (Kd.R_mono (Kd.R_far (p := ⟨gb186, 2, none⟩) (Kd.R_far (p := ⟨gb186, 1, none⟩) (Kd.R_far (p := ⟨gb186, 0, none⟩) (Kd.R_types HO179.out BK186.out (by decide)) (fun _ hk => hk.2) (.int .u64 t180)) (fun _ hk => hk.2) (.slice Ao25 t181.length co25)) (fun _ hk => hk.2) (.string t184)) (fun _ h_ => h_.1))) (Kd.R_base ho27) hb); have n3_ := Ax.mk (Kd.N_elder' (by apply Kd.N_to; exact (Kd.N_mono (Kd.N_far (p := ⟨gb186, 2, none⟩) (Kd.N_far (p := ⟨gb186, 1, none⟩) (Kd.N_far (p := ⟨gb186, 0, none⟩) (Kd.N_mono HO183.out (fun k_ hk => (⟨hk, hk.2⟩ : _ ∧ k_ ≠ gb186))) (fun _ hk => hk.2) (.int .u64 t180)) (fun _ hk => hk.2) (.slice Ao25 t181.length co25)) (fun _ hk => hk.2) (.string t184)) (fun _ h_ => h_.1))) (Kd.R_base ho27) hb); have n4_ := Ax.mk (Kd.R_lower (Kd.R_new' (Kd.R_new' ho27 (Kd.R_lt (by apply Kd.R_to; exact (Kd.R_mono (Kd.R_far (p := ⟨gb186, 2, none⟩) (Kd.R_far (p := ⟨gb186, 1, none⟩) (Kd.R_far (p := ⟨gb186, 0, none⟩) (Kd.R_types HO169.out BK186.out (by decide)) (fun _ hk => hk.2) (.int .u64 t180)) (fun _ hk => hk.2) (.slice Ao25 t181.length co25)) (fun _ hk => hk.2) (.string t184)) (fun _ h_ => h_.1))))) (Kd.R_lt (by apply Kd.R_to; exact (Kd.R_mono (Kd.R_far (p := ⟨gb186, 2, none⟩) (Kd.R_far (p := ⟨gb186, 1, none⟩) (Kd.R_far (p := ⟨gb186, 0, none⟩) (Kd.R_types HO179.out BK186.out (by decide)) (fun _ hk => hk.2) (.int .u64 t180)) (fun _ hk => hk.2) (.slice Ao25 t181.length co25)) (fun _ hk => hk.2) (.string t184)) (fun _ h_ => h_.1))))) (bS bA)); have n5_ := Ax.mk (bB (g := gb176) (o := .cells #[.int .u64 t170, .slice Ao17 t171.length co17, .string t174] 66 (0, 0)) (by refine bT ?_; refine bR ?_ NB176_186.out _; refine bT ?_; refine bR ?_ NB176_186.out _; refine bT ?_; refine bR ?_ NB176_186.out _; exact bT BK176.out) hb); have n6_ := Ax.mk (bB (g := gb186) (o := .cells #[.int .u64 t180, .slice Ao25 t181.length co25, .string t184] 66 (0, 0)) (by refine bT ?_; refine bU (cs := #[.int .u64 t180, .slice Ao25 t181.length co25, .string (⟨#[]⟩ : ByteArray)]) ?_ 2 _ rfl; refine bT ?_; refine bU (cs := #[.int .u64 t180, .slice none 0 0, .string (⟨#[]⟩ : ByteArray)]) ?_ 1 _ rfl; refine bT ?_; refine bU (cs := #[.int .u64 0, .slice none 0 0, .string (⟨#[]⟩ : ByteArray)]) ?_ 0 _ rfl; exact bT BK186.out) hb); have n7_ := Ax.mk (bP bA hb); clear HO169; clear HO173; clear HO179; clear HO183; clear BK176; clear BK186; clear HB; have HO169 := n0_; have HO173 := n1_; have HO179 := n2_; have HO183 := n3_; have HO189 := n4_; have BK176 := n5_; have BK186 := n6_; have HB := n7_; clear n0_ n1_ n2_ n3_ n4_ n5_ n6_ n7_; clear hb ho27; obtain ⟨Ao28, co28, eo28⟩ := Kd.R_slice HO189.out; subst eo28) | ((with_reducible refine gate_callee (f := 39) rfl ?_); refine goesL_ (some 25) rfl rfl Tryd.func39 (by kernel_rfl) rfl #[.agg #[.int .u64 t180, .slice Ao25 t181.length co25, .string t184], .slice Ao28 y187.length co28] rfl (by (try simp only [List.map_toArray, List.map_cons, List.map_nil]); first | done | rfl | (simp only [List.length_drop, List.length_take]; rfl) | (rw [wrap_sum2 (by assumption)]; rfl)) ?_; (with_reducible refine (journal_Add.calls k t180 (fun k_ => (((some k_ ≠ (.slice Ao13 y167.length co13 : Value).ownBlock ∧ (some k_ ≠ (.slice Ao20 y177.length co20 : Value).ownBlock ∧ k_ ≠ gb176)) ∧ k_ ≠ gb186) ∧ some k_ ≠ (.slice Ao28 y187.length co28 : Value).ownBlock)) _ _ t181 t184 _ _ y187 t190 t191 t194 t195 _ ?side1 ?side2 ?side3 A3.out (HT.below bA)).mono ?_); (case side1 => exact Kd.N_V (HO183.out)); (case side2 => repeat (first | exact (Kd.R_reads' HO189.out).2.2 | (with_reducible refine Kd.C_alloc ?_ _) | (with_reducible refine Kd.C_drewN ?_ _) | (with_reducible refine Kd.C_drew ?_))); (case side3 => exact (Kd.R_reads' HO189.out).2.1); rintro e w29 ⟨v192, rfl, ho0, hb⟩; refine ⟨_, rfl, ?_⟩; have n0_ := Ax.mk (Kd.R_below (by exact Kd.R_to HO169.out) hb); have n1_ := Ax.mk (Kd.N_elder' (by exact Kd.N_to HO173.out) (Kd.N_base ho0) hb); have n2_ := Ax.mk (Kd.R_below (by exact Kd.R_to HO179.out) hb); have n3_ := Ax.mk (Kd.N_elder' (by exact Kd.N_to HO183.out) (Kd.N_base ho0) hb); have n4_ := Ax.mk (Kd.R_below (by exact Kd.R_to HO189.out) hb); have n5_ := Ax.mk (Kd.N_lower (Kd.N_mono (ok' := fun k_ => some k_ ≠ (.slice Ao13 y167.length co13 : Value).ownBlock ∧ some k_ ≠ (.slice Ao20 y177.length co20 : Value).ownBlock ∧ some k_ ≠ (.slice Ao28 y187.length co28 : Value).ownBlock ∧ k_ ≠ gb176 ∧ k_ ≠ gb186) ho0 (fun k_ hk_ => ⟨Or.elim hk_ (fun hs_ => hs_.1.1.1) (fun hn_ => (Kd.fresh' (Kd.R_lt (by exact Kd.R_to HO169.out)) k_ hn_)), Or.elim hk_ (fun hs_ => hs_.1.1.2.1) (fun hn_ => (Kd.fresh' (Kd.R_lt (by exact Kd.R_to HO179.out)) k_ hn_)), Or.elim hk_ (fun hs_ => hs_.2) (fun hn_ => (Kd.fresh' (Kd.R_lt (by exact Kd.R_to HO189.out)) k_ hn_)), Or.elim hk_ (fun hs_ => hs_.1.1.2.2) (fun hn_ => (Kd.freshB (g := gb176) (o := .cells #[.int .u64 t170, .slice Ao17 t171.length co17, .string t174] 66 (0, 0)) (bT BK176.out) k_ hn_)), Or.elim hk_ (fun hs_ => hs_.1.2) (fun hn_ => (Kd.freshB (g := gb186) (o := .cells #[.int .u64 t180, .slice Ao25 t181.length co25, .string t184] 66 (0, 0)) (bT BK186.out) k_ hn_))⟩)) (bS bA)); have n6_ := Ax.mk (bB (bT BK176.out) hb); have n7_ := Ax.mk (bB (bT BK186.out) hb); have n8_ := Ax.mk (bP bA hb); clear HO169; clear HO173; clear HO179; clear HO183; clear HO189; clear BK176; clear BK186; clear HB; have HO169 := n0_; have HO173 := n1_; have HO179 := n2_; have HO183 := n3_; have HO189 := n4_; have HO193 := n5_; have BK176 := n6_; have BK186 := n7_; have HB := n8_; clear n0_ n1_ n2_ n3_ n4_ n5_ n6_ n7_ n8_; (try clear hb); (try clear hb2); (try clear hk); (try clear hi); (try clear ho0)) | ((with_reducible refine gate_dst (N := 5) rfl ?_); (try (refine gate_guard (by rfl) ?_; dsimp only)); refine box_event ?hg (N := 5) ?hd (cs := #[.int .u64 0, .slice none 0 0, .string (⟨#[]⟩ : ByteArray)]) (t := 66) ?hr ?_; (case hd => rfl); (case hg => rfl); (case hr => first | (go_simp; done) | (go_simp; rfl)); intro gb196 hg w30 hbox hb; have n0_ := Ax.mk (Kd.R_below (by exact Kd.R_to HO169.out) hb); have n1_ := Ax.mk (Kd.N_below (Kd.N_elderB (by exact Kd.N_to HO173.out) gb196 (Nat.le_of_eq hg.symm)) hb); have n2_ := Ax.mk (Kd.R_below (by exact Kd.R_to HO179.out) hb); have n3_ := Ax.mk (Kd.N_below (Kd.N_elderB (by exact Kd.N_to HO183.out) gb196 (Nat.le_of_eq hg.symm)) hb); have n4_ := Ax.mk (Kd.R_below (by exact Kd.R_to HO189.out) hb); have n5_ := Ax.mk (Kd.N_below (Kd.N_elderB (by exact Kd.N_to HO193.out) gb196 (Nat.le_of_eq hg.symm)) hb); have n6_ := Ax.mk (bB (bT BK176.out) hb); have n7_ := Ax.mk (bB (bT BK186.out) hb); have n8_ := Ax.mk (bP bA hb); have n9_ := Ax.mk (hbox); have n10_ := Ax.mk ((ge_new hg : w.heap.size ≤ gb196)); have n11_ := n10_; have n12_ := Ax.mk ((ne_lt hg BK176.out : gb176 ≠ gb196)); have n13_ := Ax.mk ((ne_gt hg BK176.out : gb196 ≠ gb176)); have n14_ := Ax.mk ((ne_lt hg BK186.out : gb186 ≠ gb196)); have n15_ := Ax.mk ((ne_gt hg BK186.out : gb196 ≠ gb186)); clear HO169; clear HO173; clear HO179; clear HO183; clear HO189; clear HO193; clear BK176; clear BK186; clear HB; have HO169 := n0_; have HO173 := n1_; have HO179 := n2_; have HO183 := n3_; have HO189 := n4_; have HO193 := n5_; have BK176 := n6_; have BK186 := n7_; have HB := n8_; have BK196 := n9_; have GW196 := n10_; have GE196 := n11_; have NB176_196 := n12_; have NB196_176 := n13_; have NB186_196 := n14_; have NB196_186 := n15_; clear n0_ n1_ n2_ n3_ n4_ n5_ n6_ n7_ n8_ n9_ n10_ n11_ n12_ n13_ n14_ n15_; clear hb hbox hg; have hnb31 := NB196_176.out; have hnc31 := NB176_196.out; have hnb32 := NB196_186.out; have hnc32 := NB186_196.out; have hcz33_0 : w30.cell? ⟨gb196, 0, none⟩ = some (.int .u64 0) := (bC BK196.out 0).trans rfl; have hcz33_1 : w30.cell? ⟨gb196, 1, none⟩ = some (.slice none 0 0) := (bC BK196.out 1).trans rfl; have hcz33_2 : w30.cell? ⟨gb196, 2, none⟩ = some (.string (⟨#[]⟩ : ByteArray)) := (bC BK196.out 2).trans rfl; have hfz33_0 := bF BK196.out 0; have hfz33_1 := bF BK196.out 1; have hfz33_2 := bF BK196.out 2; obtain ⟨Ao34, co34, eo34⟩ := Kd.N_slice HO193.out; subst eo34) | ((with_reducible refine gate_callee (f := 36) rfl ?_); refine goesL_ (some 29) rfl rfl Tryd.func36 (by kernel_rfl) rfl #[.agg #[.int .u64 t190, .slice Ao34 t191.length co34, .string t194], .int .u64 6] rfl (by (try simp only [List.map_toArray, List.map_cons, List.map_nil]); first | done | rfl | (simp only [List.length_drop, List.length_take]; rfl) | (rw [wrap_sum2 (by assumption)]; rfl)) ?_; (with_reducible refine (journal_After.calls k t190 _ _ t191 t194 6 t197 _ ?side1 ?side2 A4.out).mono ?_); (case side1 => refine (Kd.N_reads' (e := 44) (base := w.heap.size) (ok := fun k_ => ((some k_ ≠ (.slice Ao13 y167.length co13 : Value).ownBlock ∧ (some k_ ≠ (.slice Ao20 y177.length co20 : Value).ownBlock ∧ (some k_ ≠ (.slice Ao28 y187.length co28 : Value).ownBlock ∧ (k_ ≠ gb176 ∧ k_ ≠ gb186)))) ∧ k_ ≠ gb196)) (n := t191.length) (c := co34) ?_).2.2; exact (by apply Kd.N_to; exact (Kd.N_mono (Kd.N_far (p := ⟨gb196, 2, none⟩) (Kd.N_far (p := ⟨gb196, 1, none⟩) (Kd.N_far (p := ⟨gb196, 0, none⟩) (Kd.N_mono HO193.out (fun k_ hk => (⟨hk, hk.2⟩ : _ ∧ k_ ≠ gb196))) (fun _ hk => hk.2) (.int .u64 t190)) (fun _ hk => hk.2) (.slice Ao34 t191.length co34)) (fun _ hk => hk.2) (.string t194)) (fun _ h_ => h_.1)))); (case side2 => exact (Kd.N_reads' HO193.out).2.1); rintro e w35 ⟨v198, rfl, ho0, hb⟩; refine ⟨_, rfl, ?_⟩; have n0_ := Ax.mk (Kd.R_elder' (by apply Kd.R_to; exact (Kd.R_mono (Kd.R_far (p := ⟨gb196, 2, none⟩) (Kd.R_far (p := ⟨gb196, 1, none⟩) (Kd.R_far (p := ⟨gb196, 0, none⟩) (Kd.R_types HO169.out BK196.out (by decide)) (fun _ hk => hk.2) (.int .u64 t190)) (fun _ hk => hk.2) (.slice Ao34 t191.length co34)) (fun _ hk => hk.2) (.string t194)) (fun _ h_ => h_.1))) (Kd.R_base ho0) hb); have n1_ := Ax.mk (Kd.N_elder' (by apply Kd.N_to; exact (Kd.N_mono (Kd.N_far (p := ⟨gb196, 2, none⟩) (Kd.N_far (p := ⟨gb196, 1, none⟩) (Kd.N_far (p := ⟨gb196, 0, none⟩) (Kd.N_mono HO173.out (fun k_ hk => (⟨hk, hk.2⟩ : _ ∧ k_ ≠ gb196))) (fun _ hk => hk.2) (.int .u64 t190)) (fun _ hk => hk.2) (.slice Ao34 t191.length co34)) (fun _ hk => hk.2) (.string t194)) (fun _ h_ => h_.1))) (Kd.R_base ho0) hb); have n2_ := Ax.mk (Kd.R_elder' (by apply Kd.R_to; exact (Kd.R_mono (Kd.R_far (p := ⟨gb196, 2, none⟩) (Kd.R_far (p := ⟨gb196, 1, none⟩) (Kd.R_far (p := ⟨gb196, 0, none⟩) (Kd.R_types HO179.out BK196.out (by decide)) (fun _ hk => hk.2) (.int .u64 t190)) (fun _ hk => hk.2) (.slice Ao34 t191.length co34)) (fun _ hk => hk.2) (.string t194)) (fun _ h_ => h_.1))) (Kd.R_base ho0) hb); have n3_ := Ax.mk (Kd.N_elder' (by apply Kd.N_to; exact (Kd.N_mono (Kd.N_far (p := ⟨gb196, 2, none⟩) (Kd.N_far (p := ⟨gb196, 1, none⟩) (Kd.N_far (p := ⟨gb196, 0, none⟩) (Kd.N_mono HO183.out (fun k_ hk => (⟨hk, hk.2⟩ : _ ∧ k_ ≠ gb196))) (fun _ hk => hk.2) (.int .u64 t190)) (fun _ hk => hk.2) (.slice Ao34 t191.length co34)) (fun _ hk => hk.2) (.string t194)) (fun _ h_ => h_.1))) (Kd.R_base ho0) hb); have n4_ := Ax.mk (Kd.R_elder' (by apply Kd.R_to; exact (Kd.R_mono (Kd.R_far (p := ⟨gb196, 2, none⟩) (Kd.R_far (p := ⟨gb196, 1, none⟩) (Kd.R_far (p := ⟨gb196, 0, none⟩) (Kd.R_types HO189.out BK196.out (by decide)) (fun _ hk => hk.2) (.int .u64 t190)) (fun _ hk => hk.2) (.slice Ao34 t191.length co34)) (fun _ hk => hk.2) (.string t194)) (fun _ h_ => h_.1))) (Kd.R_base ho0) hb); have n5_ := Ax.mk (Kd.N_elder' (by apply Kd.N_to; exact (Kd.N_mono (Kd.N_far (p := ⟨gb196, 2, none⟩) (Kd.N_far (p := ⟨gb196, 1, none⟩) (Kd.N_far (p := ⟨gb196, 0, none⟩) (Kd.N_mono HO193.out (fun k_ hk => (⟨hk, hk.2⟩ : _ ∧ k_ ≠ gb196))) (fun _ hk => hk.2) (.int .u64 t190)) (fun _ hk => hk.2) (.slice Ao34 t191.length co34)) (fun _ hk => hk.2) (.string t194)) (fun _ h_ => h_.1))) (Kd.R_base ho0) hb); have n6_ := Ax.mk (Kd.R_lower (Kd.R_new' (Kd.R_new' (Kd.R_new' ho0 (Kd.R_lt (by apply Kd.R_to; exact (Kd.R_mono (Kd.R_far (p := ⟨gb196, 2, none⟩) (Kd.R_far (p := ⟨gb196, 1, none⟩) (Kd.R_far (p := ⟨gb196, 0, none⟩) (Kd.R_types HO169.out BK196.out (by decide)) (fun _ hk => hk.2) (.int .u64 t190)) (fun _ hk => hk.2) (.slice Ao34 t191.length co34)) (fun _ hk => hk.2) (.string t194)) (fun _ h_ => h_.1))))) (Kd.R_lt (by apply Kd.R_to; exact (Kd.R_mono (Kd.R_far (p := ⟨gb196, 2, none⟩) (Kd.R_far (p := ⟨gb196, 1, none⟩) (Kd.R_far (p := ⟨gb196, 0, none⟩) (Kd.R_types HO179.out BK196.out (by decide)) (fun _ hk => hk.2) (.int .u64 t190)) (fun _ hk => hk.2) (.slice Ao34 t191.length co34)) (fun _ hk => hk.2) (.string t194)) (fun _ h_ => h_.1))))) (Kd.R_lt (by apply Kd.R_to; exact (Kd.R_mono (Kd.R_far (p := ⟨gb196, 2, none⟩) (Kd.R_far (p := ⟨gb196, 1, none⟩) (Kd.R_far (p := ⟨gb196, 0, none⟩) (Kd.R_types HO189.out BK196.out (by decide)) (fun _ hk => hk.2) (.int .u64 t190)) (fun _ hk => hk.2) (.slice Ao34 t191.length co34)) (fun _ hk => hk.2) (.string t194)) (fun _ h_ => h_.1))))) (bS bA)); have n7_ := Ax.mk (bB (g := gb176) (o := .cells #[.int .u64 t170, .slice Ao17 t171.length co17, .string t174] 66 (0, 0)) (by refine bT ?_; refine bR ?_ NB176_196.out _; refine bT ?_; refine bR ?_ NB176_196.out _; refine bT ?_; refine bR ?_ NB176_196.out _; exact bT BK176.out) hb); have n8_ := Ax.mk (bB (g := gb186) (o := .cells #[.int .u64 t180, .slice Ao25 t181.length co25, .string t184] 66 (0, 0)) (by refine bT ?_; refine bR ?_ NB186_196.out _; refine bT ?_; refine bR ?_ NB186_196.out _; refine bT ?_; refine bR ?_ NB186_196.out _; exact bT BK186.out) hb); have n9_ := Ax.mk (bB (g := gb196) (o := .cells #[.int .u64 t190, .slice Ao34 t191.length co34, .string t194] 66 (0, 0)) (by refine bT ?_; refine bU (cs := #[.int .u64 t190, .slice Ao34 t191.length co34, .string (⟨#[]⟩ : ByteArray)]) ?_ 2 _ rfl; refine bT ?_; refine bU (cs := #[.int .u64 t190, .slice none 0 0, .string (⟨#[]⟩ : ByteArray)]) ?_ 1 _ rfl; refine bT ?_; refine bU (cs := #[.int .u64 0, .slice none 0 0, .string (⟨#[]⟩ : ByteArray)]) ?_ 0 _ rfl; exact bT BK196.out) hb); have n10_ := Ax.mk (bP bA hb); clear HO169; clear HO173; clear HO179; clear HO183; clear HO189; clear HO193; clear BK176; clear BK186; clear BK196; clear HB; have HO169 := n0_; have HO173 := n1_; have HO179 := n2_; have HO183 := n3_; have HO189 := n4_; have HO193 := n5_; have HO199 := n6_; have BK176 := n7_; have BK186 := n8_; have BK196 := n9_; have HB := n10_; clear n0_ n1_ n2_ n3_ n4_ n5_ n6_ n7_ n8_ n9_ n10_; (try clear hb); (try clear hb2); (try clear hk); (try clear hi); (try clear ho0); have hcz36_0 : w35.cell? ⟨gb196, 0, none⟩ = some (.int .u64 t190) := (bC BK196.out 0).trans rfl; have hcz36_1 : w35.cell? ⟨gb196, 1, none⟩ = some (.slice Ao34 t191.length co34) := (bC BK196.out 1).trans rfl; have hcz36_2 : w35.cell? ⟨gb196, 2, none⟩ = some (.string t194) := (bC BK196.out 2).trans rfl; have hfz36_0 := bF BK196.out 0; have hfz36_1 := bF BK196.out 1; have hfz36_2 := bF BK196.out 2; obtain ⟨Ao37, co37, eo37⟩ := Kd.R_slice HO199.out; subst eo37; have p200 : 0 ≤ (0 : Int) := (by omega); have q200 : 0 < (t197.length : Int) := of_decide_eq_true (by first | (with_reducible assumption) | assumption); obtain ⟨ad200, e200, hx200_0, hx200_1, hx200_2, hx200_3, hx200_4⟩ := at_T24 (Kd.R_reads' HO199.out).2.2 0 p200 q200; cases e200; have qi200 : (0 < t197.length) = True := eq_true (by omega); (try rw [show ((0 : Int)).toNat = 0 from rfl] at hx200_0); (try rw [show 0 * 5 = 0 from rfl] at hx200_0); (try rw [Addr.add_zero'] at hx200_0); (try rw [show ((0 : Int)).toNat = 0 from rfl] at hx200_1); (try rw [show 0 * 5 = 0 from rfl] at hx200_1); (try rw [Addr.add_zero'] at hx200_1); (try rw [show ((0 : Int)).toNat = 0 from rfl] at hx200_2); (try rw [show 0 * 5 = 0 from rfl] at hx200_2); (try rw [Addr.add_zero'] at hx200_2); (try rw [show ((0 : Int)).toNat = 0 from rfl] at hx200_3); (try rw [show 0 * 5 = 0 from rfl] at hx200_3); (try rw [Addr.add_zero'] at hx200_3); (try rw [show ((0 : Int)).toNat = 0 from rfl] at hx200_4); (try rw [show 0 * 5 = 0 from rfl] at hx200_4); (try rw [Addr.add_zero'] at hx200_4); replace p200 := eq_true p200; replace q200 := eq_true q200))
       go_ret
       exact ⟨by first | rfl | (simp [errW_none, errW_some] <;> rfl) | (simp [*, errW_none, errW_some] <;> rfl), bA⟩
      ·rw [if_neg c10] at H
       exact absurd H (by simp)
     ·rw [if_neg c9] at H
      exact absurd H (by simp)
    ·rw [if_neg c8] at H
     exact absurd H (by simp)
   ·rw [if_neg c7] at H
    exact absurd H (by simp)
  ·rw [if_neg c6] at H
   exact absurd H (by simp)
 ·rw [if_neg c5] at H
  exact absurd H (by simp)
end Go.Proofs.YtboommbclbjlnaaDoor.Fn
end
section
namespace Go.Proofs.YtboommbclbjlnaaDoor.Fn
open Go.RowKit Go.Proofs.YtboommbclbjlnaaDoorW.PrintWords Go.Proofs.YtboommbclbjlnaaDoorW.PrintLast Go.Proofs.YtboommbclbjlnaaDoorW.PrintMore Go.Proofs.YtboommbclbjlnaaDoor.Lf
open List (setIfInBounds_toArray set_cons_zero set_cons_succ)
attribute [local go_sem] max2_int min2_int max_two min_two max_three min_three max_four min_four   -- for this text's walks alone
set_option linter.unusedVariables false
set_option linter.unusedSimpArgs false
mutual
def l13_JournalAfter.j0 : Nat → Int → List (List (S24)) → Int → Bool → Bool → Option (Bool)
 | 0, _, _, _, _, _ => none
 | k + 1, x0, x1, x2, x7, x33 => if x33 = true then (some x7) else ((journal_New.f k x0 ([] : List (S24))).bind fun bt216 => (if ([] : List Int).length < 17592186044416 then (l13_JournalAfter.l0 k x0 x1 x2 ([] : List (S24)) (([] : List Int) ++ [0]) 0 bt216.1 bt216.2.1 bt216.2.2.1) else (none)))
def l13_JournalAfter.l0 : Nat → Int → List (List (S24)) → Int → List (S24) → List Int → Int → Int → List (S44) → ByteArray → Option (Bool)
 | 0, _, _, _, _, _, _, _, _, _ => none
 | k + 1, x0, x1, x2, x11, x12, x13, x223000, x223001, x223002 => if x13 < (x1.length : Int) then (if 0 ≤ x13 then ((journal_Add.f k x223000 x223001 x223002 (rd_L4 x1 x13)).bind fun bt227 => (if bt227.2.2.2 = 0 then (if bt227.1 = (IntKind.u64.wrap (x223000 + 1)) then (if (bt227.2.1.length : Int) = (wrap64 ((x223001.length : Int) + 1)) then (if 0 ≤ (x223002.size : Int) then (if (x223002.size : Int) ≤ (bt227.2.2.1.size : Int) then (if (bt227.2.2.1.extract 0 ((x223002.size : Int) : Int).toNat).toList = x223002.toList then (if x11.length + (rd_L4 x1 x13).length < 2932031007402 then ((some (x11 ++ (rd_L4 x1 x13) : List (S24))).bind fun y235 => (if x12.length < 17592186044416 then (l13_JournalAfter.l0 k x0 x1 x2 y235 (x12 ++ [(y235.length : Int)]) (wrap64 (x13 + 1)) bt227.1 bt227.2.1 bt227.2.2.1) else (none))) else (none)) else (none)) else (none)) else (none)) else (none)) else (none)) else (l13_JournalAfter.l0 k x0 x1 x2 x11 x12 (wrap64 (x13 + 1)) x223000 x223001 x223002))) else (none)) else ((journal_After.f k x223000 x223001 x223002 (IntKind.u64.wrap (x0 - 1))).bind fun t241 => ((l13_steps.f k x11).bind fun t244 => ((l13_sameSteps.f k t241 t244).bind fun t247 => (if t247 = true then ((journal_After.f k x223000 x223001 x223002 (IntKind.u64.wrap (x0 + (IntKind.u64.wrap (mx 0 (mn x2 (wrap64 ((x12.length : Int) - 1)))))))).bind fun t248 => (if 0 ≤ (mx 0 (mn x2 (wrap64 ((x12.length : Int) - 1)))) then (if (mx 0 (mn x2 (wrap64 ((x12.length : Int) - 1)))) < (x12.length : Int) then (if 0 ≤ (rd x12 (mx 0 (mn x2 (wrap64 ((x12.length : Int) - 1))))) then (if (rd x12 (mx 0 (mn x2 (wrap64 ((x12.length : Int) - 1))))) ≤ (x11.length : Int) then ((l13_steps.f k (x11.drop ((rd x12 (mx 0 (mn x2 (wrap64 ((x12.length : Int) - 1))))) : Int).toNat)).bind fun t257 => ((l13_sameSteps.f k t248 t257).bind fun t260 => (if t260 = true then ((journal_After.f k x223000 x223001 x223002 x223000).bind fun t261 => (some ((t261.length : Int) == 0))) else (none)))) else (none)) else (none)) else (none)) else (none))) else (none)))))
end
def l13_JournalAfter.f (k : Nat) (a0 : Int) (l1 : List (List (S24))) (a2 : Int) : Option (Bool) := (l13_shown.f k).bind fun t214 => ((l13_short.f k l1).bind fun t215 => (if t214 = true then (if t215 = true then (if a0 = 0 then (l13_JournalAfter.j0 k a0 l1 a2 t214 true) else (l13_JournalAfter.j0 k a0 l1 a2 t214 (decide (a0 > 1099511627776)))) else (l13_JournalAfter.j0 k a0 l1 a2 t214 true)) else (l13_JournalAfter.j0 k a0 l1 a2 t214 true)))
theorem l13_JournalAfter.mono_l : ∀ k, (∀ y0 y1 y2 y3 y4, LeO (l13_JournalAfter.j0 k y0 y1 y2 y3 y4) (l13_JournalAfter.j0 (k + 1) y0 y1 y2 y3 y4)) ∧ (∀ y0 y1 y2 y3 y4 y5 y6 y7 y8, LeO (l13_JournalAfter.l0 k y0 y1 y2 y3 y4 y5 y6 y7 y8) (l13_JournalAfter.l0 (k + 1) y0 y1 y2 y3 y4 y5 y6 y7 y8))
 | 0 => ⟨fun _ _ _ _ _ r h => by simp [l13_JournalAfter.j0] at h, fun _ _ _ _ _ _ _ _ _ r h => by simp [l13_JournalAfter.l0] at h⟩
 | k + 1 => by
  obtain ⟨ih0, ih1⟩ := l13_JournalAfter.mono_l k
  refine ⟨?_, ?_⟩
  ·intro y0 y1 y2 y3 y4
   unfold l13_JournalAfter.j0
   repeat' first
   | (with_reducible exact ih0 _ _ _ _ _)
   | (with_reducible exact ih1 _ _ _ _ _ _ _ _ _)
   | (with_reducible exact journal_Add.mono _ _ _ _ _)
   | (with_reducible exact journal_After.mono _ _ _ _ _)
   | (with_reducible exact journal_New.mono _ _ _)
   | (with_reducible exact l13_sameSteps.mono _ _ _)
   | (with_reducible exact l13_short.mono _ _)
   | (with_reducible exact l13_shown.mono _)
   | (with_reducible exact l13_steps.mono _ _)
   | (with_reducible exact LeO.refl _)
   | (with_reducible exact LeO.none _)
   | (with_reducible refine LeO.ite ?_ ?_)
   | (with_reducible refine LeO.bind ?_ (fun _ => ?_))
   | exact ih0 _ _ _ _ _
   | exact ih1 _ _ _ _ _ _ _ _ _
   | exact journal_Add.mono _ _ _ _ _
   | exact journal_After.mono _ _ _ _ _
   | exact journal_New.mono _ _ _
   | exact l13_sameSteps.mono _ _ _
   | exact l13_short.mono _ _
   | exact l13_shown.mono _
   | exact l13_steps.mono _ _
   | exact LeO.none _
   | refine LeO.ite ?_ ?_
   | refine LeO.bind ?_ (fun _ => ?_)
  ·intro y0 y1 y2 y3 y4 y5 y6 y7 y8
   unfold l13_JournalAfter.l0
   repeat' first
   | (with_reducible exact ih0 _ _ _ _ _)
   | (with_reducible exact ih1 _ _ _ _ _ _ _ _ _)
   | (with_reducible exact journal_Add.mono _ _ _ _ _)
   | (with_reducible exact journal_After.mono _ _ _ _ _)
   | (with_reducible exact journal_New.mono _ _ _)
   | (with_reducible exact l13_sameSteps.mono _ _ _)
   | (with_reducible exact l13_short.mono _ _)
   | (with_reducible exact l13_shown.mono _)
   | (with_reducible exact l13_steps.mono _ _)
   | (with_reducible exact LeO.refl _)
   | (with_reducible exact LeO.none _)
   | (with_reducible refine LeO.ite ?_ ?_)
   | (with_reducible refine LeO.bind ?_ (fun _ => ?_))
   | exact ih0 _ _ _ _ _
   | exact ih1 _ _ _ _ _ _ _ _ _
   | exact journal_Add.mono _ _ _ _ _
   | exact journal_After.mono _ _ _ _ _
   | exact journal_New.mono _ _ _
   | exact l13_sameSteps.mono _ _ _
   | exact l13_short.mono _ _
   | exact l13_shown.mono _
   | exact l13_steps.mono _ _
   | exact LeO.none _
   | refine LeO.ite ?_ ?_
   | refine LeO.bind ?_ (fun _ => ?_)
theorem l13_JournalAfter.mono : ∀ a0 a1 a2 k, LeO (l13_JournalAfter.f k a0 a1 a2) (l13_JournalAfter.f (k + 1) a0 a1 a2) := by
 intro a0 a1 a2 k
 obtain ⟨ih0, ih1⟩ := l13_JournalAfter.mono_l k
 unfold l13_JournalAfter.f
 repeat' first
   | (with_reducible exact ih0 _ _ _ _ _)
   | (with_reducible exact ih1 _ _ _ _ _ _ _ _ _)
   | (with_reducible exact journal_Add.mono _ _ _ _ _)
   | (with_reducible exact journal_After.mono _ _ _ _ _)
   | (with_reducible exact journal_New.mono _ _ _)
   | (with_reducible exact l13_sameSteps.mono _ _ _)
   | (with_reducible exact l13_short.mono _ _)
   | (with_reducible exact l13_shown.mono _)
   | (with_reducible exact l13_steps.mono _ _)
   | (with_reducible exact LeO.refl _)
   | (with_reducible exact LeO.none _)
   | (with_reducible refine LeO.ite ?_ ?_)
   | (with_reducible refine LeO.bind ?_ (fun _ => ?_))
   | exact ih0 _ _ _ _ _
   | exact ih1 _ _ _ _ _ _ _ _ _
   | exact journal_Add.mono _ _ _ _ _
   | exact journal_After.mono _ _ _ _ _
   | exact journal_New.mono _ _ _
   | exact l13_sameSteps.mono _ _ _
   | exact l13_short.mono _ _
   | exact l13_shown.mono _
   | exact l13_steps.mono _ _
   | exact LeO.none _
   | refine LeO.ite ?_ ?_
   | refine LeO.bind ?_ (fun _ => ?_)
def l13_JournalAfter.T12 : Bool × List (List Nat × List Nat) := (true, [([], []), ([], []), ([], []), ([1, 2], [1, 2]), ([3], [3]), ([0, 4], [0, 4]), ([5], [5]), ([6], [6]), ([6], [6]), ([], []), ([9, 7, 5, 0, 1, 2, 3, 4, 5, 6, 7, 9], [7, 9]), ([8, 10, 0, 1, 2, 3, 4, 5, 6, 7, 8, 9, 10], [8])])
def l13_JournalAfter.B12 : List Nat := [0, 0, 0, 6, 14, 31, 63, 127, 127, 0, 767, 2047]
theorem l13_JournalAfter.tab12 : rtab .any (opsOf Tryd.f11 12) = l13_JournalAfter.T12 := by kernel_rfl
theorem l13_JournalAfter.bits12 : waitsOk l13_JournalAfter.T12.2 l13_JournalAfter.B12 = true := by kernel_rfl
def l13_JournalAfter.T14 : Bool × List (List Nat × List Nat) := (true, [([], []), ([0], [0]), ([], []), ([2], [2]), ([3], [3]), ([1, 4], [1, 4]), ([5], [5]), ([6], [6]), ([7, 6], [6, 7]), ([8, 6], [6, 8]), ([6], [6]), ([10, 6], [6, 10]), ([11, 6], [6, 11]), ([12, 6], [6, 12]), ([9, 13, 6], [6, 9, 13]), ([6, 14], [6, 14]), ([15, 6], [15]), ([16], [16]), ([17, 16], [16, 17]), ([16], [16]), ([19, 16], [16, 19]), ([20, 16], [16, 20]), ([18, 21, 16], [16, 18, 21]), ([16], [16]), ([23, 16], [16, 23]), ([22, 24, 16], [16, 22, 24]), ([16, 25], [16, 25])])
def l13_JournalAfter.B14 : List Nat := [0, 1, 0, 4, 12, 31, 63, 127, 255, 511, 127, 1151, 3199, 7295, 16383, 32767, 65535, 131071, 262143, 131071, 655359, 1703935, 4194303, 131071, 8519679, 33554431, 67108863]
theorem l13_JournalAfter.tab14 : rtab .any (opsOf Tryd.f11 14) = l13_JournalAfter.T14 := by kernel_rfl
theorem l13_JournalAfter.bits14 : waitsOk l13_JournalAfter.T14.2 l13_JournalAfter.B14 = true := by kernel_rfl
def l13_JournalAfter.T20 : Bool × List (List Nat × List Nat) := (true, [([], []), ([], []), ([1], [1]), ([0, 2], [0, 2]), ([], []), ([4, 3], [4]), ([3, 5, 5], [3, 5]), ([6, 6], [6]), ([7], [7]), ([7], [7]), ([7], [7]), ([10, 7], [7, 10]), ([9, 11, 7], [7, 9, 11]), ([8, 12, 7, 7], [7, 8, 12]), ([7], [7]), ([7], [7]), ([7], [7]), ([15, 16, 7], [7, 15, 16]), ([17, 7], [7, 17]), ([14, 18, 7], [7, 14, 18]), ([19, 13, 7], [7, 19]), ([13, 20, 20, 7], [7, 13, 20]), ([7, 21], [7, 21]), ([22, 21], [22]), ([23], [23]), ([23], [23]), ([25, 23], [23, 25]), ([24, 26, 23, 23], [23, 24, 26]), ([27, 23], [23, 27]), ([28, 23], [23, 28]), ([23, 29], [23, 29]), ([30, 27, 0, 1, 2, 3, 4, 5, 6, 7, 8, 9, 10, 11, 12, 13, 14, 15, 16, 17, 18, 19, 20, 21, 22, 23, 24, 25, 26, 27, 28, 29, 30], [30])])
def l13_JournalAfter.B20 : List Nat := [0, 0, 2, 7, 0, 31, 63, 127, 255, 255, 255, 1279, 3839, 8191, 255, 255, 255, 98559, 229631, 508159, 1048575, 2097151, 4194303, 8388607, 16777215, 16777215, 50331647, 134217727, 268435455, 536870911, 1073741823, 2147483647]
theorem l13_JournalAfter.tab20 : rtab .any (opsOf Tryd.f11 20) = l13_JournalAfter.T20 := by kernel_rfl
theorem l13_JournalAfter.bits20 : waitsOk l13_JournalAfter.T20.2 l13_JournalAfter.B20 = true := by kernel_rfl
set_option maxHeartbeats 8000000 in
set_option maxRecDepth 100000 in
theorem l13_JournalAfter.calls (k : Nat) (a0 : Int) (A1 : Option Addr) (c1 : Nat) (l1 : List (List (S24))) (a2 : Int) (r : Bool) (w : World) (hr1 : Kd.C (Kd.slice 24 k24) w A1 l1.length l1) (hc1 : l1.length ≤ c1) (h : l13_JournalAfter.f k a0 l1 a2 = some r) (HT : Tabs w) :
  Calls Tryd.prog 11 #[.int .u64 a0, .slice A1 l1.length c1, .int .i64 a2] w fun e w' => e = .returned (.bool r) ∧ Below w.heap.size w w' := by
 have hu66 := Tryd.underlying66
 have HR1 := Ax.mk hr1
 have HC1 := Ax.mk hc1
 clear hr1 hc1
 have HB := Ax.mk (Below.refl w.heap.size w)
 have H : ((l13_shown.f k).bind fun t214 => ((l13_short.f k l1).bind fun t215 => (if t214 = true then (if t215 = true then (if a0 = 0 then (l13_JournalAfter.j0 k a0 l1 a2 t214 true) else (l13_JournalAfter.j0 k a0 l1 a2 t214 (decide (a0 > 1099511627776)))) else (l13_JournalAfter.j0 k a0 l1 a2 t214 true)) else (l13_JournalAfter.j0 k a0 l1 a2 t214 true)))) = some r := h
 clear h
 replace H := Option.bind_eq_some_iff.mp H
 obtain ⟨t214, A40, H⟩ := H
 replace H : ((l13_short.f k l1).bind fun t215 => (if t214 = true then (if t215 = true then (if a0 = 0 then (l13_JournalAfter.j0 k a0 l1 a2 t214 true) else (l13_JournalAfter.j0 k a0 l1 a2 t214 (decide (a0 > 1099511627776)))) else (l13_JournalAfter.j0 k a0 l1 a2 t214 true)) else (l13_JournalAfter.j0 k a0 l1 a2 t214 true))) = some r := H
 have A4 := Ax.mk A40
 clear A40
 replace H := Option.bind_eq_some_iff.mp H
 obtain ⟨t215, A50, H⟩ := H
 replace H : (if t214 = true then (if t215 = true then (if a0 = 0 then (l13_JournalAfter.j0 k a0 l1 a2 t214 true) else (l13_JournalAfter.j0 k a0 l1 a2 t214 (decide (a0 > 1099511627776)))) else (l13_JournalAfter.j0 k a0 l1 a2 t214 true)) else (l13_JournalAfter.j0 k a0 l1 a2 t214 true)) = some r := H
 have A5 := Ax.mk A50
 clear A50
 have HC6 := Ax.mk H
 clear H
 go_enter Tryd.func11, Tryd.ntmps11
 go_upto_region 3 with (first | ((with_reducible refine gate_callee (f := 31) rfl ?_); refine goesL_ (some 17) rfl rfl Tryd.func31 (by kernel_rfl) rfl #[] rfl (by (try simp only [List.map_toArray, List.map_cons, List.map_nil]); first | done | rfl | (simp only [List.length_drop, List.length_take]; rfl) | (rw [wrap_sum2 (by assumption)]; rfl)) ?_; (with_reducible refine (l13_shown.calls k  t214 _ A4.out (HT.below bA)).mono ?_); rintro e w7 ⟨rfl, hb⟩; refine ⟨_, rfl, ?_⟩; have n0_ := Ax.mk (bP bA hb); clear HB; have HB := n0_; clear n0_; (try clear hb); (try clear hb2); (try clear hk); (try clear hi)) | ((with_reducible refine gate_callee (f := 33) rfl ?_); refine goesL_ (some 19) rfl rfl Tryd.func33 (by kernel_rfl) rfl #[.slice A1 l1.length c1] rfl (by (try simp only [List.map_toArray, List.map_cons, List.map_nil]); first | done | rfl | (simp only [List.length_drop, List.length_take]; rfl) | (rw [wrap_sum2 (by assumption)]; rfl)) ?_; (with_reducible refine (l13_short.calls k _ _ l1 t215 _ ?side1 ?side2 A5.out).mono ?_); (case side1 => repeat (first | exact (Kd.C_below HR1.out HB.out) | (with_reducible refine Kd.C_alloc ?_ _) | (with_reducible refine Kd.C_drewN ?_ _) | (with_reducible refine Kd.C_drew ?_))); (case side2 => exact HC1.out); rintro e w' ⟨rfl, ⟨nd, rfl⟩⟩; refine ⟨_, rfl, ?_⟩))
 (try simp only [Act.put, setIfInBounds_toArray, set_cons_zero, set_cons_succ])
 go_cut [33] (fun v33 wc => ∃ (kq : Nat) (x33_5 : Bool), v33 = .bool x33_5 ∧ Ax (l13_JournalAfter.j0 kq a0 l1 a2 t214 x33_5 = some r) ∧ Ax (kq ≤ k) ∧ Ax (Below w.heap.size w wc))
 case first =>
  have H := HC6.out
  clear HC6
  by_cases c8 : t214 = true
  ·subst c8
   have H1 : (if t215 = true then (if a0 = 0 then (l13_JournalAfter.j0 k a0 l1 a2 true true) else (l13_JournalAfter.j0 k a0 l1 a2 true (decide (a0 > 1099511627776)))) else (l13_JournalAfter.j0 k a0 l1 a2 true true)) = some r := by rw [if_pos rfl] at H; exact H
   clear H
   have H := H1
   clear H1
   by_cases c9 : t215 = true
   ·subst c9
    have H1 : (if a0 = 0 then (l13_JournalAfter.j0 k a0 l1 a2 true true) else (l13_JournalAfter.j0 k a0 l1 a2 true (decide (a0 > 1099511627776)))) = some r := by rw [if_pos rfl] at H; exact H
    clear H
    have H := H1
    clear H1
    by_cases c10 : a0 = 0
    ·rw [if_pos c10] at H
     have c10b0 : (a0 == 0) = true := beq_iff_eq.mpr c10
     have c10b1 : (a0 != 0) = false := bne_eq_false_iff_eq.mpr c10
     clear c10
     (first | rw [c10b0] | (simp only [i64_w, i32_w]; rw [c10b0]) | skip)
     have H' := Ax.mk H
     clear H
     go_wp2
     go_meet
     case rel => exact ⟨_, (true), (by first | rfl | (simp; done) | (simp [*]; done)), H', ⟨by first | omega | exact Nat.le_refl _⟩, ⟨bA⟩⟩
    ·rw [if_neg c10] at H
     have c10b0 : (a0 == 0) = false := beq_eq_false_iff_ne.mpr c10
     have c10b1 : (a0 != 0) = true := bne_iff_ne.mpr c10
     (first | rw [c10b0] | (simp only [i64_w, i32_w]; rw [c10b0]) | skip)
     have H' := Ax.mk H
     clear H
     go_wp2
     go_meet
     case rel => exact ⟨_, (decide (a0 > 1099511627776)), (by first | rfl | (simp; done) | (simp [*]; done)), H', ⟨by first | omega | exact Nat.le_refl _⟩, ⟨bA⟩⟩
   ·replace c9 := Bool.eq_false_iff.mpr c9
    subst c9
    have H1 : (l13_JournalAfter.j0 k a0 l1 a2 true true) = some r := by rw [if_neg (show ¬ (false = true) by decide)] at H; exact H
    clear H
    have H := H1
    clear H1
    have H' := Ax.mk H
    clear H
    go_wp2
    go_meet
    case rel => exact ⟨_, (true), (by first | rfl | (simp; done) | (simp [*]; done)), H', ⟨by first | omega | exact Nat.le_refl _⟩, ⟨bA⟩⟩
  ·replace c8 := Bool.eq_false_iff.mpr c8
   subst c8
   have H1 : (l13_JournalAfter.j0 k a0 l1 a2 false true) = some r := by rw [if_neg (show ¬ (false = true) by decide)] at H; exact H
   clear H
   have H := H1
   clear H1
   have H' := Ax.mk H
   clear H
   go_wp2
   go_meet
   case rel => exact ⟨_, (true), (by first | rfl | (simp; done) | (simp [*]; done)), H', ⟨by first | omega | exact Nat.le_refl _⟩, ⟨bA⟩⟩
 case rest =>
  clear HC6
  try clear c1
  try clear p2
  try clear c3
  try clear c8
  try clear c9
  try clear c10
  try clear c10b0
  try clear c10b1
  obtain ⟨kq, x33_5, rfl, HA, HJ5, HB⟩ := hcut
  cases kq with
  | zero => exact absurd HA.out (by simp [l13_JournalAfter.j0])
  | succ kj5 =>
   have H := HA.out
   clear HA
   simp only [l13_JournalAfter.j0] at H
   by_cases c11 : x33_5 = true
   ·subst c11
    have H1 : (some t214) = some r := by rw [if_pos rfl] at H; exact H
    clear H
    have H := H1
    clear H1
    obtain rfl := Option.some.inj H
    go_wp2
    go_ret
    exact ⟨by first | rfl | (simp [errW_none, errW_some] <;> rfl) | (simp [*, errW_none, errW_some] <;> rfl), bA⟩
   ·replace c11 := Bool.eq_false_iff.mpr c11
    subst c11
    have H1 : ((journal_New.f kj5 a0 ([] : List (S24))).bind fun bt216 => (if ([] : List Int).length < 17592186044416 then (l13_JournalAfter.l0 kj5 a0 l1 a2 ([] : List (S24)) (([] : List Int) ++ [0]) 0 bt216.1 bt216.2.1 bt216.2.2.1) else (none))) = some r := by rw [if_neg (show ¬ (false = true) by decide)] at H; exact H
    clear H
    have H := H1
    clear H1
    replace H := Option.bind_eq_some_iff.mp H
    obtain ⟨⟨t216, t217, t220, t221⟩, A120, H⟩ := H
    replace H : (if ([] : List Int).length < 17592186044416 then (l13_JournalAfter.l0 kj5 a0 l1 a2 ([] : List (S24)) (([] : List Int) ++ [0]) 0 t216 t217 t220) else (none)) = some r := H
    have A12 := Ax.mk A120
    clear A120
    by_cases c13 : ([] : List Int).length < 17592186044416
    ·rw [if_pos c13] at H
     have LMc13 := Ax.mk c13
     clear c13
     obtain ⟨y223, hy223⟩ : ∃ y_ : List Int, y_ = (([] : List Int) ++ [0]) := ⟨_, rfl⟩
     replace H : (l13_JournalAfter.l0 kj5 a0 l1 a2 ([] : List (S24)) y223 0 t216 t217 t220) = some r := by first | (rw [hy223]; with_reducible exact H) | (have H2_ := (Option.bind_some _ _).symm.trans H; rw [hy223]; with_reducible exact H2_) | (have H2_ := (Option.bind_some _ _).symm.trans H; with_reducible exact H2_) | with_reducible exact H | (rw [hy223]; exact H) | exact H
     have Ny223 := Ax.mk hy223
     clear hy223
     have H' := Ax.mk H
     clear H
     go_wp2_with (first | ((with_reducible refine gate_callee (f := 38) rfl ?_); refine goesL_ (some 37) rfl rfl Tryd.func38 (by kernel_rfl) rfl #[.int .u64 a0, .slice none 0 0] rfl (by (try simp only [List.map_toArray, List.map_cons, List.map_nil]); first | done | rfl | (simp only [List.length_drop, List.length_take]; rfl) | (rw [wrap_sum2 (by assumption)]; rfl)) ?_; (refine (journal_New.calls kj5 a0 _ _ ([] : List (S24)) t216 t217 t220 t221 _ ?side1 ?side2 A12.out (HT.below bA)).mono ?_); (case side1 => exact Kd.C_nil _ _); (case side2 => exact Nat.le_refl _); rintro e w14 ⟨v218, rfl, ho0, hb⟩; refine ⟨_, rfl, ?_⟩; have n0_ := Ax.mk (Kd.N_lower (Kd.N_mono (ok' := fun k_ => True) ho0 (fun k_ hk_ => trivial)) (bS bA)); have n1_ := Ax.mk (bP bA hb); clear HB; have HO219 := n0_; have HB := n1_; clear n0_ n1_; (try clear hb); (try clear hb2); (try clear hk); (try clear hi); (try clear ho0)) | ((with_reducible refine gate_dst (N := 9) rfl ?_); (try (refine gate_guard (by rfl) ?_; dsimp only)); refine box_event ?hg (N := 9) ?hd (cs := #[.int .u64 0, .slice none 0 0, .string (⟨#[]⟩ : ByteArray)]) (t := 66) ?hr ?_; (case hd => rfl); (case hg => rfl); (case hr => first | (go_simp; done) | (go_simp; rfl)); intro gb222 hg w15 hbox hb; have n0_ := Ax.mk (Kd.N_below (Kd.N_elderB (by exact Kd.N_to HO219.out) gb222 (Nat.le_of_eq hg.symm)) hb); have n1_ := Ax.mk (bP bA hb); have n2_ := Ax.mk (hbox); have n3_ := Ax.mk ((ge_new hg : w.heap.size ≤ gb222)); have n4_ := n3_; clear HO219; clear HB; have HO219 := n0_; have HB := n1_; have BK222 := n2_; have GW222 := n3_; have GE222 := n4_; clear n0_ n1_ n2_ n3_ n4_; clear hb hbox hg; have hcz16_0 : w15.cell? ⟨gb222, 0, none⟩ = some (.int .u64 0) := (bC BK222.out 0).trans rfl; have hcz16_1 : w15.cell? ⟨gb222, 1, none⟩ = some (.slice none 0 0) := (bC BK222.out 1).trans rfl; have hcz16_2 : w15.cell? ⟨gb222, 2, none⟩ = some (.string (⟨#[]⟩ : ByteArray)) := (bC BK222.out 2).trans rfl; have hfz16_0 := bF BK222.out 0; have hfz16_1 := bF BK222.out 1; have hfz16_2 := bF BK222.out 2; obtain ⟨Ao17, co17, eo17⟩ := Kd.N_slice HO219.out; subst eo17) | ((with_reducible refine gate_builtin (b := .append) (xs := #[.tmp 40, .tmp 41]) rfl ?_); (try (refine gate_guard (by rfl) ?_; dsimp only)); at_builtin; refine Kd.R_append (Kd.int .i64) (w0 := w) w.heap.size rfl (.tmp 40) (.tmp 41) 60 3 (.int .i64 0) 8 rfl Tryd.underlying60 info3 rfl (by decide) (by omega) (.slice none 0 0) ([] : List Int) 0 [.int .i64 0] (fun _ => True) (fun _ => False) rfl (by first | (go_simp; done) | (go_simp; rfl)) ?aP (fun _ hk => hk.elim) ?aF ?aO ?aB ?aS ?aL ?_; (case aP => exact rfl); (case aB => exact bA); (case aF => exact (fun _ _ => trivial)); (case aO => exact ((Kd.R_nil _ _ _ _ (fun _ => True)))); (case aS => exact (bS bA)); (case aL => have := LMc13.out; omega); intro v224 w18 ho hb hg hat; rw [← Ny223.out] at ho; have n0_ := Ax.mk (Kd.N_afterv (Kd.N_apart_nil (by apply Kd.N_to; exact (Kd.N_mono (Kd.N_far (p := ⟨gb222, 2, none⟩) (Kd.N_far (p := ⟨gb222, 1, none⟩) (Kd.N_far (p := ⟨gb222, 0, none⟩) (Kd.N_mono HO219.out (fun k_ hk => (⟨hk, hk.2⟩ : _ ∧ k_ ≠ gb222))) (fun _ hk => hk.2) (.int .u64 t216)) (fun _ hk => hk.2) (.slice Ao17 t217.length co17)) (fun _ hk => hk.2) (.string t220)) (fun _ h_ => h_.1)))) hg hat); have n1_ := Ax.mk (blk_grown (g := gb222) (o := .cells #[.int .u64 t216, .slice Ao17 t217.length co17, .string t220] 66 (0, 0)) (by refine bT ?_; refine bU (cs := #[.int .u64 t216, .slice Ao17 t217.length co17, .string (⟨#[]⟩ : ByteArray)]) ?_ 2 _ rfl; refine bT ?_; refine bU (cs := #[.int .u64 t216, .slice none 0 0, .string (⟨#[]⟩ : ByteArray)]) ?_ 1 _ rfl; refine bT ?_; refine bU (cs := #[.int .u64 0, .slice none 0 0, .string (⟨#[]⟩ : ByteArray)]) ?_ 0 _ rfl; exact bT BK222.out) hg (by simp [Value.ownBlock])); have n2_ := Ax.mk (hb); have n3_ := Ax.mk (ho); clear HO219; clear BK222; clear HB; have HO219 := n0_; have BK222 := n1_; have HB := n2_; have HO225 := n3_; clear n0_ n1_ n2_ n3_; clear ho hb hg hat))
     go_loopg [11, 12, 13] kj5 (fun kq v11 v12 v13 w' => ∃ (x11_2 : List (S24)) (x12_2 : List Int) (x13_2 : Int) (x223000_2 : Int) (x223001_2 : List (S44)) (x223002_2 : ByteArray) (u223001 : Value), v13 = .int .i64 x13_2 ∧ Ax (l13_JournalAfter.l0 kq a0 l1 a2 x11_2 x12_2 x13_2 x223000_2 x223001_2 x223002_2 = some r) ∧ Ax (kq ≤ kj5) ∧ Ax (Kd.R k24 24 w' w.heap.size (fun _ => True) v11 x11_2) ∧ Ax (Kd.R (Kd.int .i64) 3 w' w.heap.size (fun _ => True) v12 x12_2) ∧ Ax (Kd.N k44 44 w' w.heap.size (fun k_ => some k_ ≠ (v11 : Value).ownBlock ∧ some k_ ≠ (v12 : Value).ownBlock ∧ k_ ≠ gb222) u223001 x223001_2) ∧ Ax (w'.heap[gb222]? = some (.cells #[.int .u64 x223000_2, u223001, .string x223002_2] 66 (0, 0))) ∧ Ax (Below w.heap.size w w'))
     case atStart => exact ⟨(([] : List (S24))), (y223), (0), (t216), (t217), (t220), (.slice Ao17 t217.length co17), (by first | rfl | (simp; done) | (simp [*]; done)), H', ⟨Nat.le_refl _⟩, ⟨by first | exact Kd.R_nil _ _ _ _ _ | exact Kd.N_nil _ _ _ _ _ | exact Kd.V_nil _ _ _ _ _ | exact Kd.Q_nil _ _ _ _ _ | exact Kd.S_nil _ _ _ _ _⟩, ⟨by apply Kd.R_to; exact HO225.out⟩, ⟨by apply Kd.N_to; exact Kd.N_mono HO219.out (fun _ hk => ⟨(by simp [Value.ownBlock]), ⟨hk.2, hk.1.2⟩⟩)⟩, ⟨by refine bT ?_; exact BK222.out⟩, ⟨bA⟩⟩
     case round =>
      clear H'
      try clear c1
      try clear p2
      try clear c3
      try clear c8
      try clear c9
      try clear c10
      try clear c10b0
      try clear c10b1
      try clear c11
      try clear c13
      try clear hcz16_0
      try clear hcz16_1
      try clear hcz16_2
      try clear hfz16_0
      try clear hfz16_1
      try clear hfz16_2
      try clear p2
      obtain ⟨x11_2, x12_2, x13_2, x223000_2, x223001_2, x223002_2, u223001, rfl, HA, HK2, HO_11, HO_12, HO_223001, BK222, HB⟩ := hrel
      cases gk with
      | zero => exact absurd HA.out (by simp [l13_JournalAfter.l0])
      | succ k2 =>
       have H := HA.out
       clear HA
       simp only [l13_JournalAfter.l0] at H
       by_cases c19 : x13_2 < (l1.length : Int)
       ·rw [if_pos c19] at H
        have c19b0 : decide (x13_2 < (l1.length : Int)) = true := decide_eq_true c19
        clear c19
        by_cases c20 : 0 ≤ x13_2
        ·rw [if_pos c20] at H
         have c20b0 : decide (0 ≤ x13_2) = true := decide_eq_true c20
         clear c20
         replace H := Option.bind_eq_some_iff.mp H
         obtain ⟨⟨t227, t228, t231, t232⟩, A210, H⟩ := H
         replace H : (if t232 = 0 then (if t227 = (IntKind.u64.wrap (x223000_2 + 1)) then (if (t228.length : Int) = (wrap64 ((x223001_2.length : Int) + 1)) then (if 0 ≤ (x223002_2.size : Int) then (if (x223002_2.size : Int) ≤ (t231.size : Int) then (if (t231.extract 0 x223002_2.size).toList = x223002_2.toList then (if x11_2.length + (rd_L4 l1 x13_2).length < 2932031007402 then ((some (x11_2 ++ (rd_L4 l1 x13_2) : List (S24))).bind fun y235 => (if x12_2.length < 17592186044416 then (l13_JournalAfter.l0 k2 a0 l1 a2 y235 (x12_2 ++ [(y235.length : Int)]) (wrap64 (x13_2 + 1)) t227 t228 t231) else (none))) else (none)) else (none)) else (none)) else (none)) else (none)) else (none)) else (l13_JournalAfter.l0 k2 a0 l1 a2 x11_2 x12_2 (wrap64 (x13_2 + 1)) x223000_2 x223001_2 x223002_2)) = some r := H
         have A21 := Ax.mk A210
         clear A210
         by_cases c22 : t232 = 0
         ·rw [if_pos c22] at H
          have c22b0 : (t232 == 0) = true := beq_iff_eq.mpr c22
          have c22b1 : (t232 != 0) = false := bne_eq_false_iff_eq.mpr c22
          clear c22
          by_cases c23 : t227 = (IntKind.u64.wrap (x223000_2 + 1))
          ·rw [if_pos c23] at H
           have c23b0 : (t227 == (IntKind.u64.wrap (x223000_2 + 1))) = true := beq_iff_eq.mpr c23
           have c23b1 : (t227 != (IntKind.u64.wrap (x223000_2 + 1))) = false := bne_eq_false_iff_eq.mpr c23
           clear c23
           by_cases c24 : (t228.length : Int) = (wrap64 ((x223001_2.length : Int) + 1))
           ·rw [if_pos c24] at H
            have c24b0 : ((t228.length : Int) == (wrap64 ((x223001_2.length : Int) + 1))) = true := beq_iff_eq.mpr c24
            have c24b1 : ((t228.length : Int) != (wrap64 ((x223001_2.length : Int) + 1))) = false := bne_eq_false_iff_eq.mpr c24
            clear c24
            by_cases c25 : 0 ≤ (x223002_2.size : Int)
            ·rw [if_pos c25] at H
             have c25b0 := eq_true c25
             have c25b1 : decide (0 ≤ (x223002_2.size : Int)) = true := decide_eq_true c25
             clear c25
             by_cases c26 : (x223002_2.size : Int) ≤ (t231.size : Int)
             ·rw [if_pos c26] at H
              have c26b0 := eq_true c26
              have c26b1 : decide ((x223002_2.size : Int) ≤ (t231.size : Int)) = true := decide_eq_true c26
              clear c26
              by_cases c27 : (t231.extract 0 x223002_2.size).toList = x223002_2.toList
              ·rw [if_pos c27] at H
               have c27b0 : ((t231.extract 0 x223002_2.size).toList == x223002_2.toList) = true := beq_iff_eq.mpr c27
               have c27b1 : ((t231.extract 0 x223002_2.size).toList != x223002_2.toList) = false := bne_eq_false_iff_eq.mpr c27
               clear c27
               by_cases c28 : x11_2.length + (rd_L4 l1 x13_2).length < 2932031007402
               ·rw [if_pos c28] at H
                have LMc28 := Ax.mk c28
                clear c28
                obtain ⟨y235, hy235⟩ : ∃ y_ : List (S24), y_ = (x11_2 ++ (rd_L4 l1 x13_2)) := ⟨_, rfl⟩
                replace H : (if x12_2.length < 17592186044416 then (l13_JournalAfter.l0 k2 a0 l1 a2 y235 (x12_2 ++ [(y235.length : Int)]) (wrap64 (x13_2 + 1)) t227 t228 t231) else (none)) = some r := by first | (rw [hy235]; with_reducible exact H) | (have H2_ := (Option.bind_some _ _).symm.trans H; rw [hy235]; with_reducible exact H2_) | (have H2_ := (Option.bind_some _ _).symm.trans H; with_reducible exact H2_) | with_reducible exact H | (rw [hy235]; exact H) | exact H
                have Ny235 := Ax.mk hy235
                clear hy235
                by_cases c29 : x12_2.length < 17592186044416
                ·rw [if_pos c29] at H
                 have LMc29 := Ax.mk c29
                 clear c29
                 obtain ⟨y238, hy238⟩ : ∃ y_ : List Int, y_ = (x12_2 ++ [(y235.length : Int)]) := ⟨_, rfl⟩
                 replace H : (l13_JournalAfter.l0 k2 a0 l1 a2 y235 y238 (wrap64 (x13_2 + 1)) t227 t228 t231) = some r := by first | (rw [hy238]; with_reducible exact H) | (have H2_ := (Option.bind_some _ _).symm.trans H; rw [hy238]; with_reducible exact H2_) | (have H2_ := (Option.bind_some _ _).symm.trans H; with_reducible exact H2_) | with_reducible exact H | (rw [hy238]; exact H) | exact H
                 have Ny238 := Ax.mk hy238
                 clear hy238
                 have H' := Ax.mk H
                 clear H
                 obtain ⟨Ao30, co30, eo30⟩ := Kd.N_slice HO_223001.out
                 subst eo30
                 try go_wp2
                 have n0_ := Ax.mk (Kd.R_drew HO_11.out)
                 have n1_ := Ax.mk (Kd.R_drew HO_12.out)
                 have n2_ := Ax.mk (Kd.N_drew HO_223001.out)
                 have n3_ := Ax.mk (blk_drew BK222.out)
                 have n4_ := Ax.mk (below_drew1 HB.out)
                 clear HO_11
                 clear HO_12
                 clear HO_223001
                 clear BK222
                 clear HB
                 have HO_11 := n0_
                 have HO_12 := n1_
                 have HO_223001 := n2_
                 have BK222 := n3_
                 have HB := n4_
                 clear n0_ n1_ n2_ n3_ n4_
                 have p226 : 0 ≤ (x13_2 : Int) := of_decide_eq_true (by first | (with_reducible assumption) | assumption)
                 have q226 : x13_2 < (l1.length : Int) := of_decide_eq_true (by first | (with_reducible assumption) | assumption)
                 obtain ⟨ad226, A226_0, c226_0, e226, hx226_0, hl226_0, hi226_0⟩ := at_L4 HR1.out x13_2 p226 q226
                 have hw226_0 := hx226_0
                 cases e226
                 replace hx226_0 := (HB.out.cell (World.block_lt_of_cell? w _ hx226_0)).trans hx226_0
                 have HR226_0 := Ax.mk hi226_0
                 have HC226_0 := Ax.mk hl226_0
                 clear hi226_0 hl226_0
                 replace p226 := eq_true p226
                 replace q226 := eq_true q226
                 refine start_ (n := 12) (S := fun w' => w'.cell? ⟨gb222, 0, none⟩ = some (.int .u64 x223000_2) ∧ w'.cell? ⟨gb222, 1, none⟩ = some (.slice Ao30 x223001_2.length co30) ∧ w'.cell? ⟨gb222, 2, none⟩ = some (.string x223002_2) ∧ w'.cell? (ad226.add (x13_2).toNat) = some (.slice A226_0 (rd_L4 l1 x13_2).length c226_0)) (ds := []) #[false, false, false, false, false, false, false, false, false, false, false, false] (by kernel_rfl) rfl rfl ⟨(bC BK222.out 0).trans rfl, (bC BK222.out 1).trans rfl, (bC BK222.out 2).trans rfl, ((HB.out.cell (World.block_lt_of_cell? w _ hw226_0)).trans hw226_0)⟩ (fun hHeld => ?_); refine with_tabW l13_JournalAfter.tab12 l13_JournalAfter.bits12 (fun HT_ HW_ => ?_)
                 generalize wr.drew = w31 at HO_11 HO_12 HO_223001 BK222 HB HR226_0 hx226_0 hHeld ⊢
                 refine pure_ (i := 1) (N := some 51) (v := ?_) (a' := ?_) #[false, true, false, false, false, false, false, false, false, false, false, false] rfl rfl (any_of HT_.out (by kernel_rfl)) (fun _ _ _ h => h) (Or.inl ⟨by rfl, ?_⟩) ?_ ?_
                 rotate_left
                 ·intro w'
                  go_simp
                  with_reducible rfl
                 rotate_left
                 ·simp only [Act.put, setIfInBounds_toArray, set_cons_zero, set_cons_succ, i64_w, i32_w]
                  rfl
                 refine pure_ (i := 2) (N := some 52) (v := ?_) (a' := ?_) #[false, true, true, false, false, false, false, false, false, false, false, false] rfl rfl (any_of HT_.out (by kernel_rfl)) (fun _ _ _ h => h) (Or.inl ⟨by rfl, ?_⟩) ?_ ?_
                 rotate_left
                 ·intro w'
                  go_simp
                  with_reducible rfl
                 rotate_left
                 ·simp only [Act.put, setIfInBounds_toArray, set_cons_zero, set_cons_succ, i64_w, i32_w]
                  rfl
                 refine pure_ (i := 3) (N := some 53) (v := ?_) (a' := ?_) #[false, true, true, true, false, false, false, false, false, false, false, false] rfl rfl (any_of HT_.out (by kernel_rfl)) (fun _ _ _ h => h) (Or.inl ⟨by rfl, ?_⟩) ?_ ?_
                 rotate_left
                 ·intro w'
                  go_simp
                  with_reducible rfl
                 rotate_left
                 ·simp only [Act.put, setIfInBounds_toArray, set_cons_zero, set_cons_succ, i64_w, i32_w]
                  rfl
                 refine take_ (i := 0) (N := some 50) (v := ?_) (a' := ?_) #[true, true, true, true, false, false, false, false, false, false, false, false] rfl rfl (take_ofW HT_.out HW_.out (by kernel_rfl)) (fun _ _ _ h => h) (Or.inl ⟨by rfl, ?_⟩) hHeld ?_ ?_
                 rotate_left
                 ·rintro w' ⟨s0, s1, s2, s3⟩
                  go_simp
                  with_reducible rfl
                 rotate_left
                 ·simp only [Act.put, setIfInBounds_toArray, set_cons_zero, set_cons_succ, i64_w, i32_w]
                  rfl
                 refine take_ (i := 4) (N := some 54) (v := ?_) (a' := ?_) #[true, true, true, true, true, false, false, false, false, false, false, false] rfl rfl (take_ofW HT_.out HW_.out (by kernel_rfl)) (fun _ _ _ h => h) (Or.inl ⟨by rfl, ?_⟩) hHeld ?_ ?_
                 rotate_left
                 ·rintro w' ⟨s0, s1, s2, s3⟩
                  go_simp
                  with_reducible rfl
                 rotate_left
                 ·simp only [Act.put, setIfInBounds_toArray, set_cons_zero, set_cons_succ, i64_w, i32_w]
                  rfl
                 refine join_ (σ := Value × Nat) 2 #[true, true, true, true, true, true, true, true, true, true, false, false] (fun s_ => [(55, .tuple #[.agg #[.int .u64 t227, s_.1, .string t231], .int .i64 t232]), (14, .pointer (some ⟨s_.2, 0, none⟩)), (49, .tuple #[.agg #[.int .u64 t227, s_.1, .string t231], .int .i64 t232]), (56, .agg #[.int .u64 t227, s_.1, .string t231]), (57, .int .i64 t232)]) (fun s_ w' => (w'.cell? ⟨gb222, 0, none⟩ = some (.int .u64 x223000_2) ∧ w'.cell? ⟨gb222, 1, none⟩ = some (.slice Ao30 x223001_2.length co30) ∧ w'.cell? ⟨gb222, 2, none⟩ = some (.string x223002_2) ∧ w'.cell? (ad226.add (x13_2).toNat) = some (.slice A226_0 (rd_L4 l1 x13_2).length c226_0)) ∧ (Kd.N k44 44 w' w.heap.size (fun k_ => some k_ ≠ (u11 : Value).ownBlock ∧ some k_ ≠ (u12 : Value).ownBlock ∧ k_ ≠ gb222 ∧ k_ ≠ s_.2) s_.1 t228) ∧ (Kd.R k24 24 w' w.heap.size (fun _ => True) u11 x11_2) ∧ (Kd.R (Kd.int .i64) 3 w' w.heap.size (fun _ => True) u12 x12_2) ∧ (Kd.N k44 44 w' w.heap.size (fun k_ => some k_ ≠ (s_.1 : Value).ownBlock ∧ some k_ ≠ (u11 : Value).ownBlock ∧ some k_ ≠ (u12 : Value).ownBlock ∧ k_ ≠ gb222 ∧ k_ ≠ s_.2) (.slice Ao30 x223001_2.length co30) x223001_2) ∧ (w'.heap[gb222]? = some (.cells #[.int .u64 x223000_2, .slice Ao30 x223001_2.length co30, .string x223002_2] 66 (0, 0))) ∧ (w'.heap[s_.2]? = some (.cells #[.int .u64 0, .slice none 0 0, .string (⟨#[]⟩ : ByteArray)] 66 (0, 0))) ∧ (w.heap.size ≤ s_.2) ∧ (w.heap.size ≤ s_.2) ∧ (gb222 ≠ s_.2) ∧ (s_.2 ≠ gb222) ∧ (Below w.heap.size w w')) ?_ ?_
                 rotate_left
                 ·intro hCont
                  refine two_ (i := 5) (j := 9) (Ni := some 55) (Nj := some 14) #[true, true, true, true, true, true, false, false, false, false, false, false] #[true, true, true, true, true, false, false, false, false, true, false, false] rfl rfl rfl rfl (two_of HT_.out (by kernel_rfl)) (by decide) (by decide) (fun K hK => ?_) (fun K hK => ?_)
                  ·skip
                   refine goes_ Tryd.func39 (by kernel_rfl) rfl #[.agg #[.int .u64 x223000_2, .slice Ao30 x223001_2.length co30, .string x223002_2], .slice A226_0 (rd_L4 l1 x13_2).length c226_0] (by rfl) rfl rfl (by (try simp only [List.map_toArray, List.map_cons, List.map_nil]); first | done | rfl | (simp only [List.length_drop, List.length_take]; rfl) | (rw [wrap_sum2 (by assumption)]; rfl)) ?_
                   with_reducible refine (journal_Add.calls k2 x223000_2 (fun k_ => (some k_ ≠ (u11 : Value).ownBlock ∧ (some k_ ≠ (u12 : Value).ownBlock ∧ k_ ≠ gb222))) _ _ x223001_2 x223002_2 _ _ (rd_L4 l1 x13_2) t227 t228 t231 t232 _ ?side1 ?side2 ?side3 A21.out (HT.below bA)).mono ?_
                   (case side1 => exact Kd.N_V (HO_223001.out))
                   (case side2 => repeat (first | exact (Kd.C_below HR226_0.out HB.out) | (with_reducible refine Kd.C_alloc ?_ _) | (with_reducible refine Kd.C_drewN ?_ _) | (with_reducible refine Kd.C_drew ?_)))
                   (case side3 => exact HC226_0.out)
                   rintro e w32 ⟨v229, rfl, ho0, hb⟩
                   refine ⟨_, rfl, ?_⟩
                   have n0_ := Ax.mk (Kd.R_below (by exact Kd.R_to HO_11.out) hb)
                   have n1_ := Ax.mk (Kd.R_below (by exact Kd.R_to HO_12.out) hb)
                   have n2_ := Ax.mk (Kd.N_elder' (by exact Kd.N_to HO_223001.out) (Kd.N_base ho0) hb)
                   have n3_ := Ax.mk (Kd.N_lower (Kd.N_mono (ok' := fun k_ => some k_ ≠ (u11 : Value).ownBlock ∧ some k_ ≠ (u12 : Value).ownBlock ∧ k_ ≠ gb222) ho0 (fun k_ hk_ => ⟨Or.elim hk_ (fun hs_ => hs_.1) (fun hn_ => (Kd.fresh' (Kd.R_lt (by exact Kd.R_to HO_11.out)) k_ hn_)), Or.elim hk_ (fun hs_ => hs_.2.1) (fun hn_ => (Kd.fresh' (Kd.R_lt (by exact Kd.R_to HO_12.out)) k_ hn_)), Or.elim hk_ (fun hs_ => hs_.2.2) (fun hn_ => (Kd.freshB (g := gb222) (o := .cells #[.int .u64 x223000_2, .slice Ao30 x223001_2.length co30, .string x223002_2] 66 (0, 0)) (bT BK222.out) k_ hn_))⟩)) (bS bA))
                   have n4_ := Ax.mk (bB (bT BK222.out) hb)
                   have n5_ := Ax.mk (bP bA hb)
                   clear HO_11
                   clear HO_12
                   clear HO_223001
                   clear BK222
                   clear HB
                   have HO_11 := n0_
                   have HO_12 := n1_
                   have HO_223001 := n2_
                   have HO230 := n3_
                   have BK222 := n4_
                   have HB := n5_
                   clear n0_ n1_ n2_ n3_ n4_ n5_
                   (try clear hb)
                   (try clear hb2)
                   (try clear hk)
                   (try clear hi)
                   (try clear ho0)
                   refine hK.out _ _ ⟨(bC BK222.out 0).trans rfl, (bC BK222.out 1).trans rfl, (bC BK222.out 2).trans rfl, ((HB.out.cell (World.block_lt_of_cell? w _ hw226_0)).trans hw226_0)⟩ (fun hHeld => ?_)
                   clear hK K
                   refine norm_ (a' := ?_) ?_ ?_
                   rotate_left
                   ·show Act.put _ (some 55) _ = _
                    simp only [Act.put, setIfInBounds_toArray, set_cons_zero, set_cons_succ, i64_w, i32_w]
                    rfl
                   refine pure_ (i := 6) (N := some 49) (v := ?_) (a' := ?_) #[true, true, true, true, true, true, true, false, false, false, false, false] rfl rfl (any_of HT_.out (by kernel_rfl)) (fun _ _ _ h => h) (Or.inl ⟨by rfl, ?_⟩) ?_ ?_
                   rotate_left
                   ·intro w'
                    go_simp
                    with_reducible rfl
                   rotate_left
                   ·simp only [Act.put, setIfInBounds_toArray, set_cons_zero, set_cons_succ, i64_w, i32_w]
                    rfl
                   refine pure_ (i := 7) (N := some 56) (v := ?_) (a' := ?_) #[true, true, true, true, true, true, true, true, false, false, false, false] rfl rfl (any_of HT_.out (by kernel_rfl)) (fun _ _ _ h => h) (Or.inl ⟨by rfl, ?_⟩) ?_ ?_
                   rotate_left
                   ·intro w'
                    go_simp
                    with_reducible rfl
                   rotate_left
                   ·simp only [Act.put, setIfInBounds_toArray, set_cons_zero, set_cons_succ, i64_w, i32_w]
                    rfl
                   refine pure_ (i := 8) (N := some 57) (v := ?_) (a' := ?_) #[true, true, true, true, true, true, true, true, true, false, false, false] rfl rfl (any_of HT_.out (by kernel_rfl)) (fun _ _ _ h => h) (Or.inl ⟨by rfl, ?_⟩) ?_ ?_
                   rotate_left
                   ·intro w'
                    go_simp
                    with_reducible rfl
                   rotate_left
                   ·simp only [Act.put, setIfInBounds_toArray, set_cons_zero, set_cons_succ, i64_w, i32_w]
                    rfl
                   refine one_ (i := 9) (N := some 14) #[true, true, true, true, true, true, true, true, true, true, false, false] rfl rfl (one_of HT_.out (by kernel_rfl)) (by decide) (fun K hK => ?_)
                   refine box_step ?hg (N := 14) ?hd (cs := #[.int .u64 0, .slice none 0 0, .string (⟨#[]⟩ : ByteArray)]) (t := 66) ?hr ?_; (case hd => rfl); (case hg => rfl); (case hr => first | (go_simp; done) | (go_simp; rfl))
                   intro gb233 hg w33 hbox hb
                   have n0_ := Ax.mk (Kd.R_below (by exact Kd.R_to HO_11.out) hb)
                   have n1_ := Ax.mk (Kd.R_below (by exact Kd.R_to HO_12.out) hb)
                   have n2_ := Ax.mk (Kd.N_below (Kd.N_elderB (by exact Kd.N_to HO_223001.out) gb233 (Nat.le_of_eq hg.symm)) hb)
                   have n3_ := Ax.mk (Kd.N_below (Kd.N_elderB (by exact Kd.N_to HO230.out) gb233 (Nat.le_of_eq hg.symm)) hb)
                   have n4_ := Ax.mk (bB (bT BK222.out) hb)
                   have n5_ := Ax.mk (bP bA hb)
                   have n6_ := Ax.mk (hbox)
                   have n7_ := Ax.mk ((ge_new hg : w.heap.size ≤ gb233))
                   have n8_ := Ax.mk ((ge_new hg : w.heap.size ≤ gb233))
                   have n9_ := Ax.mk ((ne_lt hg BK222.out : gb222 ≠ gb233))
                   have n10_ := Ax.mk ((ne_gt hg BK222.out : gb233 ≠ gb222))
                   clear HO_11
                   clear HO_12
                   clear HO_223001
                   clear HO230
                   clear BK222
                   clear HB
                   have HO_11 := n0_
                   have HO_12 := n1_
                   have HO_223001 := n2_
                   have HO230 := n3_
                   have BK222 := n4_
                   have HB := n5_
                   have BK233 := n6_
                   have GW233 := n7_
                   have GE233 := n8_
                   have NB222_233 := n9_
                   have NB233_222 := n10_
                   clear n0_ n1_ n2_ n3_ n4_ n5_ n6_ n7_ n8_ n9_ n10_
                   clear hb hbox hg
                   refine hK.out _ _ ⟨(bC BK222.out 0).trans rfl, (bC BK222.out 1).trans rfl, (bC BK222.out 2).trans rfl, ((HB.out.cell (World.block_lt_of_cell? w _ hw226_0)).trans hw226_0)⟩ (fun hHeld => ?_)
                   clear hK K
                   refine norm_ (a' := ?_) ?_ ?_
                   rotate_left
                   ·show Act.put _ (some 14) _ = _
                    simp only [Act.put, setIfInBounds_toArray, set_cons_zero, set_cons_succ, i64_w, i32_w]
                    rfl
                   exact norm_ (by simp only [putAll, Act.put, List.setIfInBounds_toArray, List.set_cons_zero, List.set_cons_succ]) (hCont (v229, gb233) _ ⟨hHeld, (by apply Kd.N_to; exact Kd.N_mono HO230.out (fun _ hk => ⟨hk.1.1, ⟨hk.1.2.1, ⟨hk.1.2.2, hk.2⟩⟩⟩)), (by exact Kd.R_to HO_11.out), (by exact Kd.R_to HO_12.out), (by apply Kd.N_to; exact Kd.N_mono HO_223001.out (fun _ hk => ⟨hk.1.2, ⟨hk.1.1.1, ⟨hk.1.1.2.1, ⟨hk.1.1.2.2, hk.2⟩⟩⟩⟩)), (bT BK222.out), (bT BK233.out), GW233.out, GE233.out, NB222_233.out, NB233_222.out, bA⟩)
                  ·skip
                   refine box_step ?hg (N := 14) ?hd (cs := #[.int .u64 0, .slice none 0 0, .string (⟨#[]⟩ : ByteArray)]) (t := 66) ?hr ?_; (case hd => rfl); (case hg => rfl); (case hr => first | (go_simp; done) | (go_simp; rfl))
                   intro gb233 hg w32 hbox hb
                   have n0_ := Ax.mk (Kd.R_below (by exact Kd.R_to HO_11.out) hb)
                   have n1_ := Ax.mk (Kd.R_below (by exact Kd.R_to HO_12.out) hb)
                   have n2_ := Ax.mk (Kd.N_below (Kd.N_elderB (by exact Kd.N_to HO_223001.out) gb233 (Nat.le_of_eq hg.symm)) hb)
                   have n3_ := Ax.mk (bB (bT BK222.out) hb)
                   have n4_ := Ax.mk (bP bA hb)
                   have n5_ := Ax.mk (hbox)
                   have n6_ := Ax.mk ((ge_new hg : w.heap.size ≤ gb233))
                   have n7_ := Ax.mk ((ge_new hg : w.heap.size ≤ gb233))
                   have n8_ := Ax.mk ((ne_lt hg BK222.out : gb222 ≠ gb233))
                   have n9_ := Ax.mk ((ne_gt hg BK222.out : gb233 ≠ gb222))
                   clear HO_11
                   clear HO_12
                   clear HO_223001
                   clear BK222
                   clear HB
                   have HO_11 := n0_
                   have HO_12 := n1_
                   have HO_223001 := n2_
                   have BK222 := n3_
                   have HB := n4_
                   have BK233 := n5_
                   have GW233 := n6_
                   have GE233 := n7_
                   have NB222_233 := n8_
                   have NB233_222 := n9_
                   clear n0_ n1_ n2_ n3_ n4_ n5_ n6_ n7_ n8_ n9_
                   clear hb hbox hg
                   refine hK.out _ _ ⟨(bC BK222.out 0).trans rfl, (bC BK222.out 1).trans rfl, (bC BK222.out 2).trans rfl, ((HB.out.cell (World.block_lt_of_cell? w _ hw226_0)).trans hw226_0)⟩ (fun hHeld => ?_)
                   clear hK K
                   refine norm_ (a' := ?_) ?_ ?_
                   rotate_left
                   ·show Act.put _ (some 14) _ = _
                    simp only [Act.put, setIfInBounds_toArray, set_cons_zero, set_cons_succ, i64_w, i32_w]
                    rfl
                   refine one_ (i := 5) (N := some 55) #[true, true, true, true, true, true, false, false, false, true, false, false] rfl rfl (one_of HT_.out (by kernel_rfl)) (by decide) (fun K hK => ?_)
                   refine goes_ Tryd.func39 (by kernel_rfl) rfl #[.agg #[.int .u64 x223000_2, .slice Ao30 x223001_2.length co30, .string x223002_2], .slice A226_0 (rd_L4 l1 x13_2).length c226_0] (by rfl) rfl rfl (by (try simp only [List.map_toArray, List.map_cons, List.map_nil]); first | done | rfl | (simp only [List.length_drop, List.length_take]; rfl) | (rw [wrap_sum2 (by assumption)]; rfl)) ?_
                   with_reducible refine (journal_Add.calls k2 x223000_2 (fun k_ => ((some k_ ≠ (u11 : Value).ownBlock ∧ (some k_ ≠ (u12 : Value).ownBlock ∧ k_ ≠ gb222)) ∧ k_ ≠ gb233)) _ _ x223001_2 x223002_2 _ _ (rd_L4 l1 x13_2) t227 t228 t231 t232 _ ?side1 ?side2 ?side3 A21.out (HT.below bA)).mono ?_
                   (case side1 => exact Kd.N_V (HO_223001.out))
                   (case side2 => repeat (first | exact (Kd.C_below HR226_0.out HB.out) | (with_reducible refine Kd.C_alloc ?_ _) | (with_reducible refine Kd.C_drewN ?_ _) | (with_reducible refine Kd.C_drew ?_)))
                   (case side3 => exact HC226_0.out)
                   rintro e w33 ⟨v229, rfl, ho0, hb⟩
                   refine ⟨_, rfl, ?_⟩
                   have n0_ := Ax.mk (Kd.R_below (by exact Kd.R_to HO_11.out) hb)
                   have n1_ := Ax.mk (Kd.R_below (by exact Kd.R_to HO_12.out) hb)
                   have n2_ := Ax.mk (Kd.N_elder' (by exact Kd.N_to HO_223001.out) (Kd.N_base ho0) hb)
                   have n3_ := Ax.mk (Kd.N_lower (Kd.N_mono (ok' := fun k_ => some k_ ≠ (u11 : Value).ownBlock ∧ some k_ ≠ (u12 : Value).ownBlock ∧ k_ ≠ gb222 ∧ k_ ≠ gb233) ho0 (fun k_ hk_ => ⟨Or.elim hk_ (fun hs_ => hs_.1.1) (fun hn_ => (Kd.fresh' (Kd.R_lt (by exact Kd.R_to HO_11.out)) k_ hn_)), Or.elim hk_ (fun hs_ => hs_.1.2.1) (fun hn_ => (Kd.fresh' (Kd.R_lt (by exact Kd.R_to HO_12.out)) k_ hn_)), Or.elim hk_ (fun hs_ => hs_.1.2.2) (fun hn_ => (Kd.freshB (g := gb222) (o := .cells #[.int .u64 x223000_2, .slice Ao30 x223001_2.length co30, .string x223002_2] 66 (0, 0)) (bT BK222.out) k_ hn_)), Or.elim hk_ (fun hs_ => hs_.2) (fun hn_ => (Kd.freshB (g := gb233) (o := .cells #[.int .u64 0, .slice none 0 0, .string (⟨#[]⟩ : ByteArray)] 66 (0, 0)) (bT BK233.out) k_ hn_))⟩)) (bS bA))
                   have n4_ := Ax.mk (bB (bT BK222.out) hb)
                   have n5_ := Ax.mk (bB (bT BK233.out) hb)
                   have n6_ := Ax.mk (bP bA hb)
                   clear HO_11
                   clear HO_12
                   clear HO_223001
                   clear BK222
                   clear BK233
                   clear HB
                   have HO_11 := n0_
                   have HO_12 := n1_
                   have HO_223001 := n2_
                   have HO230 := n3_
                   have BK222 := n4_
                   have BK233 := n5_
                   have HB := n6_
                   clear n0_ n1_ n2_ n3_ n4_ n5_ n6_
                   (try clear hb)
                   (try clear hb2)
                   (try clear hk)
                   (try clear hi)
                   (try clear ho0)
                   refine hK.out _ _ ⟨(bC BK222.out 0).trans rfl, (bC BK222.out 1).trans rfl, (bC BK222.out 2).trans rfl, ((HB.out.cell (World.block_lt_of_cell? w _ hw226_0)).trans hw226_0)⟩ (fun hHeld => ?_)
                   clear hK K
                   refine norm_ (a' := ?_) ?_ ?_
                   rotate_left
                   ·show Act.put _ (some 55) _ = _
                    simp only [Act.put, setIfInBounds_toArray, set_cons_zero, set_cons_succ, i64_w, i32_w]
                    rfl
                   refine pure_ (i := 6) (N := some 49) (v := ?_) (a' := ?_) #[true, true, true, true, true, true, true, false, false, true, false, false] rfl rfl (any_of HT_.out (by kernel_rfl)) (fun _ _ _ h => h) (Or.inl ⟨by rfl, ?_⟩) ?_ ?_
                   rotate_left
                   ·intro w'
                    go_simp
                    with_reducible rfl
                   rotate_left
                   ·simp only [Act.put, setIfInBounds_toArray, set_cons_zero, set_cons_succ, i64_w, i32_w]
                    rfl
                   refine pure_ (i := 7) (N := some 56) (v := ?_) (a' := ?_) #[true, true, true, true, true, true, true, true, false, true, false, false] rfl rfl (any_of HT_.out (by kernel_rfl)) (fun _ _ _ h => h) (Or.inl ⟨by rfl, ?_⟩) ?_ ?_
                   rotate_left
                   ·intro w'
                    go_simp
                    with_reducible rfl
                   rotate_left
                   ·simp only [Act.put, setIfInBounds_toArray, set_cons_zero, set_cons_succ, i64_w, i32_w]
                    rfl
                   refine pure_ (i := 8) (N := some 57) (v := ?_) (a' := ?_) #[true, true, true, true, true, true, true, true, true, true, false, false] rfl rfl (any_of HT_.out (by kernel_rfl)) (fun _ _ _ h => h) (Or.inl ⟨by rfl, ?_⟩) ?_ ?_
                   rotate_left
                   ·intro w'
                    go_simp
                    with_reducible rfl
                   rotate_left
                   ·simp only [Act.put, setIfInBounds_toArray, set_cons_zero, set_cons_succ, i64_w, i32_w]
                    rfl
                   exact norm_ (by simp only [putAll, Act.put, List.setIfInBounds_toArray, List.set_cons_zero, List.set_cons_succ]) (hCont (v229, gb233) _ ⟨hHeld, (by exact Kd.N_to HO230.out), (by exact Kd.R_to HO_11.out), (by exact Kd.R_to HO_12.out), (by apply Kd.N_to; exact Kd.N_mono HO_223001.out (fun _ hk => ⟨hk.2, ⟨hk.1.1.1, ⟨hk.1.1.2.1, ⟨hk.1.1.2.2, hk.1.2⟩⟩⟩⟩)), (bT BK222.out), (bT BK233.out), GW233.out, GE233.out, NB222_233.out, NB233_222.out, bA⟩)
                 rintro ⟨v229, gb233⟩ w34 ⟨hS_, h0_, h1_, h2_, h3_, h4_, h5_, h6_, h7_, h8_, h9_, h10_⟩
                 have n0_ : Ax (Kd.N k44 44 w34 w.heap.size (fun k_ => some k_ ≠ (u11 : Value).ownBlock ∧ some k_ ≠ (u12 : Value).ownBlock ∧ k_ ≠ gb222 ∧ k_ ≠ gb233) v229 t228) := ⟨h0_⟩
                 have n1_ : Ax (Kd.R k24 24 w34 w.heap.size (fun _ => True) u11 x11_2) := ⟨h1_⟩
                 have n2_ : Ax (Kd.R (Kd.int .i64) 3 w34 w.heap.size (fun _ => True) u12 x12_2) := ⟨h2_⟩
                 have n3_ : Ax (Kd.N k44 44 w34 w.heap.size (fun k_ => some k_ ≠ (v229 : Value).ownBlock ∧ some k_ ≠ (u11 : Value).ownBlock ∧ some k_ ≠ (u12 : Value).ownBlock ∧ k_ ≠ gb222 ∧ k_ ≠ gb233) (.slice Ao30 x223001_2.length co30) x223001_2) := ⟨h3_⟩
                 have n4_ : Ax (w34.heap[gb222]? = some (.cells #[.int .u64 x223000_2, .slice Ao30 x223001_2.length co30, .string x223002_2] 66 (0, 0))) := ⟨h4_⟩
                 have n5_ : Ax (w34.heap[gb233]? = some (.cells #[.int .u64 0, .slice none 0 0, .string (⟨#[]⟩ : ByteArray)] 66 (0, 0))) := ⟨h5_⟩
                 have n6_ : Ax (w.heap.size ≤ gb233) := ⟨h6_⟩
                 have n7_ : Ax (w.heap.size ≤ gb233) := ⟨h7_⟩
                 have n8_ : Ax (gb222 ≠ gb233) := ⟨h8_⟩
                 have n9_ : Ax (gb233 ≠ gb222) := ⟨h9_⟩
                 have n10_ : Ax (Below w.heap.size w w34) := ⟨h10_⟩
                 clear HO_11
                 clear HO_12
                 clear HO_223001
                 clear BK222
                 clear HB
                 clear h0_ h1_ h2_ h3_ h4_ h5_ h6_ h7_ h8_ h9_ h10_
                 have HO230 := n0_
                 have HO_11 := n1_
                 have HO_12 := n2_
                 have HO_223001 := n3_
                 have BK222 := n4_
                 have BK233 := n5_
                 have GW233 := n6_
                 have GE233 := n7_
                 have NB222_233 := n8_
                 have NB233_222 := n9_
                 have HB := n10_
                 clear n0_ n1_ n2_ n3_ n4_ n5_ n6_ n7_ n8_ n9_ n10_
                 have hHeld : w34.cell? ⟨gb222, 0, none⟩ = some (.int .u64 x223000_2) ∧ w34.cell? ⟨gb222, 1, none⟩ = some (.slice Ao30 x223001_2.length co30) ∧ w34.cell? ⟨gb222, 2, none⟩ = some (.string x223002_2) ∧ w34.cell? (ad226.add (x13_2).toNat) = some (.slice A226_0 (rd_L4 l1 x13_2).length c226_0) := hS_
                 obtain ⟨Ao36, co36, eo36⟩ := Kd.N_slice HO230.out
                 (first | subst eo36 | (injection eo36 with f1_ f2_ f3_; have f4_ := f1_.symm; have f5_ := f3_.symm; clear f1_ f2_ f3_; subst f4_; subst f5_))
                 refine norm_ (a' := ?_) ?_ ?_
                 rotate_left
                 ·simp only [putAll, Act.put, List.setIfInBounds_toArray, List.set_cons_zero, List.set_cons_succ]
                  rfl
                 refine one_ (i := 10) (N := none) #[true, true, true, true, true, true, true, true, true, true, true, false] rfl rfl (one_of HT_.out (by kernel_rfl)) (by decide) (fun K hK => ?_)
                 have hs35 : w34.cell? ⟨gb233, 0, none⟩ = some (.int .u64 0) := (bC BK233.out 0).trans rfl
                 have hfs35 := bF BK233.out 0
                 have hns35_0 := NB222_233.out
                 have hms35_0 := NB233_222.out
                 have hs37 : w34.cell? ⟨gb233, 1, none⟩ = some (.slice none 0 0) := (bC BK233.out 1).trans rfl
                 have hfs37 := bF BK233.out 1
                 have hns37_0 := NB222_233.out
                 have hms37_0 := NB233_222.out
                 have hs38 : w34.cell? ⟨gb233, 2, none⟩ = some (.string (⟨#[]⟩ : ByteArray)) := (bC BK233.out 2).trans rfl
                 have hfs38 := bF BK233.out 2
                 have hns38_0 := NB222_233.out
                 have hms38_0 := NB233_222.out
                 refine skip_ (w1 := ?_) (by rfl) rfl ?_ ?_
                 rotate_left
                 ·go_simp
                  rfl
                 refine hK.out _ _ ⟨((cell_far (p := ⟨gb233, _, none⟩) NB222_233.out _).trans (((cell_far (p := ⟨gb233, _, none⟩) NB222_233.out _).trans (((cell_far (p := ⟨gb233, _, none⟩) NB222_233.out _).trans (hHeld.1)))))), ((cell_far (p := ⟨gb233, _, none⟩) NB222_233.out _).trans (((cell_far (p := ⟨gb233, _, none⟩) NB222_233.out _).trans (((cell_far (p := ⟨gb233, _, none⟩) NB222_233.out _).trans (hHeld.2.1)))))), ((cell_far (p := ⟨gb233, _, none⟩) NB222_233.out _).trans (((cell_far (p := ⟨gb233, _, none⟩) NB222_233.out _).trans (((cell_far (p := ⟨gb233, _, none⟩) NB222_233.out _).trans (hHeld.2.2.1)))))), ((cell_far (p := ⟨gb233, _, none⟩) (by first | exact Nat.ne_of_lt (Nat.lt_of_lt_of_le (by have := World.block_lt_of_cell? _ _ hw226_0; first | rwa [add_block] at this | exact this) GW233.out) | (rw [add_block]; exact Nat.ne_of_lt (Nat.lt_of_lt_of_le (by have := World.block_lt_of_cell? _ _ hw226_0; first | rwa [add_block] at this | exact this) GW233.out)) | (show (Addr.add _ _).block ≠ _; rw [add_block]; exact Nat.ne_of_lt (Nat.lt_of_lt_of_le (by have := World.block_lt_of_cell? _ _ hw226_0; first | rwa [add_block] at this | exact this) GW233.out)) | (dsimp only; exact Nat.ne_of_lt (Nat.lt_of_lt_of_le (by have := World.block_lt_of_cell? _ _ hw226_0; first | rwa [add_block] at this | exact this) GW233.out))) _).trans (((cell_far (p := ⟨gb233, _, none⟩) (by first | exact Nat.ne_of_lt (Nat.lt_of_lt_of_le (by have := World.block_lt_of_cell? _ _ hw226_0; first | rwa [add_block] at this | exact this) GW233.out) | (rw [add_block]; exact Nat.ne_of_lt (Nat.lt_of_lt_of_le (by have := World.block_lt_of_cell? _ _ hw226_0; first | rwa [add_block] at this | exact this) GW233.out)) | (show (Addr.add _ _).block ≠ _; rw [add_block]; exact Nat.ne_of_lt (Nat.lt_of_lt_of_le (by have := World.block_lt_of_cell? _ _ hw226_0; first | rwa [add_block] at this | exact this) GW233.out)) | (dsimp only; exact Nat.ne_of_lt (Nat.lt_of_lt_of_le (by have := World.block_lt_of_cell? _ _ hw226_0; first | rwa [add_block] at this | exact this) GW233.out))) _).trans (((cell_far (p := ⟨gb233, _, none⟩) (by first | exact Nat.ne_of_lt (Nat.lt_of_lt_of_le (by have := World.block_lt_of_cell? _ _ hw226_0; first | rwa [add_block] at this | exact this) GW233.out) | (rw [add_block]; exact Nat.ne_of_lt (Nat.lt_of_lt_of_le (by have := World.block_lt_of_cell? _ _ hw226_0; first | rwa [add_block] at this | exact this) GW233.out)) | (show (Addr.add _ _).block ≠ _; rw [add_block]; exact Nat.ne_of_lt (Nat.lt_of_lt_of_le (by have := World.block_lt_of_cell? _ _ hw226_0; first | rwa [add_block] at this | exact this) GW233.out)) | (dsimp only; exact Nat.ne_of_lt (Nat.lt_of_lt_of_le (by have := World.block_lt_of_cell? _ _ hw226_0; first | rwa [add_block] at this | exact this) GW233.out))) _).trans (hHeld.2.2.2))))))⟩ (fun hHeld => ?_)
                 clear hK K
                 refine pure_ (i := 11) (N := some 15) (v := ?_) (a' := ?_) #[true, true, true, true, true, true, true, true, true, true, true, true] rfl rfl (any_of HT_.out (by kernel_rfl)) (fun _ _ _ h => h) (Or.inl ⟨by rfl, ?_⟩) ?_ ?_
                 rotate_left
                 ·intro w'
                  go_simp
                  with_reducible rfl
                 rotate_left
                 ·simp only [Act.put, setIfInBounds_toArray, set_cons_zero, set_cons_succ, i64_w, i32_w]
                  rfl
                 refine done_ (done_of HT_.out (by kernel_rfl)) ?_
                 try go_wp2
                 have n0_ : Ax (Kd.R k24 24 (((w34.setCell ⟨gb233, 0, none⟩ (.int .u64 t227)).setCell ⟨gb233, 1, none⟩ (.slice Ao36 t228.length co36)).setCell ⟨gb233, 2, none⟩ (.string t231)) w.heap.size (fun _ => True) u11 x11_2) := ⟨by apply Kd.R_to; exact Kd.R_mono (Kd.R_far (p := ⟨gb233, 2, none⟩) (Kd.R_far (p := ⟨gb233, 1, none⟩) (Kd.R_far (p := ⟨gb233, 0, none⟩) (Kd.R_types HO_11.out BK233.out (by decide)) (fun _ hk => hk.2) (.int .u64 t227)) (fun _ hk => hk.2) (.slice Ao36 t228.length co36)) (fun _ hk => hk.2) (.string t231)) (fun _ hk => trivial)⟩
                 have n1_ : Ax (Kd.R (Kd.int .i64) 3 (((w34.setCell ⟨gb233, 0, none⟩ (.int .u64 t227)).setCell ⟨gb233, 1, none⟩ (.slice Ao36 t228.length co36)).setCell ⟨gb233, 2, none⟩ (.string t231)) w.heap.size (fun _ => True) u12 x12_2) := ⟨by apply Kd.R_to; exact Kd.R_mono (Kd.R_far (p := ⟨gb233, 2, none⟩) (Kd.R_far (p := ⟨gb233, 1, none⟩) (Kd.R_far (p := ⟨gb233, 0, none⟩) (Kd.R_types HO_12.out BK233.out (by decide)) (fun _ hk => hk.2) (.int .u64 t227)) (fun _ hk => hk.2) (.slice Ao36 t228.length co36)) (fun _ hk => hk.2) (.string t231)) (fun _ hk => trivial)⟩
                 have n2_ : Ax (Kd.N k44 44 (((w34.setCell ⟨gb233, 0, none⟩ (.int .u64 t227)).setCell ⟨gb233, 1, none⟩ (.slice Ao36 t228.length co36)).setCell ⟨gb233, 2, none⟩ (.string t231)) w.heap.size (fun k_ => some k_ ≠ (u11 : Value).ownBlock ∧ some k_ ≠ (u12 : Value).ownBlock ∧ some k_ ≠ (.slice Ao36 t228.length co36 : Value).ownBlock ∧ k_ ≠ gb222 ∧ k_ ≠ gb233) (.slice Ao30 x223001_2.length co30) x223001_2) := ⟨by apply Kd.N_to; exact Kd.N_mono (Kd.N_far (p := ⟨gb233, 2, none⟩) (Kd.N_far (p := ⟨gb233, 1, none⟩) (Kd.N_far (p := ⟨gb233, 0, none⟩) (Kd.N_mono HO_223001.out (fun k_ hk => (⟨hk, hk.2.2.2.2⟩ : _ ∧ k_ ≠ gb233))) (fun _ hk => hk.2) (.int .u64 t227)) (fun _ hk => hk.2) (.slice Ao36 t228.length co36)) (fun _ hk => hk.2) (.string t231)) (fun _ hk => ⟨hk.1.2.1, ⟨hk.1.2.2.1, ⟨hk.1.1, ⟨hk.1.2.2.2.1, hk.1.2.2.2.2⟩⟩⟩⟩)⟩
                 have n3_ : Ax (Kd.N k44 44 (((w34.setCell ⟨gb233, 0, none⟩ (.int .u64 t227)).setCell ⟨gb233, 1, none⟩ (.slice Ao36 t228.length co36)).setCell ⟨gb233, 2, none⟩ (.string t231)) w.heap.size (fun k_ => some k_ ≠ (u11 : Value).ownBlock ∧ some k_ ≠ (u12 : Value).ownBlock ∧ k_ ≠ gb222 ∧ k_ ≠ gb233) (.slice Ao36 t228.length co36) t228) := ⟨by apply Kd.N_to; exact Kd.N_mono (Kd.N_far (p := ⟨gb233, 2, none⟩) (Kd.N_far (p := ⟨gb233, 1, none⟩) (Kd.N_far (p := ⟨gb233, 0, none⟩) (Kd.N_mono HO230.out (fun k_ hk => (⟨hk, hk.2.2.2⟩ : _ ∧ k_ ≠ gb233))) (fun _ hk => hk.2) (.int .u64 t227)) (fun _ hk => hk.2) (.slice Ao36 t228.length co36)) (fun _ hk => hk.2) (.string t231)) (fun _ hk => ⟨hk.1.1, ⟨hk.1.2.1, ⟨hk.1.2.2.1, hk.1.2.2.2⟩⟩⟩)⟩
                 have n4_ : Ax ((((w34.setCell ⟨gb233, 0, none⟩ (.int .u64 t227)).setCell ⟨gb233, 1, none⟩ (.slice Ao36 t228.length co36)).setCell ⟨gb233, 2, none⟩ (.string t231)).heap[gb222]? = some (.cells #[.int .u64 x223000_2, .slice Ao30 x223001_2.length co30, .string x223002_2] 66 (0, 0))) := ⟨by refine bT ?_; refine bR ?_ NB222_233.out _; refine bT ?_; refine bR ?_ NB222_233.out _; refine bT ?_; refine bR ?_ NB222_233.out _; refine bT ?_; exact BK222.out⟩
                 have n5_ : Ax ((((w34.setCell ⟨gb233, 0, none⟩ (.int .u64 t227)).setCell ⟨gb233, 1, none⟩ (.slice Ao36 t228.length co36)).setCell ⟨gb233, 2, none⟩ (.string t231)).heap[gb233]? = some (.cells #[.int .u64 t227, .slice Ao36 t228.length co36, .string t231] 66 (0, 0))) := ⟨by refine bT ?_; refine bU (cs := #[.int .u64 t227, .slice Ao36 t228.length co36, .string (⟨#[]⟩ : ByteArray)]) ?_ 2 _ rfl; refine bT ?_; refine bU (cs := #[.int .u64 t227, .slice none 0 0, .string (⟨#[]⟩ : ByteArray)]) ?_ 1 _ rfl; refine bT ?_; refine bU (cs := #[.int .u64 0, .slice none 0 0, .string (⟨#[]⟩ : ByteArray)]) ?_ 0 _ rfl; refine bT ?_; exact BK233.out⟩
                 have n6_ : Ax (Below w.heap.size w (((w34.setCell ⟨gb233, 0, none⟩ (.int .u64 t227)).setCell ⟨gb233, 1, none⟩ (.slice Ao36 t228.length co36)).setCell ⟨gb233, 2, none⟩ (.string t231))) := ⟨bA⟩
                 (try clear HO_11)
                 (try clear HO_12)
                 (try clear HO_223001)
                 (try clear HO230)
                 (try clear BK222)
                 (try clear BK233)
                 (try clear HB)
                 generalize (((w34.setCell ⟨gb233, 0, none⟩ (.int .u64 t227)).setCell ⟨gb233, 1, none⟩ (.slice Ao36 t228.length co36)).setCell ⟨gb233, 2, none⟩ (.string t231)) = w39 at n0_ n1_ n2_ n3_ n4_ n5_ n6_ ⊢
                 have HO_11 := n0_
                 have HO_12 := n1_
                 have HO_223001 := n2_
                 have HO230 := n3_
                 have BK222 := n4_
                 have BK233 := n5_
                 have HB := n6_
                 clear n0_ n1_ n2_ n3_ n4_ n5_ n6_
                 have n0_ := Ax.mk (Kd.R_drew HO_11.out)
                 have n1_ := Ax.mk (Kd.R_drew HO_12.out)
                 have n2_ := Ax.mk (Kd.N_drew HO_223001.out)
                 have n3_ := Ax.mk (Kd.N_drew HO230.out)
                 have n4_ := Ax.mk (blk_drew BK222.out)
                 have n5_ := Ax.mk (blk_drew BK233.out)
                 have n6_ := Ax.mk (below_drew1 HB.out)
                 clear HO_11
                 clear HO_12
                 clear HO_223001
                 clear HO230
                 clear BK222
                 clear BK233
                 clear HB
                 have HO_11 := n0_
                 have HO_12 := n1_
                 have HO_223001 := n2_
                 have HO230 := n3_
                 have BK222 := n4_
                 have BK233 := n5_
                 have HB := n6_
                 clear n0_ n1_ n2_ n3_ n4_ n5_ n6_
                 refine start_ (n := 27) (S := fun w' => w'.cell? ⟨gb233, 0, none⟩ = some (.int .u64 t227) ∧ w'.cell? ⟨gb233, 1, none⟩ = some (.slice Ao36 t228.length co36) ∧ w'.cell? ⟨gb233, 2, none⟩ = some (.string t231) ∧ w'.cell? ⟨gb222, 0, none⟩ = some (.int .u64 x223000_2) ∧ w'.cell? ⟨gb222, 1, none⟩ = some (.slice Ao30 x223001_2.length co30) ∧ w'.cell? ⟨gb222, 2, none⟩ = some (.string x223002_2)) (ds := []) #[false, false, false, false, false, false, false, false, false, false, false, false, false, false, false, false, false, false, false, false, false, false, false, false, false, false, false] (by kernel_rfl) rfl rfl ⟨(bC BK233.out 0).trans rfl, (bC BK233.out 1).trans rfl, (bC BK233.out 2).trans rfl, (bC BK222.out 0).trans rfl, (bC BK222.out 1).trans rfl, (bC BK222.out 2).trans rfl⟩ (fun hHeld => ?_); refine with_tabW l13_JournalAfter.tab14 l13_JournalAfter.bits14 (fun HT_ HW_ => ?_)
                 generalize w39.drew = w40 at HO_11 HO_12 HO_223001 HO230 BK222 BK233 HB hHeld ⊢
                 refine pure_ (i := 0) (N := some 60) (v := ?_) (a' := ?_) #[true, false, false, false, false, false, false, false, false, false, false, false, false, false, false, false, false, false, false, false, false, false, false, false, false, false, false] rfl rfl (any_of HT_.out (by kernel_rfl)) (fun _ _ _ h => h) (Or.inl ⟨by rfl, ?_⟩) ?_ ?_
                 rotate_left
                 ·intro w'
                  go_simp
                  with_reducible rfl
                 rotate_left
                 ·simp only [Act.put, setIfInBounds_toArray, set_cons_zero, set_cons_succ, i64_w, i32_w]
                  rfl
                 refine pure_ (i := 2) (N := some 62) (v := ?_) (a' := ?_) #[true, false, true, false, false, false, false, false, false, false, false, false, false, false, false, false, false, false, false, false, false, false, false, false, false, false, false] rfl rfl (any_of HT_.out (by kernel_rfl)) (fun _ _ _ h => h) (Or.inl ⟨by rfl, ?_⟩) ?_ ?_
                 rotate_left
                 ·intro w'
                  go_simp
                  with_reducible rfl
                 rotate_left
                 ·simp only [Act.put, setIfInBounds_toArray, set_cons_zero, set_cons_succ, i64_w, i32_w]
                  rfl
                 refine take_ (i := 1) (N := some 61) (v := ?_) (a' := ?_) #[true, true, true, false, false, false, false, false, false, false, false, false, false, false, false, false, false, false, false, false, false, false, false, false, false, false, false] rfl rfl (take_ofW HT_.out HW_.out (by kernel_rfl)) (fun _ _ _ h => h) (Or.inl ⟨by rfl, ?_⟩) hHeld ?_ ?_
                 rotate_left
                 ·rintro w' ⟨s0, s1, s2, s3, s4, s5⟩
                  go_simp
                  with_reducible rfl
                 rotate_left
                 ·simp only [Act.put, setIfInBounds_toArray, set_cons_zero, set_cons_succ, i64_w, i32_w]
                  rfl
                 refine take_ (i := 3) (N := some 63) (v := ?_) (a' := ?_) #[true, true, true, true, false, false, false, false, false, false, false, false, false, false, false, false, false, false, false, false, false, false, false, false, false, false, false] rfl rfl (take_ofW HT_.out HW_.out (by kernel_rfl)) (fun _ _ _ h => h) (Or.inl ⟨by rfl, ?_⟩) hHeld ?_ ?_
                 rotate_left
                 ·rintro w' ⟨s0, s1, s2, s3, s4, s5⟩
                  go_simp
                  with_reducible rfl
                 rotate_left
                 ·simp only [Act.put, setIfInBounds_toArray, set_cons_zero, set_cons_succ, i64_w, i32_w]
                  rfl
                 refine pure_ (i := 4) (N := some 64) (v := ?_) (a' := ?_) #[true, true, true, true, true, false, false, false, false, false, false, false, false, false, false, false, false, false, false, false, false, false, false, false, false, false, false] rfl rfl (any_of HT_.out (by kernel_rfl)) (fun _ _ _ h => h) (Or.inl ⟨by rfl, ?_⟩) ?_ ?_
                 rotate_left
                 ·intro w'
                  go_simp
                  with_reducible rfl
                 rotate_left
                 ·simp only [Act.put, setIfInBounds_toArray, set_cons_zero, set_cons_succ, i64_w, i32_w]
                  rfl
                 refine pure_ (i := 5) (N := some 65) (v := ?_) (a' := ?_) #[true, true, true, true, true, true, false, false, false, false, false, false, false, false, false, false, false, false, false, false, false, false, false, false, false, false, false] rfl rfl (any_of HT_.out (by kernel_rfl)) (fun _ _ _ h => h) (Or.inl ⟨by rfl, ?_⟩) ?_ ?_
                 rotate_left
                 ·intro w'
                  go_simp
                  with_reducible rfl
                 rotate_left
                 ·simp only [Act.put, setIfInBounds_toArray, set_cons_zero, set_cons_succ, i64_w, i32_w]
                  rfl
                 refine pure_ (i := 6) (N := some 66) (v := ?_) (a' := ?_) #[true, true, true, true, true, true, true, false, false, false, false, false, false, false, false, false, false, false, false, false, false, false, false, false, false, false, false] rfl rfl (any_of HT_.out (by kernel_rfl)) (fun _ _ _ h => h) (Or.inl ⟨by rfl, ?_⟩) ?_ ?_
                 rotate_left
                 ·intro w'
                  go_simp
                  with_reducible rfl
                 rotate_left
                 ·simp only [Act.put, setIfInBounds_toArray, set_cons_zero, set_cons_succ, i64_w, i32_w]
                  rfl
                 refine pure_ (i := 7) (N := some 67) (v := ?_) (a' := ?_) #[true, true, true, true, true, true, true, true, false, false, false, false, false, false, false, false, false, false, false, false, false, false, false, false, false, false, false] rfl rfl (any_of HT_.out (by kernel_rfl)) (fun _ _ _ h => h) (Or.inl ⟨by rfl, ?_⟩) ?_ ?_
                 rotate_left
                 ·intro w'
                  go_simp
                  with_reducible rfl
                 rotate_left
                 ·simp only [Act.put, setIfInBounds_toArray, set_cons_zero, set_cons_succ, i64_w, i32_w]
                  rfl
                 refine pure_ (i := 10) (N := some 70) (v := ?_) (a' := ?_) #[true, true, true, true, true, true, true, true, false, false, true, false, false, false, false, false, false, false, false, false, false, false, false, false, false, false, false] rfl rfl (any_of HT_.out (by kernel_rfl)) (fun _ _ _ h => h) (Or.inl ⟨by rfl, ?_⟩) ?_ ?_
                 rotate_left
                 ·intro w'
                  go_simp
                  with_reducible rfl
                 rotate_left
                 ·simp only [Act.put, setIfInBounds_toArray, set_cons_zero, set_cons_succ, i64_w, i32_w]
                  rfl
                 refine take_ (i := 8) (N := some 68) (v := ?_) (a' := ?_) #[true, true, true, true, true, true, true, true, true, false, true, false, false, false, false, false, false, false, false, false, false, false, false, false, false, false, false] rfl rfl (take_ofW HT_.out HW_.out (by kernel_rfl)) (fun _ _ _ h => h) (Or.inl ⟨by rfl, ?_⟩) hHeld ?_ ?_
                 rotate_left
                 ·rintro w' ⟨s0, s1, s2, s3, s4, s5⟩
                  go_simp
                  with_reducible rfl
                 rotate_left
                 ·simp only [Act.put, setIfInBounds_toArray, set_cons_zero, set_cons_succ, i64_w, i32_w]
                  rfl
                 refine pure_ (i := 9) (N := some 69) (v := ?_) (a' := ?_) #[true, true, true, true, true, true, true, true, true, true, true, false, false, false, false, false, false, false, false, false, false, false, false, false, false, false, false] rfl rfl (any_of HT_.out (by kernel_rfl)) (fun _ _ _ h => h) (Or.inl ⟨by rfl, ?_⟩) ?_ ?_
                 rotate_left
                 ·intro w'
                  go_simp
                  with_reducible rfl
                 rotate_left
                 ·simp only [Act.put, setIfInBounds_toArray, set_cons_zero, set_cons_succ, i64_w, i32_w]
                  rfl
                 refine take_ (i := 11) (N := some 71) (v := ?_) (a' := ?_) #[true, true, true, true, true, true, true, true, true, true, true, true, false, false, false, false, false, false, false, false, false, false, false, false, false, false, false] rfl rfl (take_ofW HT_.out HW_.out (by kernel_rfl)) (fun _ _ _ h => h) (Or.inl ⟨by rfl, ?_⟩) hHeld ?_ ?_
                 rotate_left
                 ·rintro w' ⟨s0, s1, s2, s3, s4, s5⟩
                  go_simp
                  with_reducible rfl
                 rotate_left
                 ·simp only [Act.put, setIfInBounds_toArray, set_cons_zero, set_cons_succ, i64_w, i32_w]
                  rfl
                 refine pure_ (i := 12) (N := some 72) (v := ?_) (a' := ?_) #[true, true, true, true, true, true, true, true, true, true, true, true, true, false, false, false, false, false, false, false, false, false, false, false, false, false, false] rfl rfl (any_of HT_.out (by kernel_rfl)) (fun _ _ _ h => h) (Or.inl ⟨by rfl, ?_⟩) ?_ ?_
                 rotate_left
                 ·intro w'
                  go_simp
                  with_reducible rfl
                 rotate_left
                 ·simp only [Act.put, setIfInBounds_toArray, set_cons_zero, set_cons_succ, i64_w, i32_w]
                  rfl
                 refine pure_ (i := 13) (N := some 73) (v := ?_) (a' := ?_) #[true, true, true, true, true, true, true, true, true, true, true, true, true, true, false, false, false, false, false, false, false, false, false, false, false, false, false] rfl rfl (any_of HT_.out (by kernel_rfl)) (fun _ _ _ h => h) (Or.inl ⟨by rfl, ?_⟩) ?_ ?_
                 rotate_left
                 ·intro w'
                  go_simp
                  with_reducible rfl
                 rotate_left
                 ·simp only [Act.put, setIfInBounds_toArray, set_cons_zero, set_cons_succ, i64_w, i32_w]
                  rfl
                 refine pure_ (i := 14) (N := some 74) (v := ?_) (a' := ?_) #[true, true, true, true, true, true, true, true, true, true, true, true, true, true, true, false, false, false, false, false, false, false, false, false, false, false, false] rfl rfl (any_of HT_.out (by kernel_rfl)) (fun _ _ _ h => h) (Or.inl ⟨by rfl, ?_⟩) ?_ ?_
                 rotate_left
                 ·intro w'
                  go_simp
                  with_reducible rfl
                 rotate_left
                 ·simp only [Act.put, setIfInBounds_toArray, set_cons_zero, set_cons_succ, i64_w, i32_w]
                  rfl
                 refine pure_ (i := 15) (N := some 75) (v := ?_) (a' := ?_) #[true, true, true, true, true, true, true, true, true, true, true, true, true, true, true, true, false, false, false, false, false, false, false, false, false, false, false] rfl rfl (any_of HT_.out (by kernel_rfl)) (fun _ _ _ h => h) (Or.inl ⟨by rfl, ?_⟩) ?_ ?_
                 rotate_left
                 ·intro w'
                  go_simp
                  with_reducible rfl
                 rotate_left
                 ·simp only [Act.put, setIfInBounds_toArray, set_cons_zero, set_cons_succ, i64_w, i32_w]
                  rfl
                 refine pure_ (i := 16) (N := some 76) (v := ?_) (a' := ?_) #[true, true, true, true, true, true, true, true, true, true, true, true, true, true, true, true, true, false, false, false, false, false, false, false, false, false, false] rfl rfl (any_of HT_.out (by kernel_rfl)) (fun _ _ _ h => h) (Or.inl ⟨by rfl, ?_⟩) ?_ ?_
                 rotate_left
                 ·intro w'
                  go_simp
                  with_reducible rfl
                 rotate_left
                 ·simp only [Act.put, setIfInBounds_toArray, set_cons_zero, set_cons_succ, i64_w, i32_w]
                  rfl
                 refine pure_ (i := 17) (N := some 77) (v := ?_) (a' := ?_) #[true, true, true, true, true, true, true, true, true, true, true, true, true, true, true, true, true, true, false, false, false, false, false, false, false, false, false] rfl rfl (any_of HT_.out (by kernel_rfl)) (fun _ _ _ h => h) (Or.inl ⟨by rfl, ?_⟩) ?_ ?_
                 rotate_left
                 ·intro w'
                  go_simp
                  with_reducible rfl
                 rotate_left
                 ·simp only [Act.put, setIfInBounds_toArray, set_cons_zero, set_cons_succ, i64_w, i32_w]
                  rfl
                 refine pure_ (i := 19) (N := some 79) (v := ?_) (a' := ?_) #[true, true, true, true, true, true, true, true, true, true, true, true, true, true, true, true, true, true, false, true, false, false, false, false, false, false, false] rfl rfl (any_of HT_.out (by kernel_rfl)) (fun _ _ _ h => h) (Or.inl ⟨by rfl, ?_⟩) ?_ ?_
                 rotate_left
                 ·intro w'
                  go_simp
                  with_reducible rfl
                 rotate_left
                 ·simp only [Act.put, setIfInBounds_toArray, set_cons_zero, set_cons_succ, i64_w, i32_w]
                  rfl
                 refine pure_ (i := 23) (N := some 83) (v := ?_) (a' := ?_) #[true, true, true, true, true, true, true, true, true, true, true, true, true, true, true, true, true, true, false, true, false, false, false, true, false, false, false] rfl rfl (any_of HT_.out (by kernel_rfl)) (fun _ _ _ h => h) (Or.inl ⟨by rfl, ?_⟩) ?_ ?_
                 rotate_left
                 ·intro w'
                  go_simp
                  with_reducible rfl
                 rotate_left
                 ·simp only [Act.put, setIfInBounds_toArray, set_cons_zero, set_cons_succ, i64_w, i32_w]
                  rfl
                 refine take_ (i := 18) (N := some 78) (v := ?_) (a' := ?_) #[true, true, true, true, true, true, true, true, true, true, true, true, true, true, true, true, true, true, true, true, false, false, false, true, false, false, false] rfl rfl (take_ofW HT_.out HW_.out (by kernel_rfl)) (fun _ _ _ h => h) (Or.inl ⟨by rfl, ?_⟩) hHeld ?_ ?_
                 rotate_left
                 ·rintro w' ⟨s0, s1, s2, s3, s4, s5⟩
                  go_simp
                  with_reducible rfl
                 rotate_left
                 ·simp only [Act.put, setIfInBounds_toArray, set_cons_zero, set_cons_succ, i64_w, i32_w]
                  rfl
                 refine take_ (i := 20) (N := some 80) (v := ?_) (a' := ?_) #[true, true, true, true, true, true, true, true, true, true, true, true, true, true, true, true, true, true, true, true, true, false, false, true, false, false, false] rfl rfl (take_ofW HT_.out HW_.out (by kernel_rfl)) (fun _ _ _ h => h) (Or.inl ⟨by rfl, ?_⟩) hHeld ?_ ?_
                 rotate_left
                 ·rintro w' ⟨s0, s1, s2, s3, s4, s5⟩
                  go_simp
                  with_reducible rfl
                 rotate_left
                 ·simp only [Act.put, setIfInBounds_toArray, set_cons_zero, set_cons_succ, i64_w, i32_w]
                  rfl
                 refine pure_ (i := 21) (N := some 81) (v := ?_) (a' := ?_) #[true, true, true, true, true, true, true, true, true, true, true, true, true, true, true, true, true, true, true, true, true, true, false, true, false, false, false] rfl rfl (any_of HT_.out (by kernel_rfl)) (fun _ _ _ h => h) (Or.inl ⟨by rfl, ?_⟩) ?_ ?_
                 rotate_left
                 ·intro w'
                  go_simp
                  with_reducible rfl
                 rotate_left
                 ·simp only [Act.put, setIfInBounds_toArray, set_cons_zero, set_cons_succ, i64_w, i32_w]
                  rfl
                 refine pure_ (i := 22) (N := some 82) (v := ?_) (a' := ?_) #[true, true, true, true, true, true, true, true, true, true, true, true, true, true, true, true, true, true, true, true, true, true, true, true, false, false, false] rfl rfl (any_of HT_.out (by kernel_rfl)) (fun _ _ _ h => h) (Or.inl ⟨by rfl, ?_⟩) ?_ ?_
                 rotate_left
                 ·intro w'
                  go_simp
                  with_reducible rfl
                 rotate_left
                 ·simp only [Act.put, setIfInBounds_toArray, set_cons_zero, set_cons_succ, i64_w, i32_w]
                  rfl
                 refine take_ (i := 24) (N := some 84) (v := ?_) (a' := ?_) #[true, true, true, true, true, true, true, true, true, true, true, true, true, true, true, true, true, true, true, true, true, true, true, true, true, false, false] rfl rfl (take_ofW HT_.out HW_.out (by kernel_rfl)) (fun _ _ _ h => h) (Or.inl ⟨by rfl, ?_⟩) hHeld ?_ ?_
                 rotate_left
                 ·rintro w' ⟨s0, s1, s2, s3, s4, s5⟩
                  go_simp
                  with_reducible rfl
                 rotate_left
                 ·simp only [Act.put, setIfInBounds_toArray, set_cons_zero, set_cons_succ, i64_w, i32_w]
                  rfl
                 refine pure_ (i := 25) (N := some 85) (v := ?_) (a' := ?_) #[true, true, true, true, true, true, true, true, true, true, true, true, true, true, true, true, true, true, true, true, true, true, true, true, true, true, false] rfl rfl (any_of HT_.out (by kernel_rfl)) (fun _ _ _ h => h) (Or.inl ⟨by rfl, ?_⟩) ?_ ?_
                 rotate_left
                 ·intro w'
                  go_simp
                  with_reducible rfl
                 rotate_left
                 ·simp only [Act.put, setIfInBounds_toArray, set_cons_zero, set_cons_succ, i64_w, i32_w]
                  rfl
                 refine pure_ (i := 26) (N := some 86) (v := ?_) (a' := ?_) #[true, true, true, true, true, true, true, true, true, true, true, true, true, true, true, true, true, true, true, true, true, true, true, true, true, true, true] rfl rfl (any_of HT_.out (by kernel_rfl)) (fun _ _ _ h => h) (Or.inl ⟨by rfl, ?_⟩) ?_ ?_
                 rotate_left
                 ·intro w'
                  go_simp
                  with_reducible rfl
                 rotate_left
                 ·simp only [Act.put, setIfInBounds_toArray, set_cons_zero, set_cons_succ, i64_w, i32_w]
                  rfl
                 refine done_ (done_of HT_.out (by kernel_rfl)) ?_
                 have hnb41 := NB233_222.out
                 have hnc41 := NB222_233.out
                 have hcz42_0 : w40.cell? ⟨gb233, 0, none⟩ = some (.int .u64 t227) := (bC BK233.out 0).trans rfl
                 have hcz42_1 : w40.cell? ⟨gb233, 1, none⟩ = some (.slice Ao36 t228.length co36) := (bC BK233.out 1).trans rfl
                 have hcz42_2 : w40.cell? ⟨gb233, 2, none⟩ = some (.string t231) := (bC BK233.out 2).trans rfl
                 have hfz42_0 := bF BK233.out 0
                 have hfz42_1 := bF BK233.out 1
                 have hfz42_2 := bF BK233.out 2
                 have hcz43_0 : w40.cell? ⟨gb222, 0, none⟩ = some (.int .u64 x223000_2) := (bC BK222.out 0).trans rfl
                 have hcz43_1 : w40.cell? ⟨gb222, 1, none⟩ = some (.slice Ao30 x223001_2.length co30) := (bC BK222.out 1).trans rfl
                 have hcz43_2 : w40.cell? ⟨gb222, 2, none⟩ = some (.string x223002_2) := (bC BK222.out 2).trans rfl
                 have hfz43_0 := bF BK222.out 0
                 have hfz43_1 := bF BK222.out 1
                 have hfz43_2 := bF BK222.out 2
                 have p234 : 0 ≤ (x13_2 : Int) := of_decide_eq_true (by first | (with_reducible assumption) | assumption)
                 have q234 : x13_2 < (l1.length : Int) := of_decide_eq_true (by first | (with_reducible assumption) | assumption)
                 obtain ⟨ad234, A234_0, c234_0, e234, hx234_0, hl234_0, hi234_0⟩ := at_L4 HR1.out x13_2 p234 q234
                 obtain rfl : ad226 = ad234 := (by injection e234)
                 have hn234_0 : ad226.block ≠ gb222 := Nat.ne_of_lt (Nat.lt_of_lt_of_le (by have := World.block_lt_of_cell? _ _ hx234_0; first | rwa [add_block] at this | exact this) GW222.out)
                 have hn234_1 : ad226.block ≠ gb222 := Nat.ne_of_lt (Nat.lt_of_lt_of_le (by have := World.block_lt_of_cell? _ _ hx234_0; first | rwa [add_block] at this | exact this) GW222.out)
                 have hn234_2 : ad226.block ≠ gb222 := Nat.ne_of_lt (Nat.lt_of_lt_of_le (by have := World.block_lt_of_cell? _ _ hx234_0; first | rwa [add_block] at this | exact this) GW222.out)
                 replace hx234_0 := (HB.out.cell (World.block_lt_of_cell? w _ hx234_0)).trans hx234_0
                 have HR234_0 := Ax.mk hi234_0
                 have HC234_0 := Ax.mk hl234_0
                 clear hi234_0 hl234_0
                 replace hx234_0 := (cell_far (p := ⟨gb222, 0, none⟩) (by first | (rw [add_block]; exact hn234_0) | (show (Addr.add _ _).block ≠ _; rw [add_block]; exact hn234_0) | exact hn234_0) (.int .u64 t227)).trans hx234_0
                 replace hx234_0 := (cell_far (p := ⟨gb222, 1, none⟩) (by first | (rw [add_block]; exact hn234_1) | (show (Addr.add _ _).block ≠ _; rw [add_block]; exact hn234_1) | exact hn234_1) (.slice Ao36 t228.length co36)).trans hx234_0
                 replace hx234_0 := (cell_far (p := ⟨gb222, 2, none⟩) (by first | (rw [add_block]; exact hn234_2) | (show (Addr.add _ _).block ≠ _; rw [add_block]; exact hn234_2) | exact hn234_2) (.string t231)).trans hx234_0
                 clear hn234_0
                 clear hn234_1
                 clear hn234_2
                 replace p234 := eq_true p234
                 replace q234 := eq_true q234
                 try go_wp2_with (first | ((with_reducible refine gate_builtin (b := .append) (xs := #[.tmp 88, .tmp 92]) rfl ?_); (try (refine gate_guard (by rfl) ?_; dsimp only)); at_builtin; refine Kd.R_append_rows k24 (w0 := w) w.heap.size rfl (.tmp 88) (.tmp 92) 29 24 (.agg #[(.int .i64 0), (.int .i64 0), (.int .i64 0), (.int .u64 0), (.string ⟨#[]⟩)]) 48 rfl Tryd.underlying29 info24 rfl (by decide) (by omega) u11 x11_2 (rd_L4 l1 x13_2) _ _ _ (fun _ => True) (fun _ => False) rfl rfl ?aO ?aR (fun _ _ h => h) (fun _ h => h.elim) ?aF ?aB ?aS ?aL ?_; (case aR => exact Kd.C_below HR234_0.out bA); (case aB => exact bA); (case aF => exact (fun _ _ => trivial)); (case aO => exact (by apply Kd.R_to; exact Kd.R_mono (Kd.R_far (p := ⟨gb222, 2, none⟩) (Kd.R_far (p := ⟨gb222, 1, none⟩) (Kd.R_far (p := ⟨gb222, 0, none⟩) (Kd.R_types HO_11.out BK222.out (by decide)) (fun _ hk => hk.2) (.int .u64 t227)) (fun _ hk => hk.2) (.slice Ao36 t228.length co36)) (fun _ hk => hk.2) (.string t231)) (fun _ hk => trivial))); (case aS => exact (bS bA)); (case aL => have := LMc28.out; omega); intro v236 w44 ho hb hg hat; rw [← Ny235.out] at ho; have n0_ := Ax.mk (Kd.R_over' (by apply Kd.R_to; exact (Kd.R_mono (Kd.R_far (p := ⟨gb222, 2, none⟩) (Kd.R_far (p := ⟨gb222, 1, none⟩) (Kd.R_far (p := ⟨gb222, 0, none⟩) (Kd.R_types HO_12.out BK222.out (by decide)) (fun _ hk => hk.2) (.int .u64 t227)) (fun _ hk => hk.2) (.slice Ao36 t228.length co36)) (fun _ hk => hk.2) (.string t231)) (fun _ h_ => h_.1))) (Kd.R_typed (by apply Kd.R_to; exact (Kd.R_mono (Kd.R_far (p := ⟨gb222, 2, none⟩) (Kd.R_far (p := ⟨gb222, 1, none⟩) (Kd.R_far (p := ⟨gb222, 0, none⟩) (Kd.R_types HO_11.out BK222.out (by decide)) (fun _ hk => hk.2) (.int .u64 t227)) (fun _ hk => hk.2) (.slice Ao36 t228.length co36)) (fun _ hk => hk.2) (.string t231)) (fun _ h_ => h_.1)))) (by decide) hg); have n1_ := Ax.mk (Kd.N_afterv (ok := (fun k_ => some k_ ≠ (u12 : Value).ownBlock ∧ some k_ ≠ (.slice Ao36 t228.length co36 : Value).ownBlock ∧ k_ ≠ gb222 ∧ k_ ≠ gb233)) (by apply Kd.N_to; exact Kd.N_mono (Kd.N_far (p := ⟨gb222, 2, none⟩) (Kd.N_far (p := ⟨gb222, 1, none⟩) (Kd.N_far (p := ⟨gb222, 0, none⟩) (Kd.N_mono HO_223001.out (fun k_ hk => (⟨hk, hk.2.2.2.1⟩ : _ ∧ k_ ≠ gb222))) (fun _ hk => hk.2) (.int .u64 t227)) (fun _ hk => hk.2) (.slice Ao36 t228.length co36)) (fun _ hk => hk.2) (.string t231)) (fun _ hk => ⟨⟨hk.1.2.1, ⟨hk.1.2.2.1, ⟨hk.1.2.2.2.1, hk.1.2.2.2.2⟩⟩⟩, hk.1.1⟩)) hg hat); have n2_ := Ax.mk (blk_grown (g := gb222) (o := .cells #[.int .u64 t227, .slice Ao36 t228.length co36, .string t231] 66 (0, 0)) (by refine bT ?_; refine bU (cs := #[.int .u64 t227, .slice Ao36 t228.length co36, .string x223002_2]) ?_ 2 _ rfl; refine bT ?_; refine bU (cs := #[.int .u64 t227, .slice Ao30 x223001_2.length co30, .string x223002_2]) ?_ 1 _ rfl; refine bT ?_; refine bU (cs := #[.int .u64 x223000_2, .slice Ao30 x223001_2.length co30, .string x223002_2]) ?_ 0 _ rfl; exact bT BK222.out) hg (Kd.R_ne HO_11.out BK222.out (by decide))); have n3_ := Ax.mk (Kd.N_afterv (ok := (fun k_ => some k_ ≠ (u12 : Value).ownBlock ∧ k_ ≠ gb222 ∧ k_ ≠ gb233)) (by apply Kd.N_to; exact Kd.N_mono (Kd.N_far (p := ⟨gb222, 2, none⟩) (Kd.N_far (p := ⟨gb222, 1, none⟩) (Kd.N_far (p := ⟨gb222, 0, none⟩) (Kd.N_mono HO230.out (fun k_ hk => (⟨hk, hk.2.2.1⟩ : _ ∧ k_ ≠ gb222))) (fun _ hk => hk.2) (.int .u64 t227)) (fun _ hk => hk.2) (.slice Ao36 t228.length co36)) (fun _ hk => hk.2) (.string t231)) (fun _ hk => ⟨⟨hk.1.2.1, ⟨hk.1.2.2.1, hk.1.2.2.2⟩⟩, hk.1.1⟩)) hg hat); have n4_ := Ax.mk (blk_grown (g := gb233) (o := .cells #[.int .u64 t227, .slice Ao36 t228.length co36, .string t231] 66 (0, 0)) (by refine bT ?_; refine bR ?_ NB233_222.out _; refine bT ?_; refine bR ?_ NB233_222.out _; refine bT ?_; refine bR ?_ NB233_222.out _; exact bT BK233.out) hg (Kd.R_ne HO_11.out BK233.out (by decide))); have n5_ := Ax.mk (hb); have n6_ := Ax.mk (ho); clear HO_12; clear HO_223001; clear BK222; clear HO230; clear BK233; clear HB; clear HO_11; have HO_12 := n0_; have HO_223001 := n1_; have BK222 := n2_; have HO230 := n3_; have BK233 := n4_; have HB := n5_; have HO237 := n6_; clear n0_ n1_ n2_ n3_ n4_ n5_ n6_; clear ho hb hg hat; obtain ⟨Ao45, co45, eo45⟩ := Kd.R_slice HO237.out; subst eo45) | ((with_reducible refine gate_builtin (b := .append) (xs := #[.tmp 94, .tmp 97]) rfl ?_); (try (refine gate_guard (by rfl) ?_; dsimp only)); at_builtin; refine Kd.R_append (Kd.int .i64) (w0 := w) w.heap.size rfl (.tmp 94) (.tmp 97) 60 3 (.int .i64 0) 8 rfl Tryd.underlying60 info3 rfl (by decide) (by omega) u12 x12_2 (y235.length : Int) [.int .i64 (y235.length : Int)] (fun _ => True) (fun _ => False) rfl rfl ?aP (fun _ hk => hk.elim) ?aF ?aO ?aB ?aS ?aL ?_; (case aP => exact rfl); (case aB => exact bA); (case aF => exact (fun _ _ => trivial)); (case aO => exact (by exact Kd.R_to HO_12.out)); (case aS => exact (bS bA)); (case aL => have := LMc29.out; omega); intro v239 w46 ho hb hg hat; rw [← Ny238.out] at ho; have n0_ := Ax.mk (Kd.N_afterv (ok := (fun k_ => some k_ ≠ (.slice Ao36 t228.length co36 : Value).ownBlock ∧ some k_ ≠ (.slice Ao45 y235.length co45 : Value).ownBlock ∧ k_ ≠ gb222 ∧ k_ ≠ gb233)) (by apply Kd.N_to; exact Kd.N_mono HO_223001.out (fun _ hk => ⟨⟨hk.1.2.1, ⟨hk.2, ⟨hk.1.2.2.1, hk.1.2.2.2⟩⟩⟩, hk.1.1⟩)) hg hat); have n1_ := Ax.mk (blk_grown (g := gb222) (o := .cells #[.int .u64 t227, .slice Ao36 t228.length co36, .string t231] 66 (0, 0)) (bT BK222.out) hg (Kd.R_ne HO_12.out BK222.out (by decide))); have n2_ := Ax.mk (Kd.N_afterv (ok := (fun k_ => some k_ ≠ (.slice Ao45 y235.length co45 : Value).ownBlock ∧ k_ ≠ gb222 ∧ k_ ≠ gb233)) (by apply Kd.N_to; exact Kd.N_mono HO230.out (fun _ hk => ⟨⟨hk.2, ⟨hk.1.2.1, hk.1.2.2⟩⟩, hk.1.1⟩)) hg hat); have n3_ := Ax.mk (blk_grown (g := gb233) (o := .cells #[.int .u64 t227, .slice Ao36 t228.length co36, .string t231] 66 (0, 0)) (bT BK233.out) hg (Kd.R_ne HO_12.out BK233.out (by decide))); have n4_ := Ax.mk (Kd.R_over' (by exact Kd.R_to HO237.out) (Kd.R_typed (by exact Kd.R_to HO_12.out)) (by decide) hg); have n5_ := Ax.mk (hb); have n6_ := Ax.mk (ho); clear HO_223001; clear BK222; clear HO230; clear BK233; clear HO237; clear HB; clear HO_12; have HO_223001 := n0_; have BK222 := n1_; have HO230 := n2_; have BK233 := n3_; have HO237 := n4_; have HB := n5_; have HO240 := n6_; clear n0_ n1_ n2_ n3_ n4_ n5_ n6_; clear ho hb hg hat))
                 go_roundg k2
                 case measure => have := HJ5.out; have := HK2.out; omega
                 case rel => exact ⟨(y235), (y238), (wrap64 (x13_2 + 1)), (t227), (t228), (t231), (.slice Ao36 t228.length co36), (by first | rfl | (simp; done) | (simp [*]; done)), H', ⟨by have := HJ5.out; have := HK2.out; omega⟩, ⟨by apply Kd.R_to; exact HO237.out⟩, ⟨by apply Kd.R_to; exact HO240.out⟩, ⟨by apply Kd.N_to; exact Kd.N_mono HO230.out (fun _ hk => ⟨hk.1.1, ⟨hk.2, hk.1.2.1⟩⟩)⟩, ⟨by refine bT ?_; exact BK222.out⟩, ⟨bA⟩⟩
                ·rw [if_neg c29] at H
                 exact absurd H (by simp)
               ·rw [if_neg c28] at H
                exact absurd H (by simp)
              ·rw [if_neg c27] at H
               exact absurd H (by simp)
             ·rw [if_neg c26] at H
              exact absurd H (by simp)
            ·rw [if_neg c25] at H
             exact absurd H (by simp)
           ·rw [if_neg c24] at H
            have c24b0 : ((t228.length : Int) == (wrap64 ((x223001_2.length : Int) + 1))) = false := beq_eq_false_iff_ne.mpr c24
            have c24b1 : ((t228.length : Int) != (wrap64 ((x223001_2.length : Int) + 1))) = true := bne_iff_ne.mpr c24
            exact absurd H (by simp)
          ·rw [if_neg c23] at H
           have c23b0 : (t227 == (IntKind.u64.wrap (x223000_2 + 1))) = false := beq_eq_false_iff_ne.mpr c23
           have c23b1 : (t227 != (IntKind.u64.wrap (x223000_2 + 1))) = true := bne_iff_ne.mpr c23
           exact absurd H (by simp)
         ·rw [if_neg c22] at H
          have c22b0 : (t232 == 0) = false := beq_eq_false_iff_ne.mpr c22
          have c22b1 : (t232 != 0) = true := bne_iff_ne.mpr c22
          have H' := Ax.mk H
          clear H
          obtain ⟨Ao47, co47, eo47⟩ := Kd.N_slice HO_223001.out
          subst eo47
          try go_wp2
          have n0_ := Ax.mk (Kd.R_drew HO_11.out)
          have n1_ := Ax.mk (Kd.R_drew HO_12.out)
          have n2_ := Ax.mk (Kd.N_drew HO_223001.out)
          have n3_ := Ax.mk (blk_drew BK222.out)
          have n4_ := Ax.mk (below_drew1 HB.out)
          clear HO_11
          clear HO_12
          clear HO_223001
          clear BK222
          clear HB
          have HO_11 := n0_
          have HO_12 := n1_
          have HO_223001 := n2_
          have BK222 := n3_
          have HB := n4_
          clear n0_ n1_ n2_ n3_ n4_
          have p226 : 0 ≤ (x13_2 : Int) := of_decide_eq_true (by first | (with_reducible assumption) | assumption)
          have q226 : x13_2 < (l1.length : Int) := of_decide_eq_true (by first | (with_reducible assumption) | assumption)
          obtain ⟨ad226, A226_0, c226_0, e226, hx226_0, hl226_0, hi226_0⟩ := at_L4 HR1.out x13_2 p226 q226
          have hw226_0 := hx226_0
          cases e226
          replace hx226_0 := (HB.out.cell (World.block_lt_of_cell? w _ hx226_0)).trans hx226_0
          have HR226_0 := Ax.mk hi226_0
          have HC226_0 := Ax.mk hl226_0
          clear hi226_0 hl226_0
          replace p226 := eq_true p226
          replace q226 := eq_true q226
          refine start_ (n := 12) (S := fun w' => w'.cell? ⟨gb222, 0, none⟩ = some (.int .u64 x223000_2) ∧ w'.cell? ⟨gb222, 1, none⟩ = some (.slice Ao47 x223001_2.length co47) ∧ w'.cell? ⟨gb222, 2, none⟩ = some (.string x223002_2) ∧ w'.cell? (ad226.add (x13_2).toNat) = some (.slice A226_0 (rd_L4 l1 x13_2).length c226_0)) (ds := []) #[false, false, false, false, false, false, false, false, false, false, false, false] (by kernel_rfl) rfl rfl ⟨(bC BK222.out 0).trans rfl, (bC BK222.out 1).trans rfl, (bC BK222.out 2).trans rfl, ((HB.out.cell (World.block_lt_of_cell? w _ hw226_0)).trans hw226_0)⟩ (fun hHeld => ?_); refine with_tabW l13_JournalAfter.tab12 l13_JournalAfter.bits12 (fun HT_ HW_ => ?_)
          generalize wr.drew = w48 at HO_11 HO_12 HO_223001 BK222 HB HR226_0 hx226_0 hHeld ⊢
          refine pure_ (i := 1) (N := some 51) (v := ?_) (a' := ?_) #[false, true, false, false, false, false, false, false, false, false, false, false] rfl rfl (any_of HT_.out (by kernel_rfl)) (fun _ _ _ h => h) (Or.inl ⟨by rfl, ?_⟩) ?_ ?_
          rotate_left
          ·intro w'
           go_simp
           with_reducible rfl
          rotate_left
          ·simp only [Act.put, setIfInBounds_toArray, set_cons_zero, set_cons_succ, i64_w, i32_w]
           rfl
          refine pure_ (i := 2) (N := some 52) (v := ?_) (a' := ?_) #[false, true, true, false, false, false, false, false, false, false, false, false] rfl rfl (any_of HT_.out (by kernel_rfl)) (fun _ _ _ h => h) (Or.inl ⟨by rfl, ?_⟩) ?_ ?_
          rotate_left
          ·intro w'
           go_simp
           with_reducible rfl
          rotate_left
          ·simp only [Act.put, setIfInBounds_toArray, set_cons_zero, set_cons_succ, i64_w, i32_w]
           rfl
          refine pure_ (i := 3) (N := some 53) (v := ?_) (a' := ?_) #[false, true, true, true, false, false, false, false, false, false, false, false] rfl rfl (any_of HT_.out (by kernel_rfl)) (fun _ _ _ h => h) (Or.inl ⟨by rfl, ?_⟩) ?_ ?_
          rotate_left
          ·intro w'
           go_simp
           with_reducible rfl
          rotate_left
          ·simp only [Act.put, setIfInBounds_toArray, set_cons_zero, set_cons_succ, i64_w, i32_w]
           rfl
          refine take_ (i := 0) (N := some 50) (v := ?_) (a' := ?_) #[true, true, true, true, false, false, false, false, false, false, false, false] rfl rfl (take_ofW HT_.out HW_.out (by kernel_rfl)) (fun _ _ _ h => h) (Or.inl ⟨by rfl, ?_⟩) hHeld ?_ ?_
          rotate_left
          ·rintro w' ⟨s0, s1, s2, s3⟩
           go_simp
           with_reducible rfl
          rotate_left
          ·simp only [Act.put, setIfInBounds_toArray, set_cons_zero, set_cons_succ, i64_w, i32_w]
           rfl
          refine take_ (i := 4) (N := some 54) (v := ?_) (a' := ?_) #[true, true, true, true, true, false, false, false, false, false, false, false] rfl rfl (take_ofW HT_.out HW_.out (by kernel_rfl)) (fun _ _ _ h => h) (Or.inl ⟨by rfl, ?_⟩) hHeld ?_ ?_
          rotate_left
          ·rintro w' ⟨s0, s1, s2, s3⟩
           go_simp
           with_reducible rfl
          rotate_left
          ·simp only [Act.put, setIfInBounds_toArray, set_cons_zero, set_cons_succ, i64_w, i32_w]
           rfl
          refine join_ (σ := Value × Nat) 2 #[true, true, true, true, true, true, true, true, true, true, false, false] (fun s_ => [(55, .tuple #[.agg #[.int .u64 t227, s_.1, .string t231], .int .i64 t232]), (14, .pointer (some ⟨s_.2, 0, none⟩)), (49, .tuple #[.agg #[.int .u64 t227, s_.1, .string t231], .int .i64 t232]), (56, .agg #[.int .u64 t227, s_.1, .string t231]), (57, .int .i64 t232)]) (fun s_ w' => (w'.cell? ⟨gb222, 0, none⟩ = some (.int .u64 x223000_2) ∧ w'.cell? ⟨gb222, 1, none⟩ = some (.slice Ao47 x223001_2.length co47) ∧ w'.cell? ⟨gb222, 2, none⟩ = some (.string x223002_2) ∧ w'.cell? (ad226.add (x13_2).toNat) = some (.slice A226_0 (rd_L4 l1 x13_2).length c226_0)) ∧ (Kd.N k44 44 w' w.heap.size (fun k_ => some k_ ≠ (u11 : Value).ownBlock ∧ some k_ ≠ (u12 : Value).ownBlock ∧ k_ ≠ gb222 ∧ k_ ≠ s_.2) s_.1 t228) ∧ (Kd.R k24 24 w' w.heap.size (fun _ => True) u11 x11_2) ∧ (Kd.R (Kd.int .i64) 3 w' w.heap.size (fun _ => True) u12 x12_2) ∧ (Kd.N k44 44 w' w.heap.size (fun k_ => some k_ ≠ (s_.1 : Value).ownBlock ∧ some k_ ≠ (u11 : Value).ownBlock ∧ some k_ ≠ (u12 : Value).ownBlock ∧ k_ ≠ gb222 ∧ k_ ≠ s_.2) (.slice Ao47 x223001_2.length co47) x223001_2) ∧ (w'.heap[gb222]? = some (.cells #[.int .u64 x223000_2, .slice Ao47 x223001_2.length co47, .string x223002_2] 66 (0, 0))) ∧ (w'.heap[s_.2]? = some (.cells #[.int .u64 0, .slice none 0 0, .string (⟨#[]⟩ : ByteArray)] 66 (0, 0))) ∧ (w.heap.size ≤ s_.2) ∧ (w.heap.size ≤ s_.2) ∧ (gb222 ≠ s_.2) ∧ (s_.2 ≠ gb222) ∧ (Below w.heap.size w w')) ?_ ?_
          rotate_left
          ·intro hCont
           refine two_ (i := 5) (j := 9) (Ni := some 55) (Nj := some 14) #[true, true, true, true, true, true, false, false, false, false, false, false] #[true, true, true, true, true, false, false, false, false, true, false, false] rfl rfl rfl rfl (two_of HT_.out (by kernel_rfl)) (by decide) (by decide) (fun K hK => ?_) (fun K hK => ?_)
           ·skip
            refine goes_ Tryd.func39 (by kernel_rfl) rfl #[.agg #[.int .u64 x223000_2, .slice Ao47 x223001_2.length co47, .string x223002_2], .slice A226_0 (rd_L4 l1 x13_2).length c226_0] (by rfl) rfl rfl (by (try simp only [List.map_toArray, List.map_cons, List.map_nil]); first | done | rfl | (simp only [List.length_drop, List.length_take]; rfl) | (rw [wrap_sum2 (by assumption)]; rfl)) ?_
            with_reducible refine (journal_Add.calls k2 x223000_2 (fun k_ => (some k_ ≠ (u11 : Value).ownBlock ∧ (some k_ ≠ (u12 : Value).ownBlock ∧ k_ ≠ gb222))) _ _ x223001_2 x223002_2 _ _ (rd_L4 l1 x13_2) t227 t228 t231 t232 _ ?side1 ?side2 ?side3 A21.out (HT.below bA)).mono ?_
            (case side1 => exact Kd.N_V (HO_223001.out))
            (case side2 => repeat (first | exact (Kd.C_below HR226_0.out HB.out) | (with_reducible refine Kd.C_alloc ?_ _) | (with_reducible refine Kd.C_drewN ?_ _) | (with_reducible refine Kd.C_drew ?_)))
            (case side3 => exact HC226_0.out)
            rintro e w49 ⟨v229, rfl, ho0, hb⟩
            refine ⟨_, rfl, ?_⟩
            have n0_ := Ax.mk (Kd.R_below (by exact Kd.R_to HO_11.out) hb)
            have n1_ := Ax.mk (Kd.R_below (by exact Kd.R_to HO_12.out) hb)
            have n2_ := Ax.mk (Kd.N_elder' (by exact Kd.N_to HO_223001.out) (Kd.N_base ho0) hb)
            have n3_ := Ax.mk (Kd.N_lower (Kd.N_mono (ok' := fun k_ => some k_ ≠ (u11 : Value).ownBlock ∧ some k_ ≠ (u12 : Value).ownBlock ∧ k_ ≠ gb222) ho0 (fun k_ hk_ => ⟨Or.elim hk_ (fun hs_ => hs_.1) (fun hn_ => (Kd.fresh' (Kd.R_lt (by exact Kd.R_to HO_11.out)) k_ hn_)), Or.elim hk_ (fun hs_ => hs_.2.1) (fun hn_ => (Kd.fresh' (Kd.R_lt (by exact Kd.R_to HO_12.out)) k_ hn_)), Or.elim hk_ (fun hs_ => hs_.2.2) (fun hn_ => (Kd.freshB (g := gb222) (o := .cells #[.int .u64 x223000_2, .slice Ao47 x223001_2.length co47, .string x223002_2] 66 (0, 0)) (bT BK222.out) k_ hn_))⟩)) (bS bA))
            have n4_ := Ax.mk (bB (bT BK222.out) hb)
            have n5_ := Ax.mk (bP bA hb)
            clear HO_11
            clear HO_12
            clear HO_223001
            clear BK222
            clear HB
            have HO_11 := n0_
            have HO_12 := n1_
            have HO_223001 := n2_
            have HO230 := n3_
            have BK222 := n4_
            have HB := n5_
            clear n0_ n1_ n2_ n3_ n4_ n5_
            (try clear hb)
            (try clear hb2)
            (try clear hk)
            (try clear hi)
            (try clear ho0)
            refine hK.out _ _ ⟨(bC BK222.out 0).trans rfl, (bC BK222.out 1).trans rfl, (bC BK222.out 2).trans rfl, ((HB.out.cell (World.block_lt_of_cell? w _ hw226_0)).trans hw226_0)⟩ (fun hHeld => ?_)
            clear hK K
            refine norm_ (a' := ?_) ?_ ?_
            rotate_left
            ·show Act.put _ (some 55) _ = _
             simp only [Act.put, setIfInBounds_toArray, set_cons_zero, set_cons_succ, i64_w, i32_w]
             rfl
            refine pure_ (i := 6) (N := some 49) (v := ?_) (a' := ?_) #[true, true, true, true, true, true, true, false, false, false, false, false] rfl rfl (any_of HT_.out (by kernel_rfl)) (fun _ _ _ h => h) (Or.inl ⟨by rfl, ?_⟩) ?_ ?_
            rotate_left
            ·intro w'
             go_simp
             with_reducible rfl
            rotate_left
            ·simp only [Act.put, setIfInBounds_toArray, set_cons_zero, set_cons_succ, i64_w, i32_w]
             rfl
            refine pure_ (i := 7) (N := some 56) (v := ?_) (a' := ?_) #[true, true, true, true, true, true, true, true, false, false, false, false] rfl rfl (any_of HT_.out (by kernel_rfl)) (fun _ _ _ h => h) (Or.inl ⟨by rfl, ?_⟩) ?_ ?_
            rotate_left
            ·intro w'
             go_simp
             with_reducible rfl
            rotate_left
            ·simp only [Act.put, setIfInBounds_toArray, set_cons_zero, set_cons_succ, i64_w, i32_w]
             rfl
            refine pure_ (i := 8) (N := some 57) (v := ?_) (a' := ?_) #[true, true, true, true, true, true, true, true, true, false, false, false] rfl rfl (any_of HT_.out (by kernel_rfl)) (fun _ _ _ h => h) (Or.inl ⟨by rfl, ?_⟩) ?_ ?_
            rotate_left
            ·intro w'
             go_simp
             with_reducible rfl
            rotate_left
            ·simp only [Act.put, setIfInBounds_toArray, set_cons_zero, set_cons_succ, i64_w, i32_w]
             rfl
            refine one_ (i := 9) (N := some 14) #[true, true, true, true, true, true, true, true, true, true, false, false] rfl rfl (one_of HT_.out (by kernel_rfl)) (by decide) (fun K hK => ?_)
            refine box_step ?hg (N := 14) ?hd (cs := #[.int .u64 0, .slice none 0 0, .string (⟨#[]⟩ : ByteArray)]) (t := 66) ?hr ?_; (case hd => rfl); (case hg => rfl); (case hr => first | (go_simp; done) | (go_simp; rfl))
            intro gb233 hg w50 hbox hb
            have n0_ := Ax.mk (Kd.R_below (by exact Kd.R_to HO_11.out) hb)
            have n1_ := Ax.mk (Kd.R_below (by exact Kd.R_to HO_12.out) hb)
            have n2_ := Ax.mk (Kd.N_below (Kd.N_elderB (by exact Kd.N_to HO_223001.out) gb233 (Nat.le_of_eq hg.symm)) hb)
            have n3_ := Ax.mk (Kd.N_below (Kd.N_elderB (by exact Kd.N_to HO230.out) gb233 (Nat.le_of_eq hg.symm)) hb)
            have n4_ := Ax.mk (bB (bT BK222.out) hb)
            have n5_ := Ax.mk (bP bA hb)
            have n6_ := Ax.mk (hbox)
            have n7_ := Ax.mk ((ge_new hg : w.heap.size ≤ gb233))
            have n8_ := Ax.mk ((ge_new hg : w.heap.size ≤ gb233))
            have n9_ := Ax.mk ((ne_lt hg BK222.out : gb222 ≠ gb233))
            have n10_ := Ax.mk ((ne_gt hg BK222.out : gb233 ≠ gb222))
            clear HO_11
            clear HO_12
            clear HO_223001
            clear HO230
            clear BK222
            clear HB
            have HO_11 := n0_
            have HO_12 := n1_
            have HO_223001 := n2_
            have HO230 := n3_
            have BK222 := n4_
            have HB := n5_
            have BK233 := n6_
            have GW233 := n7_
            have GE233 := n8_
            have NB222_233 := n9_
            have NB233_222 := n10_
            clear n0_ n1_ n2_ n3_ n4_ n5_ n6_ n7_ n8_ n9_ n10_
            clear hb hbox hg
            refine hK.out _ _ ⟨(bC BK222.out 0).trans rfl, (bC BK222.out 1).trans rfl, (bC BK222.out 2).trans rfl, ((HB.out.cell (World.block_lt_of_cell? w _ hw226_0)).trans hw226_0)⟩ (fun hHeld => ?_)
            clear hK K
            refine norm_ (a' := ?_) ?_ ?_
            rotate_left
            ·show Act.put _ (some 14) _ = _
             simp only [Act.put, setIfInBounds_toArray, set_cons_zero, set_cons_succ, i64_w, i32_w]
             rfl
            exact norm_ (by simp only [putAll, Act.put, List.setIfInBounds_toArray, List.set_cons_zero, List.set_cons_succ]) (hCont (v229, gb233) _ ⟨hHeld, (by apply Kd.N_to; exact Kd.N_mono HO230.out (fun _ hk => ⟨hk.1.1, ⟨hk.1.2.1, ⟨hk.1.2.2, hk.2⟩⟩⟩)), (by exact Kd.R_to HO_11.out), (by exact Kd.R_to HO_12.out), (by apply Kd.N_to; exact Kd.N_mono HO_223001.out (fun _ hk => ⟨hk.1.2, ⟨hk.1.1.1, ⟨hk.1.1.2.1, ⟨hk.1.1.2.2, hk.2⟩⟩⟩⟩)), (bT BK222.out), (bT BK233.out), GW233.out, GE233.out, NB222_233.out, NB233_222.out, bA⟩)
           ·skip
            refine box_step ?hg (N := 14) ?hd (cs := #[.int .u64 0, .slice none 0 0, .string (⟨#[]⟩ : ByteArray)]) (t := 66) ?hr ?_; (case hd => rfl); (case hg => rfl); (case hr => first | (go_simp; done) | (go_simp; rfl))
            intro gb233 hg w49 hbox hb
            have n0_ := Ax.mk (Kd.R_below (by exact Kd.R_to HO_11.out) hb)
            have n1_ := Ax.mk (Kd.R_below (by exact Kd.R_to HO_12.out) hb)
            have n2_ := Ax.mk (Kd.N_below (Kd.N_elderB (by exact Kd.N_to HO_223001.out) gb233 (Nat.le_of_eq hg.symm)) hb)
            have n3_ := Ax.mk (bB (bT BK222.out) hb)
            have n4_ := Ax.mk (bP bA hb)
            have n5_ := Ax.mk (hbox)
            have n6_ := Ax.mk ((ge_new hg : w.heap.size ≤ gb233))
            have n7_ := Ax.mk ((ge_new hg : w.heap.size ≤ gb233))
            have n8_ := Ax.mk ((ne_lt hg BK222.out : gb222 ≠ gb233))
            have n9_ := Ax.mk ((ne_gt hg BK222.out : gb233 ≠ gb222))
            clear HO_11
            clear HO_12
            clear HO_223001
            clear BK222
            clear HB
            have HO_11 := n0_
            have HO_12 := n1_
            have HO_223001 := n2_
            have BK222 := n3_
            have HB := n4_
            have BK233 := n5_
            have GW233 := n6_
            have GE233 := n7_
            have NB222_233 := n8_
            have NB233_222 := n9_
            clear n0_ n1_ n2_ n3_ n4_ n5_ n6_ n7_ n8_ n9_
            clear hb hbox hg
            refine hK.out _ _ ⟨(bC BK222.out 0).trans rfl, (bC BK222.out 1).trans rfl, (bC BK222.out 2).trans rfl, ((HB.out.cell (World.block_lt_of_cell? w _ hw226_0)).trans hw226_0)⟩ (fun hHeld => ?_)
            clear hK K
            refine norm_ (a' := ?_) ?_ ?_
            rotate_left
            ·show Act.put _ (some 14) _ = _
             simp only [Act.put, setIfInBounds_toArray, set_cons_zero, set_cons_succ, i64_w, i32_w]
             rfl
            refine one_ (i := 5) (N := some 55) #[true, true, true, true, true, true, false, false, false, true, false, false] rfl rfl (one_of HT_.out (by kernel_rfl)) (by decide) (fun K hK => ?_)
            refine goes_ Tryd.func39 (by kernel_rfl) rfl #[.agg #[.int .u64 x223000_2, .slice Ao47 x223001_2.length co47, .string x223002_2], .slice A226_0 (rd_L4 l1 x13_2).length c226_0] (by rfl) rfl rfl (by (try simp only [List.map_toArray, List.map_cons, List.map_nil]); first | done | rfl | (simp only [List.length_drop, List.length_take]; rfl) | (rw [wrap_sum2 (by assumption)]; rfl)) ?_
            with_reducible refine (journal_Add.calls k2 x223000_2 (fun k_ => ((some k_ ≠ (u11 : Value).ownBlock ∧ (some k_ ≠ (u12 : Value).ownBlock ∧ k_ ≠ gb222)) ∧ k_ ≠ gb233)) _ _ x223001_2 x223002_2 _ _ (rd_L4 l1 x13_2) t227 t228 t231 t232 _ ?side1 ?side2 ?side3 A21.out (HT.below bA)).mono ?_
            (case side1 => exact Kd.N_V (HO_223001.out))
            (case side2 => repeat (first | exact (Kd.C_below HR226_0.out HB.out) | (with_reducible refine Kd.C_alloc ?_ _) | (with_reducible refine Kd.C_drewN ?_ _) | (with_reducible refine Kd.C_drew ?_)))
            (case side3 => exact HC226_0.out)
            rintro e w50 ⟨v229, rfl, ho0, hb⟩
            refine ⟨_, rfl, ?_⟩
            have n0_ := Ax.mk (Kd.R_below (by exact Kd.R_to HO_11.out) hb)
            have n1_ := Ax.mk (Kd.R_below (by exact Kd.R_to HO_12.out) hb)
            have n2_ := Ax.mk (Kd.N_elder' (by exact Kd.N_to HO_223001.out) (Kd.N_base ho0) hb)
            have n3_ := Ax.mk (Kd.N_lower (Kd.N_mono (ok' := fun k_ => some k_ ≠ (u11 : Value).ownBlock ∧ some k_ ≠ (u12 : Value).ownBlock ∧ k_ ≠ gb222 ∧ k_ ≠ gb233) ho0 (fun k_ hk_ => ⟨Or.elim hk_ (fun hs_ => hs_.1.1) (fun hn_ => (Kd.fresh' (Kd.R_lt (by exact Kd.R_to HO_11.out)) k_ hn_)), Or.elim hk_ (fun hs_ => hs_.1.2.1) (fun hn_ => (Kd.fresh' (Kd.R_lt (by exact Kd.R_to HO_12.out)) k_ hn_)), Or.elim hk_ (fun hs_ => hs_.1.2.2) (fun hn_ => (Kd.freshB (g := gb222) (o := .cells #[.int .u64 x223000_2, .slice Ao47 x223001_2.length co47, .string x223002_2] 66 (0, 0)) (bT BK222.out) k_ hn_)), Or.elim hk_ (fun hs_ => hs_.2) (fun hn_ => (Kd.freshB (g := gb233) (o := .cells #[.int .u64 0, .slice none 0 0, .string (⟨#[]⟩ : ByteArray)] 66 (0, 0)) (bT BK233.out) k_ hn_))⟩)) (bS bA))
            have n4_ := Ax.mk (bB (bT BK222.out) hb)
            have n5_ := Ax.mk (bB (bT BK233.out) hb)
            have n6_ := Ax.mk (bP bA hb)
            clear HO_11
            clear HO_12
            clear HO_223001
            clear BK222
            clear BK233
            clear HB
            have HO_11 := n0_
            have HO_12 := n1_
            have HO_223001 := n2_
            have HO230 := n3_
            have BK222 := n4_
            have BK233 := n5_
            have HB := n6_
            clear n0_ n1_ n2_ n3_ n4_ n5_ n6_
            (try clear hb)
            (try clear hb2)
            (try clear hk)
            (try clear hi)
            (try clear ho0)
            refine hK.out _ _ ⟨(bC BK222.out 0).trans rfl, (bC BK222.out 1).trans rfl, (bC BK222.out 2).trans rfl, ((HB.out.cell (World.block_lt_of_cell? w _ hw226_0)).trans hw226_0)⟩ (fun hHeld => ?_)
            clear hK K
            refine norm_ (a' := ?_) ?_ ?_
            rotate_left
            ·show Act.put _ (some 55) _ = _
             simp only [Act.put, setIfInBounds_toArray, set_cons_zero, set_cons_succ, i64_w, i32_w]
             rfl
            refine pure_ (i := 6) (N := some 49) (v := ?_) (a' := ?_) #[true, true, true, true, true, true, true, false, false, true, false, false] rfl rfl (any_of HT_.out (by kernel_rfl)) (fun _ _ _ h => h) (Or.inl ⟨by rfl, ?_⟩) ?_ ?_
            rotate_left
            ·intro w'
             go_simp
             with_reducible rfl
            rotate_left
            ·simp only [Act.put, setIfInBounds_toArray, set_cons_zero, set_cons_succ, i64_w, i32_w]
             rfl
            refine pure_ (i := 7) (N := some 56) (v := ?_) (a' := ?_) #[true, true, true, true, true, true, true, true, false, true, false, false] rfl rfl (any_of HT_.out (by kernel_rfl)) (fun _ _ _ h => h) (Or.inl ⟨by rfl, ?_⟩) ?_ ?_
            rotate_left
            ·intro w'
             go_simp
             with_reducible rfl
            rotate_left
            ·simp only [Act.put, setIfInBounds_toArray, set_cons_zero, set_cons_succ, i64_w, i32_w]
             rfl
            refine pure_ (i := 8) (N := some 57) (v := ?_) (a' := ?_) #[true, true, true, true, true, true, true, true, true, true, false, false] rfl rfl (any_of HT_.out (by kernel_rfl)) (fun _ _ _ h => h) (Or.inl ⟨by rfl, ?_⟩) ?_ ?_
            rotate_left
            ·intro w'
             go_simp
             with_reducible rfl
            rotate_left
            ·simp only [Act.put, setIfInBounds_toArray, set_cons_zero, set_cons_succ, i64_w, i32_w]
             rfl
            exact norm_ (by simp only [putAll, Act.put, List.setIfInBounds_toArray, List.set_cons_zero, List.set_cons_succ]) (hCont (v229, gb233) _ ⟨hHeld, (by exact Kd.N_to HO230.out), (by exact Kd.R_to HO_11.out), (by exact Kd.R_to HO_12.out), (by apply Kd.N_to; exact Kd.N_mono HO_223001.out (fun _ hk => ⟨hk.2, ⟨hk.1.1.1, ⟨hk.1.1.2.1, ⟨hk.1.1.2.2, hk.1.2⟩⟩⟩⟩)), (bT BK222.out), (bT BK233.out), GW233.out, GE233.out, NB222_233.out, NB233_222.out, bA⟩)
          rintro ⟨v229, gb233⟩ w51 ⟨hS_, h0_, h1_, h2_, h3_, h4_, h5_, h6_, h7_, h8_, h9_, h10_⟩
          have n0_ : Ax (Kd.N k44 44 w51 w.heap.size (fun k_ => some k_ ≠ (u11 : Value).ownBlock ∧ some k_ ≠ (u12 : Value).ownBlock ∧ k_ ≠ gb222 ∧ k_ ≠ gb233) v229 t228) := ⟨h0_⟩
          have n1_ : Ax (Kd.R k24 24 w51 w.heap.size (fun _ => True) u11 x11_2) := ⟨h1_⟩
          have n2_ : Ax (Kd.R (Kd.int .i64) 3 w51 w.heap.size (fun _ => True) u12 x12_2) := ⟨h2_⟩
          have n3_ : Ax (Kd.N k44 44 w51 w.heap.size (fun k_ => some k_ ≠ (v229 : Value).ownBlock ∧ some k_ ≠ (u11 : Value).ownBlock ∧ some k_ ≠ (u12 : Value).ownBlock ∧ k_ ≠ gb222 ∧ k_ ≠ gb233) (.slice Ao47 x223001_2.length co47) x223001_2) := ⟨h3_⟩
          have n4_ : Ax (w51.heap[gb222]? = some (.cells #[.int .u64 x223000_2, .slice Ao47 x223001_2.length co47, .string x223002_2] 66 (0, 0))) := ⟨h4_⟩
          have n5_ : Ax (w51.heap[gb233]? = some (.cells #[.int .u64 0, .slice none 0 0, .string (⟨#[]⟩ : ByteArray)] 66 (0, 0))) := ⟨h5_⟩
          have n6_ : Ax (w.heap.size ≤ gb233) := ⟨h6_⟩
          have n7_ : Ax (w.heap.size ≤ gb233) := ⟨h7_⟩
          have n8_ : Ax (gb222 ≠ gb233) := ⟨h8_⟩
          have n9_ : Ax (gb233 ≠ gb222) := ⟨h9_⟩
          have n10_ : Ax (Below w.heap.size w w51) := ⟨h10_⟩
          clear HO_11
          clear HO_12
          clear HO_223001
          clear BK222
          clear HB
          clear h0_ h1_ h2_ h3_ h4_ h5_ h6_ h7_ h8_ h9_ h10_
          have HO230 := n0_
          have HO_11 := n1_
          have HO_12 := n2_
          have HO_223001 := n3_
          have BK222 := n4_
          have BK233 := n5_
          have GW233 := n6_
          have GE233 := n7_
          have NB222_233 := n8_
          have NB233_222 := n9_
          have HB := n10_
          clear n0_ n1_ n2_ n3_ n4_ n5_ n6_ n7_ n8_ n9_ n10_
          have hHeld : w51.cell? ⟨gb222, 0, none⟩ = some (.int .u64 x223000_2) ∧ w51.cell? ⟨gb222, 1, none⟩ = some (.slice Ao47 x223001_2.length co47) ∧ w51.cell? ⟨gb222, 2, none⟩ = some (.string x223002_2) ∧ w51.cell? (ad226.add (x13_2).toNat) = some (.slice A226_0 (rd_L4 l1 x13_2).length c226_0) := hS_
          obtain ⟨Ao53, co53, eo53⟩ := Kd.N_slice HO230.out
          (first | subst eo53 | (injection eo53 with f1_ f2_ f3_; have f4_ := f1_.symm; have f5_ := f3_.symm; clear f1_ f2_ f3_; subst f4_; subst f5_))
          refine norm_ (a' := ?_) ?_ ?_
          rotate_left
          ·simp only [putAll, Act.put, List.setIfInBounds_toArray, List.set_cons_zero, List.set_cons_succ]
           rfl
          refine one_ (i := 10) (N := none) #[true, true, true, true, true, true, true, true, true, true, true, false] rfl rfl (one_of HT_.out (by kernel_rfl)) (by decide) (fun K hK => ?_)
          have hs52 : w51.cell? ⟨gb233, 0, none⟩ = some (.int .u64 0) := (bC BK233.out 0).trans rfl
          have hfs52 := bF BK233.out 0
          have hns52_0 := NB222_233.out
          have hms52_0 := NB233_222.out
          have hs54 : w51.cell? ⟨gb233, 1, none⟩ = some (.slice none 0 0) := (bC BK233.out 1).trans rfl
          have hfs54 := bF BK233.out 1
          have hns54_0 := NB222_233.out
          have hms54_0 := NB233_222.out
          have hs55 : w51.cell? ⟨gb233, 2, none⟩ = some (.string (⟨#[]⟩ : ByteArray)) := (bC BK233.out 2).trans rfl
          have hfs55 := bF BK233.out 2
          have hns55_0 := NB222_233.out
          have hms55_0 := NB233_222.out
          refine skip_ (w1 := ?_) (by rfl) rfl ?_ ?_
          rotate_left
          ·go_simp
           rfl
          refine hK.out _ _ ⟨((cell_far (p := ⟨gb233, _, none⟩) NB222_233.out _).trans (((cell_far (p := ⟨gb233, _, none⟩) NB222_233.out _).trans (((cell_far (p := ⟨gb233, _, none⟩) NB222_233.out _).trans (hHeld.1)))))), ((cell_far (p := ⟨gb233, _, none⟩) NB222_233.out _).trans (((cell_far (p := ⟨gb233, _, none⟩) NB222_233.out _).trans (((cell_far (p := ⟨gb233, _, none⟩) NB222_233.out _).trans (hHeld.2.1)))))), ((cell_far (p := ⟨gb233, _, none⟩) NB222_233.out _).trans (((cell_far (p := ⟨gb233, _, none⟩) NB222_233.out _).trans (((cell_far (p := ⟨gb233, _, none⟩) NB222_233.out _).trans (hHeld.2.2.1)))))), ((cell_far (p := ⟨gb233, _, none⟩) (by first | exact Nat.ne_of_lt (Nat.lt_of_lt_of_le (by have := World.block_lt_of_cell? _ _ hw226_0; first | rwa [add_block] at this | exact this) GW233.out) | (rw [add_block]; exact Nat.ne_of_lt (Nat.lt_of_lt_of_le (by have := World.block_lt_of_cell? _ _ hw226_0; first | rwa [add_block] at this | exact this) GW233.out)) | (show (Addr.add _ _).block ≠ _; rw [add_block]; exact Nat.ne_of_lt (Nat.lt_of_lt_of_le (by have := World.block_lt_of_cell? _ _ hw226_0; first | rwa [add_block] at this | exact this) GW233.out)) | (dsimp only; exact Nat.ne_of_lt (Nat.lt_of_lt_of_le (by have := World.block_lt_of_cell? _ _ hw226_0; first | rwa [add_block] at this | exact this) GW233.out))) _).trans (((cell_far (p := ⟨gb233, _, none⟩) (by first | exact Nat.ne_of_lt (Nat.lt_of_lt_of_le (by have := World.block_lt_of_cell? _ _ hw226_0; first | rwa [add_block] at this | exact this) GW233.out) | (rw [add_block]; exact Nat.ne_of_lt (Nat.lt_of_lt_of_le (by have := World.block_lt_of_cell? _ _ hw226_0; first | rwa [add_block] at this | exact this) GW233.out)) | (show (Addr.add _ _).block ≠ _; rw [add_block]; exact Nat.ne_of_lt (Nat.lt_of_lt_of_le (by have := World.block_lt_of_cell? _ _ hw226_0; first | rwa [add_block] at this | exact this) GW233.out)) | (dsimp only; exact Nat.ne_of_lt (Nat.lt_of_lt_of_le (by have := World.block_lt_of_cell? _ _ hw226_0; first | rwa [add_block] at this | exact this) GW233.out))) _).trans (((cell_far (p := ⟨gb233, _, none⟩) (by first | exact Nat.ne_of_lt (Nat.lt_of_lt_of_le (by have := World.block_lt_of_cell? _ _ hw226_0; first | rwa [add_block] at this | exact this) GW233.out) | (rw [add_block]; exact Nat.ne_of_lt (Nat.lt_of_lt_of_le (by have := World.block_lt_of_cell? _ _ hw226_0; first | rwa [add_block] at this | exact this) GW233.out)) | (show (Addr.add _ _).block ≠ _; rw [add_block]; exact Nat.ne_of_lt (Nat.lt_of_lt_of_le (by have := World.block_lt_of_cell? _ _ hw226_0; first | rwa [add_block] at this | exact this) GW233.out)) | (dsimp only; exact Nat.ne_of_lt (Nat.lt_of_lt_of_le (by have := World.block_lt_of_cell? _ _ hw226_0; first | rwa [add_block] at this | exact this) GW233.out))) _).trans (hHeld.2.2.2))))))⟩ (fun hHeld => ?_)
          clear hK K
          refine pure_ (i := 11) (N := some 15) (v := ?_) (a' := ?_) #[true, true, true, true, true, true, true, true, true, true, true, true] rfl rfl (any_of HT_.out (by kernel_rfl)) (fun _ _ _ h => h) (Or.inl ⟨by rfl, ?_⟩) ?_ ?_
          rotate_left
          ·intro w'
           go_simp
           with_reducible rfl
          rotate_left
          ·simp only [Act.put, setIfInBounds_toArray, set_cons_zero, set_cons_succ, i64_w, i32_w]
           rfl
          refine done_ (done_of HT_.out (by kernel_rfl)) ?_
          try go_wp2
          go_roundg k2
          case measure => have := HJ5.out; have := HK2.out; omega
          case rel => exact ⟨(x11_2), (x12_2), (wrap64 (x13_2 + 1)), (x223000_2), (x223001_2), (x223002_2), (.slice Ao47 x223001_2.length co47), (by first | rfl | (simp; done) | (simp [*]; done)), H', ⟨by have := HJ5.out; have := HK2.out; omega⟩, ⟨by apply Kd.R_to; exact Kd.R_mono (Kd.R_far (p := ⟨gb233, 2, none⟩) (Kd.R_far (p := ⟨gb233, 1, none⟩) (Kd.R_far (p := ⟨gb233, 0, none⟩) (Kd.R_types HO_11.out BK233.out (by decide)) (fun _ hk => hk.2) (.int .u64 t227)) (fun _ hk => hk.2) (.slice Ao53 t228.length co53)) (fun _ hk => hk.2) (.string t231)) (fun _ hk => trivial)⟩, ⟨by apply Kd.R_to; exact Kd.R_mono (Kd.R_far (p := ⟨gb233, 2, none⟩) (Kd.R_far (p := ⟨gb233, 1, none⟩) (Kd.R_far (p := ⟨gb233, 0, none⟩) (Kd.R_types HO_12.out BK233.out (by decide)) (fun _ hk => hk.2) (.int .u64 t227)) (fun _ hk => hk.2) (.slice Ao53 t228.length co53)) (fun _ hk => hk.2) (.string t231)) (fun _ hk => trivial)⟩, ⟨by apply Kd.N_to; exact Kd.N_mono (Kd.N_far (p := ⟨gb233, 2, none⟩) (Kd.N_far (p := ⟨gb233, 1, none⟩) (Kd.N_far (p := ⟨gb233, 0, none⟩) (Kd.N_mono HO_223001.out (fun k_ hk => (⟨hk, hk.2.2.2.2⟩ : _ ∧ k_ ≠ gb233))) (fun _ hk => hk.2) (.int .u64 t227)) (fun _ hk => hk.2) (.slice Ao53 t228.length co53)) (fun _ hk => hk.2) (.string t231)) (fun _ hk => ⟨hk.1.2.1, ⟨hk.1.2.2.1, hk.1.2.2.2.1⟩⟩)⟩, ⟨by refine bT ?_; refine bR ?_ NB222_233.out _; refine bT ?_; refine bR ?_ NB222_233.out _; refine bT ?_; refine bR ?_ NB222_233.out _; refine bT ?_; exact BK222.out⟩, ⟨bA⟩⟩
        ·rw [if_neg c20] at H
         exact absurd H (by simp)
       ·rw [if_neg c19] at H
        have c19b0 : decide (x13_2 < (l1.length : Int)) = false := decide_eq_false c19
        clear c19
        obtain ⟨ji56, hji56⟩ : ∃ j_ : Int, (mn a2 (wrap64 ((x12_2.length : Int) - 1))) = j_ := ⟨_, rfl⟩
        replace H : ((journal_After.f k2 x223000_2 x223001_2 x223002_2 (IntKind.u64.wrap (a0 - 1))).bind fun t241 => ((l13_steps.f k2 x11_2).bind fun t244 => ((l13_sameSteps.f k2 t241 t244).bind fun t247 => (if t247 = true then ((journal_After.f k2 x223000_2 x223001_2 x223002_2 (IntKind.u64.wrap (a0 + (IntKind.u64.wrap (mx 0 (ji56)))))).bind fun t248 => (if 0 ≤ (mx 0 (ji56)) then (if (mx 0 (ji56)) < (x12_2.length : Int) then (if 0 ≤ (rd x12_2 (mx 0 (ji56))) then (if (rd x12_2 (mx 0 (ji56))) ≤ (x11_2.length : Int) then ((l13_steps.f k2 (x11_2.drop ((rd x12_2 (mx 0 (ji56))) : Int).toNat)).bind fun t257 => ((l13_sameSteps.f k2 t248 t257).bind fun t260 => (if t260 = true then ((journal_After.f k2 x223000_2 x223001_2 x223002_2 x223000_2).bind fun t261 => (some ((t261.length : Int) == 0))) else (none)))) else (none)) else (none)) else (none)) else (none))) else (none))))) = some r := by first | (rw [hji56] at H; exact H) | (simp only [hji56] at H ⊢; exact H)
        have hji56_ : (if (wrap64 ((x12_2.length : Int) - 1)) < a2 then (wrap64 ((x12_2.length : Int) - 1)) else a2) = ji56 := hji56
        obtain ⟨ji57, hji57⟩ : ∃ j_ : Int, (mx 0 (ji56)) = j_ := ⟨_, rfl⟩
        replace H : ((journal_After.f k2 x223000_2 x223001_2 x223002_2 (IntKind.u64.wrap (a0 - 1))).bind fun t241 => ((l13_steps.f k2 x11_2).bind fun t244 => ((l13_sameSteps.f k2 t241 t244).bind fun t247 => (if t247 = true then ((journal_After.f k2 x223000_2 x223001_2 x223002_2 (IntKind.u64.wrap (a0 + (IntKind.u64.wrap (ji57))))).bind fun t248 => (if 0 ≤ (ji57) then (if (ji57) < (x12_2.length : Int) then (if 0 ≤ (rd x12_2 (ji57)) then (if (rd x12_2 (ji57)) ≤ (x11_2.length : Int) then ((l13_steps.f k2 (x11_2.drop ((rd x12_2 (ji57)) : Int).toNat)).bind fun t257 => ((l13_sameSteps.f k2 t248 t257).bind fun t260 => (if t260 = true then ((journal_After.f k2 x223000_2 x223001_2 x223002_2 x223000_2).bind fun t261 => (some ((t261.length : Int) == 0))) else (none)))) else (none)) else (none)) else (none)) else (none))) else (none))))) = some r := by first | (rw [hji57] at H; exact H) | (simp only [hji57] at H ⊢; exact H)
        have hji57_ : (if 0 < (ji56) then (ji56) else 0) = ji57 := hji57
        replace H := Option.bind_eq_some_iff.mp H
        obtain ⟨t241, A580, H⟩ := H
        replace H : ((l13_steps.f k2 x11_2).bind fun t244 => ((l13_sameSteps.f k2 t241 t244).bind fun t247 => (if t247 = true then ((journal_After.f k2 x223000_2 x223001_2 x223002_2 (IntKind.u64.wrap (a0 + (IntKind.u64.wrap (ji57))))).bind fun t248 => (if 0 ≤ (ji57) then (if (ji57) < (x12_2.length : Int) then (if 0 ≤ (rd x12_2 (ji57)) then (if (rd x12_2 (ji57)) ≤ (x11_2.length : Int) then ((l13_steps.f k2 (x11_2.drop ((rd x12_2 (ji57)) : Int).toNat)).bind fun t257 => ((l13_sameSteps.f k2 t248 t257).bind fun t260 => (if t260 = true then ((journal_After.f k2 x223000_2 x223001_2 x223002_2 x223000_2).bind fun t261 => (some ((t261.length : Int) == 0))) else (none)))) else (none)) else (none)) else (none)) else (none))) else (none)))) = some r := H
        have A58 := Ax.mk A580
        clear A580
        replace H := Option.bind_eq_some_iff.mp H
        obtain ⟨t244, A590, H⟩ := H
        replace H : ((l13_sameSteps.f k2 t241 t244).bind fun t247 => (if t247 = true then ((journal_After.f k2 x223000_2 x223001_2 x223002_2 (IntKind.u64.wrap (a0 + (IntKind.u64.wrap (ji57))))).bind fun t248 => (if 0 ≤ (ji57) then (if (ji57) < (x12_2.length : Int) then (if 0 ≤ (rd x12_2 (ji57)) then (if (rd x12_2 (ji57)) ≤ (x11_2.length : Int) then ((l13_steps.f k2 (x11_2.drop ((rd x12_2 (ji57)) : Int).toNat)).bind fun t257 => ((l13_sameSteps.f k2 t248 t257).bind fun t260 => (if t260 = true then ((journal_After.f k2 x223000_2 x223001_2 x223002_2 x223000_2).bind fun t261 => (some ((t261.length : Int) == 0))) else (none)))) else (none)) else (none)) else (none)) else (none))) else (none))) = some r := H
        have A59 := Ax.mk A590
        clear A590
        replace H := Option.bind_eq_some_iff.mp H
        obtain ⟨t247, A600, H⟩ := H
        replace H : (if t247 = true then ((journal_After.f k2 x223000_2 x223001_2 x223002_2 (IntKind.u64.wrap (a0 + (IntKind.u64.wrap (ji57))))).bind fun t248 => (if 0 ≤ (ji57) then (if (ji57) < (x12_2.length : Int) then (if 0 ≤ (rd x12_2 (ji57)) then (if (rd x12_2 (ji57)) ≤ (x11_2.length : Int) then ((l13_steps.f k2 (x11_2.drop ((rd x12_2 (ji57)) : Int).toNat)).bind fun t257 => ((l13_sameSteps.f k2 t248 t257).bind fun t260 => (if t260 = true then ((journal_After.f k2 x223000_2 x223001_2 x223002_2 x223000_2).bind fun t261 => (some ((t261.length : Int) == 0))) else (none)))) else (none)) else (none)) else (none)) else (none))) else (none)) = some r := H
        have A60 := Ax.mk A600
        clear A600
        by_cases c61 : t247 = true
        ·subst c61
         have H1 : ((journal_After.f k2 x223000_2 x223001_2 x223002_2 (IntKind.u64.wrap (a0 + (IntKind.u64.wrap (ji57))))).bind fun t248 => (if 0 ≤ (ji57) then (if (ji57) < (x12_2.length : Int) then (if 0 ≤ (rd x12_2 (ji57)) then (if (rd x12_2 (ji57)) ≤ (x11_2.length : Int) then ((l13_steps.f k2 (x11_2.drop ((rd x12_2 (ji57)) : Int).toNat)).bind fun t257 => ((l13_sameSteps.f k2 t248 t257).bind fun t260 => (if t260 = true then ((journal_After.f k2 x223000_2 x223001_2 x223002_2 x223000_2).bind fun t261 => (some ((t261.length : Int) == 0))) else (none)))) else (none)) else (none)) else (none)) else (none))) = some r := by rw [if_pos rfl] at H; exact H
         clear H
         have H := H1
         clear H1
         replace H := Option.bind_eq_some_iff.mp H
         obtain ⟨t248, A620, H⟩ := H
         replace H : (if 0 ≤ (ji57) then (if (ji57) < (x12_2.length : Int) then (if 0 ≤ (rd x12_2 (ji57)) then (if (rd x12_2 (ji57)) ≤ (x11_2.length : Int) then ((l13_steps.f k2 (x11_2.drop ((rd x12_2 (ji57)) : Int).toNat)).bind fun t257 => ((l13_sameSteps.f k2 t248 t257).bind fun t260 => (if t260 = true then ((journal_After.f k2 x223000_2 x223001_2 x223002_2 x223000_2).bind fun t261 => (some ((t261.length : Int) == 0))) else (none)))) else (none)) else (none)) else (none)) else (none)) = some r := H
         have A62 := Ax.mk A620
         clear A620
         by_cases c63 : 0 ≤ (ji57)
         ·rw [if_pos c63] at H
          have c63b0 : decide (0 ≤ (ji57)) = true := decide_eq_true c63
          clear c63
          by_cases c64 : (ji57) < (x12_2.length : Int)
          ·rw [if_pos c64] at H
           have c64b0 : decide ((ji57) < (x12_2.length : Int)) = true := decide_eq_true c64
           clear c64
           by_cases c65 : 0 ≤ (rd x12_2 (ji57))
           ·rw [if_pos c65] at H
            have c65b0 := eq_true c65
            have c65b1 : decide (0 ≤ (rd x12_2 (ji57))) = true := decide_eq_true c65
            clear c65
            by_cases c66 : (rd x12_2 (ji57)) ≤ (x11_2.length : Int)
            ·rw [if_pos c66] at H
             have c66b0 := eq_true c66
             have c66b1 : decide ((rd x12_2 (ji57)) ≤ (x11_2.length : Int)) = true := decide_eq_true c66
             clear c66
             obtain ⟨y252, hy252⟩ : ∃ y_ : List (S24), y_ = (x11_2.drop ((rd x12_2 (ji57)) : Int).toNat) := ⟨_, rfl⟩
             replace H : ((l13_steps.f k2 y252).bind fun t257 => ((l13_sameSteps.f k2 t248 t257).bind fun t260 => (if t260 = true then ((journal_After.f k2 x223000_2 x223001_2 x223002_2 x223000_2).bind fun t261 => (some ((t261.length : Int) == 0))) else (none)))) = some r := by first | (rw [hy252]; with_reducible exact H) | (have H2_ := (Option.bind_some _ _).symm.trans H; rw [hy252]; with_reducible exact H2_) | (have H2_ := (Option.bind_some _ _).symm.trans H; with_reducible exact H2_) | with_reducible exact H | (rw [hy252]; exact H) | exact H
             have Ny252 := Ax.mk hy252
             clear hy252
             replace H := Option.bind_eq_some_iff.mp H
             obtain ⟨t257, A670, H⟩ := H
             replace H : ((l13_sameSteps.f k2 t248 t257).bind fun t260 => (if t260 = true then ((journal_After.f k2 x223000_2 x223001_2 x223002_2 x223000_2).bind fun t261 => (some ((t261.length : Int) == 0))) else (none))) = some r := H
             have A67 := Ax.mk A670
             clear A670
             replace H := Option.bind_eq_some_iff.mp H
             obtain ⟨t260, A680, H⟩ := H
             replace H : (if t260 = true then ((journal_After.f k2 x223000_2 x223001_2 x223002_2 x223000_2).bind fun t261 => (some ((t261.length : Int) == 0))) else (none)) = some r := H
             have A68 := Ax.mk A680
             clear A680
             by_cases c69 : t260 = true
             ·subst c69
              have H1 : ((journal_After.f k2 x223000_2 x223001_2 x223002_2 x223000_2).bind fun t261 => (some ((t261.length : Int) == 0))) = some r := by rw [if_pos rfl] at H; exact H
              clear H
              have H := H1
              clear H1
              replace H := Option.bind_eq_some_iff.mp H
              obtain ⟨t261, A700, H⟩ := H
              replace H : (some ((t261.length : Int) == 0)) = some r := H
              have A70 := Ax.mk A700
              clear A700
              obtain rfl := Option.some.inj H
              obtain ⟨Ao71, co71, eo71⟩ := Kd.R_slice HO_12.out
              subst eo71
              try go_wp2
              have n0_ := Ax.mk (Kd.R_drew HO_11.out)
              have n1_ := Ax.mk (Kd.R_drew HO_12.out)
              have n2_ := Ax.mk (Kd.N_drew HO_223001.out)
              have n3_ := Ax.mk (blk_drew BK222.out)
              have n4_ := Ax.mk (below_drew1 HB.out)
              clear HO_11
              clear HO_12
              clear HO_223001
              clear BK222
              clear HB
              have HO_11 := n0_
              have HO_12 := n1_
              have HO_223001 := n2_
              have BK222 := n3_
              have HB := n4_
              clear n0_ n1_ n2_ n3_ n4_
              obtain ⟨Ao73, co73, eo73⟩ := Kd.N_slice HO_223001.out
              (first | subst eo73 | (injection eo73 with f1_ f2_ f3_; have f4_ := f1_.symm; have f5_ := f3_.symm; clear f1_ f2_ f3_; subst f4_; subst f5_))
              have p251 : 0 ≤ ((ji57) : Int) := of_decide_eq_true (by first | (with_reducible assumption) | assumption)
              have q251 : (ji57) < (x12_2.length : Int) := of_decide_eq_true (by first | (with_reducible assumption) | assumption)
              obtain ⟨ad251, e251, hx251_0⟩ := Kd.at_int (Kd.R_reads' HO_12.out).2.2 (ji57) p251 q251
              cases e251
              replace p251 := eq_true p251
              replace q251 := eq_true q251
              refine start_ (n := 32) (S := fun w' => w'.cell? ⟨gb222, 0, none⟩ = some (.int .u64 x223000_2) ∧ w'.cell? ⟨gb222, 1, none⟩ = some (.slice Ao73 x223001_2.length co73) ∧ w'.cell? ⟨gb222, 2, none⟩ = some (.string x223002_2) ∧ w'.cell? (ad251.add ((ji57)).toNat) = some (.int .i64 (rd x12_2 (ji57)))) (ds := []) #[false, false, false, false, false, false, false, false, false, false, false, false, false, false, false, false, false, false, false, false, false, false, false, false, false, false, false, false, false, false, false, false] (by kernel_rfl) rfl rfl ⟨(bC BK222.out 0).trans rfl, (bC BK222.out 1).trans rfl, (bC BK222.out 2).trans rfl, hx251_0⟩ (fun hHeld => ?_); refine with_tabW l13_JournalAfter.tab20 l13_JournalAfter.bits20 (fun HT_ HW_ => ?_)
              generalize wr.drew = w72 at HO_11 HO_12 HO_223001 BK222 HB hx251_0 hHeld ⊢
              refine pure_ (i := 1) (N := some 106) (v := ?_) (a' := ?_) #[false, true, false, false, false, false, false, false, false, false, false, false, false, false, false, false, false, false, false, false, false, false, false, false, false, false, false, false, false, false, false, false] rfl rfl (any_of HT_.out (by kernel_rfl)) (fun _ _ _ h => h) (Or.inl ⟨by rfl, ?_⟩) ?_ ?_
              rotate_left
              ·intro w'
               go_simp
               with_reducible rfl
              rotate_left
              ·simp only [Act.put, setIfInBounds_toArray, set_cons_zero, set_cons_succ, i64_w, i32_w]
               rfl
              refine pure_ (i := 2) (N := some 107) (v := ?_) (a' := ?_) #[false, true, true, false, false, false, false, false, false, false, false, false, false, false, false, false, false, false, false, false, false, false, false, false, false, false, false, false, false, false, false, false] rfl rfl (any_of HT_.out (by kernel_rfl)) (fun _ _ _ h => h) (Or.inl ⟨by rfl, ?_⟩) ?_ ?_
              rotate_left
              ·intro w'
               go_simp
               with_reducible rfl
              rotate_left
              ·simp only [Act.put, setIfInBounds_toArray, set_cons_zero, set_cons_succ, i64_w, i32_w]
               rfl
              refine pure_ (i := 4) (N := some 109) (v := ?_) (a' := ?_) #[false, true, true, false, true, false, false, false, false, false, false, false, false, false, false, false, false, false, false, false, false, false, false, false, false, false, false, false, false, false, false, false] rfl rfl (any_of HT_.out (by kernel_rfl)) (fun _ _ _ h => h) (Or.inl ⟨by rfl, ?_⟩) ?_ ?_
              rotate_left
              ·intro w'
               go_simp
               with_reducible rfl
              rotate_left
              ·simp only [Act.put, setIfInBounds_toArray, set_cons_zero, set_cons_succ, i64_w, i32_w]
               rfl
              refine take_ (i := 0) (N := some 105) (v := ?_) (a' := ?_) #[true, true, true, false, true, false, false, false, false, false, false, false, false, false, false, false, false, false, false, false, false, false, false, false, false, false, false, false, false, false, false, false] rfl rfl (take_ofW HT_.out HW_.out (by kernel_rfl)) (fun _ _ _ h => h) (Or.inl ⟨by rfl, ?_⟩) hHeld ?_ ?_
              rotate_left
              ·rintro w' ⟨s0, s1, s2, s3⟩
               go_simp
               with_reducible rfl
              rotate_left
              ·simp only [Act.put, setIfInBounds_toArray, set_cons_zero, set_cons_succ, i64_w, i32_w]
               rfl
              refine one_ (i := 3) (N := some 108) #[true, true, true, true, true, false, false, false, false, false, false, false, false, false, false, false, false, false, false, false, false, false, false, false, false, false, false, false, false, false, false, false] rfl rfl (one_of HT_.out (by kernel_rfl)) (by decide) (fun K hK => ?_)
              refine goes_ Tryd.func36 (by kernel_rfl) rfl #[.agg #[.int .u64 x223000_2, .slice Ao73 x223001_2.length co73, .string x223002_2], .int .u64 (IntKind.u64.wrap (a0 - 1))] (by rfl) rfl rfl (by (try simp only [List.map_toArray, List.map_cons, List.map_nil]); first | done | rfl | (simp only [List.length_drop, List.length_take]; rfl) | (rw [wrap_sum2 (by assumption)]; rfl)) ?_
              with_reducible refine (journal_After.calls k2 x223000_2 _ _ x223001_2 x223002_2 (IntKind.u64.wrap (a0 - 1)) t241 _ ?side1 ?side2 A58.out).mono ?_
              (case side1 => repeat (first | exact (Kd.N_reads' HO_223001.out).2.2 | (with_reducible refine Kd.C_alloc ?_ _) | (with_reducible refine Kd.C_drewN ?_ _) | (with_reducible refine Kd.C_drew ?_)))
              (case side2 => exact (Kd.N_reads' HO_223001.out).2.1)
              rintro e w74 ⟨v242, rfl, ho0, hb⟩
              have HS3_ := (hb.cell (World.block_lt_of_cell? _ _ (hHeld.2.2.2))).trans (hHeld.2.2.2)
              refine ⟨_, rfl, ?_⟩
              have n0_ := Ax.mk (Kd.R_elder' (by exact Kd.R_to HO_11.out) (Kd.R_base ho0) hb)
              have n1_ := Ax.mk (Kd.R_below (by exact Kd.R_to HO_12.out) hb)
              have n2_ := Ax.mk (Kd.N_elder' (by exact Kd.N_to HO_223001.out) (Kd.R_base ho0) hb)
              have n3_ := Ax.mk (Kd.R_lower (Kd.R_new' ho0 (Kd.R_lt (by exact Kd.R_to HO_11.out))) (bS bA))
              have n4_ := Ax.mk (bB (bT BK222.out) hb)
              have n5_ := Ax.mk (bP bA hb)
              clear HO_11
              clear HO_12
              clear HO_223001
              clear BK222
              clear HB
              have HO_11 := n0_
              have HO_12 := n1_
              have HO_223001 := n2_
              have HO243 := n3_
              have BK222 := n4_
              have HB := n5_
              clear n0_ n1_ n2_ n3_ n4_ n5_
              (try clear hb)
              (try clear hb2)
              (try clear hk)
              (try clear hi)
              (try clear ho0)
              obtain ⟨Ao75, co75, eo75⟩ := Kd.R_slice HO_11.out
              (first | subst eo75 | (injection eo75 with f1_ f2_ f3_; have f4_ := f1_.symm; have f5_ := f3_.symm; clear f1_ f2_ f3_; subst f4_; subst f5_))
              refine hK.out _ _ ⟨(bC BK222.out 0).trans rfl, (bC BK222.out 1).trans rfl, (bC BK222.out 2).trans rfl, HS3_⟩ (fun hHeld => ?_)
              clear hK K
              refine norm_ (a' := ?_) ?_ ?_
              rotate_left
              ·show Act.put _ (some 108) _ = _
               simp only [Act.put, setIfInBounds_toArray, set_cons_zero, set_cons_succ, i64_w, i32_w]
               rfl
              refine one_ (i := 5) (N := some 110) #[true, true, true, true, true, true, false, false, false, false, false, false, false, false, false, false, false, false, false, false, false, false, false, false, false, false, false, false, false, false, false, false] rfl rfl (one_of HT_.out (by kernel_rfl)) (by decide) (fun K hK => ?_)
              refine goes_ Tryd.func40 (by kernel_rfl) rfl #[.slice Ao75 x11_2.length co75] (by rfl) rfl rfl (by (try simp only [List.map_toArray, List.map_cons, List.map_nil]); first | done | rfl | (simp only [List.length_drop, List.length_take]; rfl) | (rw [wrap_sum2 (by assumption)]; rfl)) ?_
              with_reducible refine (l13_steps.calls k2 _ _ x11_2 t244 _ ?side1 ?side2 A59.out).mono ?_
              (case side1 => repeat (first | exact (Kd.R_reads' HO_11.out).2.2 | (with_reducible refine Kd.C_alloc ?_ _) | (with_reducible refine Kd.C_drewN ?_ _) | (with_reducible refine Kd.C_drew ?_)))
              (case side2 => exact (Kd.R_reads' HO_11.out).2.1)
              rintro e w76 ⟨v245, rfl, ho0, hb⟩
              have HS3_ := (hb.cell (World.block_lt_of_cell? _ _ (hHeld.2.2.2))).trans (hHeld.2.2.2)
              refine ⟨_, rfl, ?_⟩
              have n0_ := Ax.mk (Kd.R_below (by exact Kd.R_to HO_11.out) hb)
              have n1_ := Ax.mk (Kd.R_below (by exact Kd.R_to HO_12.out) hb)
              have n2_ := Ax.mk (Kd.N_elder' (by exact Kd.N_to HO_223001.out) (Kd.R_base ho0) hb)
              have n3_ := Ax.mk (Kd.R_below (by exact Kd.R_to HO243.out) hb)
              have n4_ := Ax.mk (Kd.R_lower ho0 (bS bA))
              have n5_ := Ax.mk (bB (bT BK222.out) hb)
              have n6_ := Ax.mk (bP bA hb)
              clear HO_11
              clear HO_12
              clear HO_223001
              clear HO243
              clear BK222
              clear HB
              have HO_11 := n0_
              have HO_12 := n1_
              have HO_223001 := n2_
              have HO243 := n3_
              have HO246 := n4_
              have BK222 := n5_
              have HB := n6_
              clear n0_ n1_ n2_ n3_ n4_ n5_ n6_
              (try clear hb)
              (try clear hb2)
              (try clear hk)
              (try clear hi)
              (try clear ho0)
              obtain ⟨Ao77, co77, eo77⟩ := Kd.R_slice HO243.out
              (first | subst eo77 | (injection eo77 with f1_ f2_ f3_; have f4_ := f1_.symm; have f5_ := f3_.symm; clear f1_ f2_ f3_; subst f4_; subst f5_))
              obtain ⟨Ao78, co78, eo78⟩ := Kd.R_slice HO246.out
              (first | subst eo78 | (injection eo78 with f1_ f2_ f3_; have f4_ := f1_.symm; have f5_ := f3_.symm; clear f1_ f2_ f3_; subst f4_; subst f5_))
              refine hK.out _ _ ⟨(bC BK222.out 0).trans rfl, (bC BK222.out 1).trans rfl, (bC BK222.out 2).trans rfl, HS3_⟩ (fun hHeld => ?_)
              clear hK K
              refine norm_ (a' := ?_) ?_ ?_
              rotate_left
              ·show Act.put _ (some 110) _ = _
               simp only [Act.put, setIfInBounds_toArray, set_cons_zero, set_cons_succ, i64_w, i32_w]
               rfl
              refine one_ (i := 6) (N := some 111) #[true, true, true, true, true, true, true, false, false, false, false, false, false, false, false, false, false, false, false, false, false, false, false, false, false, false, false, false, false, false, false, false] rfl rfl (one_of HT_.out (by kernel_rfl)) (by decide) (fun K hK => ?_)
              refine goes_ Tryd.func35 (by kernel_rfl) rfl #[.slice Ao77 t241.length co77, .slice Ao78 t244.length co78] (by rfl) rfl rfl (by (try simp only [List.map_toArray, List.map_cons, List.map_nil]); first | done | rfl | (simp only [List.length_drop, List.length_take]; rfl) | (rw [wrap_sum2 (by assumption)]; rfl)) ?_
              with_reducible refine (l13_sameSteps.calls k2 _ _ t241 _ _ t244 true _ ?side1 ?side2 ?side3 ?side4 A60.out).mono ?_
              (case side1 => repeat (first | exact (Kd.R_reads' HO243.out).2.2 | (with_reducible refine Kd.C_alloc ?_ _) | (with_reducible refine Kd.C_drewN ?_ _) | (with_reducible refine Kd.C_drew ?_)))
              (case side2 => exact (Kd.R_reads' HO243.out).2.1)
              (case side3 => repeat (first | exact (Kd.R_reads' HO246.out).2.2 | (with_reducible refine Kd.C_alloc ?_ _) | (with_reducible refine Kd.C_drewN ?_ _) | (with_reducible refine Kd.C_drew ?_)))
              (case side4 => exact (Kd.R_reads' HO246.out).2.1)
              rintro e w79 ⟨rfl, hb⟩
              have HS3_ := (hb.cell (World.block_lt_of_cell? _ _ (hHeld.2.2.2))).trans (hHeld.2.2.2)
              refine ⟨_, rfl, ?_⟩
              have n0_ := Ax.mk (Kd.R_below (by exact Kd.R_to HO_11.out) hb)
              have n1_ := Ax.mk (Kd.R_below (by exact Kd.R_to HO_12.out) hb)
              have n2_ := Ax.mk (Kd.N_below (by exact Kd.N_to HO_223001.out) hb)
              have n3_ := Ax.mk (Kd.R_below (by exact Kd.R_to HO243.out) hb)
              have n4_ := Ax.mk (Kd.R_below (by exact Kd.R_to HO246.out) hb)
              have n5_ := Ax.mk (bB (bT BK222.out) hb)
              have n6_ := Ax.mk (bP bA hb)
              clear HO_11
              clear HO_12
              clear HO_223001
              clear HO243
              clear HO246
              clear BK222
              clear HB
              have HO_11 := n0_
              have HO_12 := n1_
              have HO_223001 := n2_
              have HO243 := n3_
              have HO246 := n4_
              have BK222 := n5_
              have HB := n6_
              clear n0_ n1_ n2_ n3_ n4_ n5_ n6_
              (try clear hb)
              (try clear hb2)
              (try clear hk)
              (try clear hi)
              refine hK.out _ _ ⟨(bC BK222.out 0).trans rfl, (bC BK222.out 1).trans rfl, (bC BK222.out 2).trans rfl, HS3_⟩ (fun hHeld => ?_)
              clear hK K
              refine norm_ (a' := ?_) ?_ ?_
              rotate_left
              ·show Act.put _ (some 111) _ = _
               simp only [Act.put, setIfInBounds_toArray, set_cons_zero, set_cons_succ, i64_w, i32_w]
               rfl
              refine pure_ (i := 7) (N := some 112) (v := ?_) (a' := ?_) #[true, true, true, true, true, true, true, true, false, false, false, false, false, false, false, false, false, false, false, false, false, false, false, false, false, false, false, false, false, false, false, false] rfl rfl (any_of HT_.out (by kernel_rfl)) (fun _ _ _ h => h) (Or.inl ⟨by rfl, ?_⟩) ?_ ?_
              rotate_left
              ·intro w'
               go_simp
               with_reducible rfl
              rotate_left
              ·simp only [Act.put, setIfInBounds_toArray, set_cons_zero, set_cons_succ, i64_w, i32_w]
               rfl
              refine pure_ (i := 9) (N := some 114) (v := ?_) (a' := ?_) #[true, true, true, true, true, true, true, true, false, true, false, false, false, false, false, false, false, false, false, false, false, false, false, false, false, false, false, false, false, false, false, false] rfl rfl (any_of HT_.out (by kernel_rfl)) (fun _ _ _ h => h) (Or.inl ⟨by rfl, ?_⟩) ?_ ?_
              rotate_left
              ·intro w'
               go_simp
               with_reducible rfl
              rotate_left
              ·simp only [Act.put, setIfInBounds_toArray, set_cons_zero, set_cons_succ, i64_w, i32_w]
               rfl
              refine pure_ (i := 10) (N := some 115) (v := ?_) (a' := ?_) #[true, true, true, true, true, true, true, true, false, true, true, false, false, false, false, false, false, false, false, false, false, false, false, false, false, false, false, false, false, false, false, false] rfl rfl (any_of HT_.out (by kernel_rfl)) (fun _ _ _ h => h) (Or.inl ⟨by rfl, ?_⟩) ?_ ?_
              rotate_left
              ·intro w'
               go_simp
               with_reducible rfl
              rotate_left
              ·simp only [Act.put, setIfInBounds_toArray, set_cons_zero, set_cons_succ, i64_w, i32_w]
               rfl
              refine pure_ (i := 11) (N := some 116) (v := ?_) (a' := ?_) #[true, true, true, true, true, true, true, true, false, true, true, true, false, false, false, false, false, false, false, false, false, false, false, false, false, false, false, false, false, false, false, false] rfl rfl (any_of HT_.out (by kernel_rfl)) (fun _ _ _ h => h) (Or.inl ⟨by rfl, ?_⟩) ?_ ?_
              rotate_left
              ·intro w'
               go_simp
               with_reducible rfl
              rotate_left
              ·simp only [Act.put, setIfInBounds_toArray, set_cons_zero, set_cons_succ, i64_w, i32_w]
               rfl
              refine pure_ (i := 12) (N := some 117) (v := ?_) (a' := ?_) #[true, true, true, true, true, true, true, true, false, true, true, true, true, false, false, false, false, false, false, false, false, false, false, false, false, false, false, false, false, false, false, false] rfl rfl (any_of HT_.out (by kernel_rfl)) (fun _ _ _ h => h) (Or.inl ⟨by rfl, ?_⟩) ?_ ?_
              rotate_left
              ·intro w'
               go_simp
               with_reducible rfl
              rotate_left
              ·simp only [Act.put, setIfInBounds_toArray, set_cons_zero, set_cons_succ, i64_w, i32_w]
               rfl
              refine pure_ (i := 14) (N := some 119) (v := ?_) (a' := ?_) #[true, true, true, true, true, true, true, true, false, true, true, true, true, false, true, false, false, false, false, false, false, false, false, false, false, false, false, false, false, false, false, false] rfl rfl (any_of HT_.out (by kernel_rfl)) (fun _ _ _ h => h) (Or.inl ⟨by rfl, ?_⟩) ?_ ?_
              rotate_left
              ·intro w'
               go_simp
               with_reducible rfl
              rotate_left
              ·simp only [Act.put, setIfInBounds_toArray, set_cons_zero, set_cons_succ, i64_w, i32_w]
               rfl
              refine pure_ (i := 15) (N := some 120) (v := ?_) (a' := ?_) #[true, true, true, true, true, true, true, true, false, true, true, true, true, false, true, true, false, false, false, false, false, false, false, false, false, false, false, false, false, false, false, false] rfl rfl (any_of HT_.out (by kernel_rfl)) (fun _ _ _ h => h) (Or.inl ⟨by rfl, ?_⟩) ?_ ?_
              rotate_left
              ·intro w'
               go_simp
               with_reducible rfl
              rotate_left
              ·simp only [Act.put, setIfInBounds_toArray, set_cons_zero, set_cons_succ, i64_w, i32_w]
               rfl
              refine pure_ (i := 16) (N := some 121) (v := ?_) (a' := ?_) #[true, true, true, true, true, true, true, true, false, true, true, true, true, false, true, true, true, false, false, false, false, false, false, false, false, false, false, false, false, false, false, false] rfl rfl (any_of HT_.out (by kernel_rfl)) (fun _ _ _ h => h) (Or.inl ⟨by rfl, ?_⟩) ?_ ?_
              rotate_left
              ·intro w'
               go_simp
               with_reducible rfl
              rotate_left
              ·simp only [Act.put, setIfInBounds_toArray, set_cons_zero, set_cons_succ, i64_w, i32_w]
               rfl
              refine pure_ (i := 17) (N := some 122) (v := ?_) (a' := ?_) #[true, true, true, true, true, true, true, true, false, true, true, true, true, false, true, true, true, true, false, false, false, false, false, false, false, false, false, false, false, false, false, false] rfl rfl (any_of HT_.out (by kernel_rfl)) (fun _ _ _ h => h) (Or.inl ⟨by rfl, ?_⟩) ?_ ?_
              rotate_left
              ·intro w'
               go_simp
               with_reducible rfl
              rotate_left
              ·simp only [Act.put, setIfInBounds_toArray, set_cons_zero, set_cons_succ, i64_w, i32_w]
               rfl
              refine take_ (i := 8) (N := some 113) (v := ?_) (a' := ?_) #[true, true, true, true, true, true, true, true, true, true, true, true, true, false, true, true, true, true, false, false, false, false, false, false, false, false, false, false, false, false, false, false] rfl rfl (take_ofW HT_.out HW_.out (by kernel_rfl)) (fun _ _ _ h => h) (Or.inl ⟨by rfl, ?_⟩) hHeld ?_ ?_
              rotate_left
              ·rintro w' ⟨s0, s1, s2, s3⟩
               go_simp
               with_reducible rfl
              rotate_left
              ·simp only [Act.put, setIfInBounds_toArray, set_cons_zero, set_cons_succ, i64_w, i32_w]
               rfl
              refine take_ (i := 18) (N := some 123) (v := ?_) (a' := ?_) #[true, true, true, true, true, true, true, true, true, true, true, true, true, false, true, true, true, true, true, false, false, false, false, false, false, false, false, false, false, false, false, false] rfl rfl (take_ofW HT_.out HW_.out (by kernel_rfl)) (fun _ _ _ h => h) (Or.inl ⟨by rfl, ?_⟩) hHeld ?_ ?_
              rotate_left
              ·rintro w' ⟨s0, s1, s2, s3⟩
               go_simp
               with_reducible rfl
              rotate_left
              ·simp only [Act.put, setIfInBounds_toArray, set_cons_zero, set_cons_succ, i64_w, i32_w]
               rfl
              refine pure_ (i := 19) (N := some 124) (v := ?_) (a' := ?_) #[true, true, true, true, true, true, true, true, true, true, true, true, true, false, true, true, true, true, true, true, false, false, false, false, false, false, false, false, false, false, false, false] rfl rfl (any_of HT_.out (by kernel_rfl)) (fun _ _ _ h => h) (Or.inl ⟨by rfl, ?_⟩) ?_ ?_
              rotate_left
              ·intro w'
               go_simp
               with_reducible rfl
              rotate_left
              ·simp only [Act.put, setIfInBounds_toArray, set_cons_zero, set_cons_succ, i64_w, i32_w]
               rfl
              refine one_ (i := 13) (N := some 118) #[true, true, true, true, true, true, true, true, true, true, true, true, true, true, true, true, true, true, true, true, false, false, false, false, false, false, false, false, false, false, false, false] rfl rfl (one_of HT_.out (by kernel_rfl)) (by decide) (fun K hK => ?_)
              refine goes_ Tryd.func36 (by kernel_rfl) rfl #[.agg #[.int .u64 x223000_2, .slice Ao73 x223001_2.length co73, .string x223002_2], .int .u64 (IntKind.u64.wrap (a0 + (IntKind.u64.wrap (ji57))))] (by rfl) rfl rfl (by (try simp only [List.map_toArray, List.map_cons, List.map_nil]); first | done | (simp only [hji57]; rfl) | rfl | (simp only [List.length_drop, List.length_take]; rfl) | (rw [wrap_sum2 (by assumption)]; rfl)) ?_
              with_reducible refine (journal_After.calls k2 x223000_2 _ _ x223001_2 x223002_2 (IntKind.u64.wrap (a0 + (IntKind.u64.wrap (ji57)))) t248 _ ?side1 ?side2 A62.out).mono ?_
              (case side1 => repeat (first | exact (Kd.N_reads' HO_223001.out).2.2 | (with_reducible refine Kd.C_alloc ?_ _) | (with_reducible refine Kd.C_drewN ?_ _) | (with_reducible refine Kd.C_drew ?_)))
              (case side2 => exact (Kd.N_reads' HO_223001.out).2.1)
              rintro e w80 ⟨v249, rfl, ho0, hb⟩
              have HS3_ := (hb.cell (World.block_lt_of_cell? _ _ (hHeld.2.2.2))).trans (hHeld.2.2.2)
              refine ⟨_, rfl, ?_⟩
              have n0_ := Ax.mk (Kd.R_elder' (by exact Kd.R_to HO_11.out) (Kd.R_base ho0) hb)
              have n1_ := Ax.mk (Kd.R_below (by exact Kd.R_to HO_12.out) hb)
              have n2_ := Ax.mk (Kd.N_elder' (by exact Kd.N_to HO_223001.out) (Kd.R_base ho0) hb)
              have n3_ := Ax.mk (Kd.R_elder' (by exact Kd.R_to HO243.out) (Kd.R_base ho0) hb)
              have n4_ := Ax.mk (Kd.R_below (by exact Kd.R_to HO246.out) hb)
              have n5_ := Ax.mk (Kd.R_lower (Kd.R_new' (Kd.R_new' ho0 (Kd.R_lt (by exact Kd.R_to HO_11.out))) (Kd.R_lt (by exact Kd.R_to HO243.out))) (bS bA))
              have n6_ := Ax.mk (bB (bT BK222.out) hb)
              have n7_ := Ax.mk (bP bA hb)
              clear HO_11
              clear HO_12
              clear HO_223001
              clear HO243
              clear HO246
              clear BK222
              clear HB
              have HO_11 := n0_
              have HO_12 := n1_
              have HO_223001 := n2_
              have HO243 := n3_
              have HO246 := n4_
              have HO250 := n5_
              have BK222 := n6_
              have HB := n7_
              clear n0_ n1_ n2_ n3_ n4_ n5_ n6_ n7_
              (try clear hb)
              (try clear hb2)
              (try clear hk)
              (try clear hi)
              (try clear ho0)
              have q81 : ((rd x12_2 (ji57)) : Int) ≤ ((x11_2.length : Int) : Int) := of_decide_eq_true (by first | (with_reducible assumption) | assumption)
              obtain ⟨i081, hi081, _, hsz81, _⟩ := info_parts info24
              have hroom81 : x11_2.length ≤ co75 := (Kd.R_reads' HO_11.out).2.1
              have hC81 : Kd.F k24 _ _ Ao75 x11_2.length x11_2 := (Kd.V_at (base := w.heap.size) (Kd.R_V (Kd.R_types (Kd.R_apart' (Kd.R_apart' (Kd.R_apart' (HO_11.out) (Kd.R_typed HO_12.out) (by decide)) (Kd.N_typed HO_223001.out) (by decide)) (Kd.R_typed HO246.out) (by decide)) BK222.out (by decide)))).2.2
              have q081 : (0 : Int) ≤ ((rd x12_2 (ji57)) : Int) := of_decide_eq_true (by first | (with_reducible assumption) | assumption)
              have hcut81 := cut_from (P := Tryd.prog) 29 24 .i64 Tryd.underlying29 hi081 5 hsz81 Ao75 x11_2.length co75 (rd x12_2 (ji57)) q081 q81
              have hr81 := Kd.F_cut (m := ((rd x12_2 (ji57)) : Int).toNat) (c := co75) hC81 (by omega) hroom81
              obtain ⟨A81, hA81⟩ : ∃ A1, A1 = (if co75 = ((rd x12_2 (ji57)) : Int).toNat then Ao75 else (Ao75 : Option Addr).map (·.add (((rd x12_2 (ji57)) : Int).toNat * 5))) := ⟨_, rfl⟩
              obtain ⟨c81, hc81⟩ : ∃ c1, c1 = co75 - ((rd x12_2 (ji57)) : Int).toNat := ⟨_, rfl⟩
              have hy81 : y252.length = x11_2.length - ((rd x12_2 (ji57)) : Int).toNat := (by rw [Ny252.out, List.length_drop] <;> omega)
              rw [show (x11_2).drop ((rd x12_2 (ji57)) : Int).toNat = y252 from Ny252.out.symm] at hr81
              replace hr81 : Kd.F k24 _ _ A81 y252.length y252 := (by rw [hA81]; exact hr81)
              rw [← hy81, ← hA81, ← hc81] at hcut81
              have HO256 := Ax.mk (show Kd.V k24 24 _ w.heap.size _ (.slice A81 y252.length c81) y252 from Kd.V_mk (by rw [hy81, hc81]; exact Nat.sub_le_sub_right hroom81 _) hr81)
              have HC256 := Ax.mk (show y252.length ≤ c81 from by rw [hy81, hc81]; exact Nat.sub_le_sub_right hroom81 _)
              clear hr81 hC81 hroom81 hi081 hsz81
              have KC81 := Ax.mk hc81
              clear hc81
              have KY81 := Ax.mk hy81
              have KA81 := Ax.mk hA81
              clear hy81 hA81
              replace q81 := eq_true q81
              refine hK.out _ _ ⟨(bC BK222.out 0).trans rfl, (bC BK222.out 1).trans rfl, (bC BK222.out 2).trans rfl, HS3_⟩ (fun hHeld => ?_)
              clear hK K
              refine norm_ (a' := ?_) ?_ ?_
              rotate_left
              ·show Act.put _ (some 118) _ = _
               simp only [Act.put, setIfInBounds_toArray, set_cons_zero, set_cons_succ, i64_w, i32_w]
               rfl
              refine one_ (i := 20) (N := some 125) #[true, true, true, true, true, true, true, true, true, true, true, true, true, true, true, true, true, true, true, true, true, false, false, false, false, false, false, false, false, false, false, false] rfl rfl (one_of HT_.out (by kernel_rfl)) (by decide) (fun K hK => ?_)
              refine goes_ Tryd.func40 (by kernel_rfl) rfl #[.slice A81 y252.length c81] (by rfl) rfl rfl (by (try simp only [List.map_toArray, List.map_cons, List.map_nil]); first | done | rfl | (simp only [List.length_drop, List.length_take]; rfl) | (rw [wrap_sum2 (by assumption)]; rfl) | (rw [KA81.out, KY81.out, KC81.out]; rfl)) ?_
              with_reducible refine (l13_steps.calls k2 _ _ y252 t257 _ ?side1 ?side2 A67.out).mono ?_
              (case side1 => repeat (first | exact (Kd.V_reads' HO256.out).2.2 | (with_reducible refine Kd.C_alloc ?_ _) | (with_reducible refine Kd.C_drewN ?_ _) | (with_reducible refine Kd.C_drew ?_)))
              (case side2 => exact (Kd.V_reads' HO256.out).2.1)
              rintro e w82 ⟨v258, rfl, ho0, hb⟩
              have HS3_ := (hb.cell (World.block_lt_of_cell? _ _ (hHeld.2.2.2))).trans (hHeld.2.2.2)
              refine ⟨_, rfl, ?_⟩
              have n0_ := Ax.mk (Kd.R_below (by exact Kd.R_to HO_11.out) hb)
              have n1_ := Ax.mk (Kd.R_below (by exact Kd.R_to HO_12.out) hb)
              have n2_ := Ax.mk (Kd.N_elder' (by exact Kd.N_to HO_223001.out) (Kd.R_base ho0) hb)
              have n3_ := Ax.mk (Kd.R_below (by exact Kd.R_to HO243.out) hb)
              have n4_ := Ax.mk (Kd.R_elder' (by exact Kd.R_to HO246.out) (Kd.R_base ho0) hb)
              have n5_ := Ax.mk (Kd.R_below (by exact Kd.R_to HO250.out) hb)
              have n6_ := Ax.mk (Kd.V_elder' (by exact Kd.V_to HO256.out) (Kd.R_base ho0) hb)
              have n7_ := Ax.mk (Kd.R_lower (Kd.R_new' ho0 (Kd.R_lt (by exact Kd.R_to HO246.out))) (bS bA))
              have n8_ := Ax.mk (bB (bT BK222.out) hb)
              have n9_ := Ax.mk (bP bA hb)
              clear HO_11
              clear HO_12
              clear HO_223001
              clear HO243
              clear HO246
              clear HO250
              clear HO256
              clear BK222
              clear HB
              have HO_11 := n0_
              have HO_12 := n1_
              have HO_223001 := n2_
              have HO243 := n3_
              have HO246 := n4_
              have HO250 := n5_
              have HO256 := n6_
              have HO259 := n7_
              have BK222 := n8_
              have HB := n9_
              clear n0_ n1_ n2_ n3_ n4_ n5_ n6_ n7_ n8_ n9_
              (try clear hb)
              (try clear hb2)
              (try clear hk)
              (try clear hi)
              (try clear ho0)
              obtain ⟨Ao83, co83, eo83⟩ := Kd.R_slice HO250.out
              (first | subst eo83 | (injection eo83 with f1_ f2_ f3_; have f4_ := f1_.symm; have f5_ := f3_.symm; clear f1_ f2_ f3_; subst f4_; subst f5_))
              obtain ⟨Ao84, co84, eo84⟩ := Kd.R_slice HO259.out
              (first | subst eo84 | (injection eo84 with f1_ f2_ f3_; have f4_ := f1_.symm; have f5_ := f3_.symm; clear f1_ f2_ f3_; subst f4_; subst f5_))
              refine hK.out _ _ ⟨(bC BK222.out 0).trans rfl, (bC BK222.out 1).trans rfl, (bC BK222.out 2).trans rfl, HS3_⟩ (fun hHeld => ?_)
              clear hK K
              refine norm_ (a' := ?_) ?_ ?_
              rotate_left
              ·show Act.put _ (some 125) _ = _
               simp only [Act.put, setIfInBounds_toArray, set_cons_zero, set_cons_succ, i64_w, i32_w]
               rfl
              refine one_ (i := 21) (N := some 126) #[true, true, true, true, true, true, true, true, true, true, true, true, true, true, true, true, true, true, true, true, true, true, false, false, false, false, false, false, false, false, false, false] rfl rfl (one_of HT_.out (by kernel_rfl)) (by decide) (fun K hK => ?_)
              refine goes_ Tryd.func35 (by kernel_rfl) rfl #[.slice Ao83 t248.length co83, .slice Ao84 t257.length co84] (by rfl) rfl rfl (by (try simp only [List.map_toArray, List.map_cons, List.map_nil]); first | done | rfl | (simp only [List.length_drop, List.length_take]; rfl) | (rw [wrap_sum2 (by assumption)]; rfl)) ?_
              with_reducible refine (l13_sameSteps.calls k2 _ _ t248 _ _ t257 true _ ?side1 ?side2 ?side3 ?side4 A68.out).mono ?_
              (case side1 => repeat (first | exact (Kd.R_reads' HO250.out).2.2 | (with_reducible refine Kd.C_alloc ?_ _) | (with_reducible refine Kd.C_drewN ?_ _) | (with_reducible refine Kd.C_drew ?_)))
              (case side2 => exact (Kd.R_reads' HO250.out).2.1)
              (case side3 => repeat (first | exact (Kd.R_reads' HO259.out).2.2 | (with_reducible refine Kd.C_alloc ?_ _) | (with_reducible refine Kd.C_drewN ?_ _) | (with_reducible refine Kd.C_drew ?_)))
              (case side4 => exact (Kd.R_reads' HO259.out).2.1)
              rintro e w85 ⟨rfl, hb⟩
              have HS3_ := (hb.cell (World.block_lt_of_cell? _ _ (hHeld.2.2.2))).trans (hHeld.2.2.2)
              refine ⟨_, rfl, ?_⟩
              have n0_ := Ax.mk (Kd.R_below (by exact Kd.R_to HO_11.out) hb)
              have n1_ := Ax.mk (Kd.R_below (by exact Kd.R_to HO_12.out) hb)
              have n2_ := Ax.mk (Kd.N_below (by exact Kd.N_to HO_223001.out) hb)
              have n3_ := Ax.mk (Kd.R_below (by exact Kd.R_to HO243.out) hb)
              have n4_ := Ax.mk (Kd.R_below (by exact Kd.R_to HO246.out) hb)
              have n5_ := Ax.mk (Kd.R_below (by exact Kd.R_to HO250.out) hb)
              have n6_ := Ax.mk (Kd.V_below (by exact Kd.V_to HO256.out) hb)
              have n7_ := Ax.mk (Kd.R_below (by exact Kd.R_to HO259.out) hb)
              have n8_ := Ax.mk (bB (bT BK222.out) hb)
              have n9_ := Ax.mk (bP bA hb)
              clear HO_11
              clear HO_12
              clear HO_223001
              clear HO243
              clear HO246
              clear HO250
              clear HO256
              clear HO259
              clear BK222
              clear HB
              have HO_11 := n0_
              have HO_12 := n1_
              have HO_223001 := n2_
              have HO243 := n3_
              have HO246 := n4_
              have HO250 := n5_
              have HO256 := n6_
              have HO259 := n7_
              have BK222 := n8_
              have HB := n9_
              clear n0_ n1_ n2_ n3_ n4_ n5_ n6_ n7_ n8_ n9_
              (try clear hb)
              (try clear hb2)
              (try clear hk)
              (try clear hi)
              refine hK.out _ _ ⟨(bC BK222.out 0).trans rfl, (bC BK222.out 1).trans rfl, (bC BK222.out 2).trans rfl, HS3_⟩ (fun hHeld => ?_)
              clear hK K
              refine norm_ (a' := ?_) ?_ ?_
              rotate_left
              ·show Act.put _ (some 126) _ = _
               simp only [Act.put, setIfInBounds_toArray, set_cons_zero, set_cons_succ, i64_w, i32_w]
               rfl
              refine pure_ (i := 22) (N := some 127) (v := ?_) (a' := ?_) #[true, true, true, true, true, true, true, true, true, true, true, true, true, true, true, true, true, true, true, true, true, true, true, false, false, false, false, false, false, false, false, false] rfl rfl (any_of HT_.out (by kernel_rfl)) (fun _ _ _ h => h) (Or.inl ⟨by rfl, ?_⟩) ?_ ?_
              rotate_left
              ·intro w'
               go_simp
               with_reducible rfl
              rotate_left
              ·simp only [Act.put, setIfInBounds_toArray, set_cons_zero, set_cons_succ, i64_w, i32_w]
               rfl
              refine pure_ (i := 23) (N := some 128) (v := ?_) (a' := ?_) #[true, true, true, true, true, true, true, true, true, true, true, true, true, true, true, true, true, true, true, true, true, true, true, true, false, false, false, false, false, false, false, false] rfl rfl (any_of HT_.out (by kernel_rfl)) (fun _ _ _ h => h) (Or.inl ⟨by rfl, ?_⟩) ?_ ?_
              rotate_left
              ·intro w'
               go_simp
               with_reducible rfl
              rotate_left
              ·simp only [Act.put, setIfInBounds_toArray, set_cons_zero, set_cons_succ, i64_w, i32_w]
               rfl
              refine pure_ (i := 25) (N := some 130) (v := ?_) (a' := ?_) #[true, true, true, true, true, true, true, true, true, true, true, true, true, true, true, true, true, true, true, true, true, true, true, true, false, true, false, false, false, false, false, false] rfl rfl (any_of HT_.out (by kernel_rfl)) (fun _ _ _ h => h) (Or.inl ⟨by rfl, ?_⟩) ?_ ?_
              rotate_left
              ·intro w'
               go_simp
               with_reducible rfl
              rotate_left
              ·simp only [Act.put, setIfInBounds_toArray, set_cons_zero, set_cons_succ, i64_w, i32_w]
               rfl
              refine take_ (i := 24) (N := some 129) (v := ?_) (a' := ?_) #[true, true, true, true, true, true, true, true, true, true, true, true, true, true, true, true, true, true, true, true, true, true, true, true, true, true, false, false, false, false, false, false] rfl rfl (take_ofW HT_.out HW_.out (by kernel_rfl)) (fun _ _ _ h => h) (Or.inl ⟨by rfl, ?_⟩) hHeld ?_ ?_
              rotate_left
              ·rintro w' ⟨s0, s1, s2, s3⟩
               go_simp
               with_reducible rfl
              rotate_left
              ·simp only [Act.put, setIfInBounds_toArray, set_cons_zero, set_cons_succ, i64_w, i32_w]
               rfl
              refine take_ (i := 26) (N := some 131) (v := ?_) (a' := ?_) #[true, true, true, true, true, true, true, true, true, true, true, true, true, true, true, true, true, true, true, true, true, true, true, true, true, true, true, false, false, false, false, false] rfl rfl (take_ofW HT_.out HW_.out (by kernel_rfl)) (fun _ _ _ h => h) (Or.inl ⟨by rfl, ?_⟩) hHeld ?_ ?_
              rotate_left
              ·rintro w' ⟨s0, s1, s2, s3⟩
               go_simp
               with_reducible rfl
              rotate_left
              ·simp only [Act.put, setIfInBounds_toArray, set_cons_zero, set_cons_succ, i64_w, i32_w]
               rfl
              refine one_ (i := 27) (N := some 132) #[true, true, true, true, true, true, true, true, true, true, true, true, true, true, true, true, true, true, true, true, true, true, true, true, true, true, true, true, false, false, false, false] rfl rfl (one_of HT_.out (by kernel_rfl)) (by decide) (fun K hK => ?_)
              refine goes_ Tryd.func36 (by kernel_rfl) rfl #[.agg #[.int .u64 x223000_2, .slice Ao73 x223001_2.length co73, .string x223002_2], .int .u64 x223000_2] (by rfl) rfl rfl (by (try simp only [List.map_toArray, List.map_cons, List.map_nil]); first | done | rfl | (simp only [List.length_drop, List.length_take]; rfl) | (rw [wrap_sum2 (by assumption)]; rfl)) ?_
              with_reducible refine (journal_After.calls k2 x223000_2 _ _ x223001_2 x223002_2 x223000_2 t261 _ ?side1 ?side2 A70.out).mono ?_
              (case side1 => repeat (first | exact (Kd.N_reads' HO_223001.out).2.2 | (with_reducible refine Kd.C_alloc ?_ _) | (with_reducible refine Kd.C_drewN ?_ _) | (with_reducible refine Kd.C_drew ?_)))
              (case side2 => exact (Kd.N_reads' HO_223001.out).2.1)
              rintro e w86 ⟨v262, rfl, ho0, hb⟩
              have HS3_ := (hb.cell (World.block_lt_of_cell? _ _ (hHeld.2.2.2))).trans (hHeld.2.2.2)
              refine ⟨_, rfl, ?_⟩
              have n0_ := Ax.mk (Kd.R_elder' (by exact Kd.R_to HO_11.out) (Kd.R_base ho0) hb)
              have n1_ := Ax.mk (Kd.R_below (by exact Kd.R_to HO_12.out) hb)
              have n2_ := Ax.mk (Kd.N_elder' (by exact Kd.N_to HO_223001.out) (Kd.R_base ho0) hb)
              have n3_ := Ax.mk (Kd.R_elder' (by exact Kd.R_to HO243.out) (Kd.R_base ho0) hb)
              have n4_ := Ax.mk (Kd.R_below (by exact Kd.R_to HO246.out) hb)
              have n5_ := Ax.mk (Kd.R_elder' (by exact Kd.R_to HO250.out) (Kd.R_base ho0) hb)
              have n6_ := Ax.mk (Kd.V_elder' (by exact Kd.V_to HO256.out) (Kd.R_base ho0) hb)
              have n7_ := Ax.mk (Kd.R_below (by exact Kd.R_to HO259.out) hb)
              have n8_ := Ax.mk (Kd.R_lower (Kd.R_new' (Kd.R_new' (Kd.R_new' ho0 (Kd.R_lt (by exact Kd.R_to HO_11.out))) (Kd.R_lt (by exact Kd.R_to HO243.out))) (Kd.R_lt (by exact Kd.R_to HO250.out))) (bS bA))
              have n9_ := Ax.mk (bB (bT BK222.out) hb)
              have n10_ := Ax.mk (bP bA hb)
              clear HO_11
              clear HO_12
              clear HO_223001
              clear HO243
              clear HO246
              clear HO250
              clear HO256
              clear HO259
              clear BK222
              clear HB
              have HO_11 := n0_
              have HO_12 := n1_
              have HO_223001 := n2_
              have HO243 := n3_
              have HO246 := n4_
              have HO250 := n5_
              have HO256 := n6_
              have HO259 := n7_
              have HO263 := n8_
              have BK222 := n9_
              have HB := n10_
              clear n0_ n1_ n2_ n3_ n4_ n5_ n6_ n7_ n8_ n9_ n10_
              (try clear hb)
              (try clear hb2)
              (try clear hk)
              (try clear hi)
              (try clear ho0)
              obtain ⟨Ao87, co87, eo87⟩ := Kd.R_slice HO263.out
              (first | subst eo87 | (injection eo87 with f1_ f2_ f3_; have f4_ := f1_.symm; have f5_ := f3_.symm; clear f1_ f2_ f3_; subst f4_; subst f5_))
              refine hK.out _ _ ⟨(bC BK222.out 0).trans rfl, (bC BK222.out 1).trans rfl, (bC BK222.out 2).trans rfl, HS3_⟩ (fun hHeld => ?_)
              clear hK K
              refine norm_ (a' := ?_) ?_ ?_
              rotate_left
              ·show Act.put _ (some 132) _ = _
               simp only [Act.put, setIfInBounds_toArray, set_cons_zero, set_cons_succ, i64_w, i32_w]
               rfl
              refine pure_ (i := 28) (N := some 133) (v := ?_) (a' := ?_) #[true, true, true, true, true, true, true, true, true, true, true, true, true, true, true, true, true, true, true, true, true, true, true, true, true, true, true, true, true, false, false, false] rfl rfl (any_of HT_.out (by kernel_rfl)) (fun _ _ _ h => h) (Or.inl ⟨by rfl, ?_⟩) ?_ ?_
              rotate_left
              ·intro w'
               go_simp
               with_reducible rfl
              rotate_left
              ·simp only [Act.put, setIfInBounds_toArray, set_cons_zero, set_cons_succ, i64_w, i32_w]
               rfl
              refine pure_ (i := 29) (N := some 134) (v := ?_) (a' := ?_) #[true, true, true, true, true, true, true, true, true, true, true, true, true, true, true, true, true, true, true, true, true, true, true, true, true, true, true, true, true, true, false, false] rfl rfl (any_of HT_.out (by kernel_rfl)) (fun _ _ _ h => h) (Or.inl ⟨by rfl, ?_⟩) ?_ ?_
              rotate_left
              ·intro w'
               go_simp
               with_reducible rfl
              rotate_left
              ·simp only [Act.put, setIfInBounds_toArray, set_cons_zero, set_cons_succ, i64_w, i32_w]
               rfl
              refine pure_ (i := 30) (N := some 135) (v := ?_) (a' := ?_) #[true, true, true, true, true, true, true, true, true, true, true, true, true, true, true, true, true, true, true, true, true, true, true, true, true, true, true, true, true, true, true, false] rfl rfl (any_of HT_.out (by kernel_rfl)) (fun _ _ _ h => h) (Or.inl ⟨by rfl, ?_⟩) ?_ ?_
              rotate_left
              ·intro w'
               go_simp
               with_reducible rfl
              rotate_left
              ·simp only [Act.put, setIfInBounds_toArray, set_cons_zero, set_cons_succ, i64_w, i32_w]
               rfl
              refine pure_ (i := 31) (N := some 6) (v := ?_) (a' := ?_) #[true, true, true, true, true, true, true, true, true, true, true, true, true, true, true, true, true, true, true, true, true, true, true, true, true, true, true, true, true, true, true, true] rfl rfl (any_of HT_.out (by kernel_rfl)) (fun _ _ _ h => h) (Or.inl ⟨by rfl, ?_⟩) ?_ ?_
              rotate_left
              ·intro w'
               go_simp
               with_reducible rfl
              rotate_left
              ·simp only [Act.put, setIfInBounds_toArray, set_cons_zero, set_cons_succ, i64_w, i32_w]
               rfl
              refine done_ (done_of HT_.out (by kernel_rfl)) ?_
              try go_wp2
              all_goals go_ret
              all_goals (exact ⟨by first | rfl | (simp [errW_none, errW_some] <;> rfl) | (simp only [← hji56, ← hji57]; first | rfl | (simp [errW_none, errW_some] <;> rfl)) | (simp [*, errW_none, errW_some] <;> rfl), bA⟩)
             ·replace c69 := Bool.eq_false_iff.mpr c69
              subst c69
              have H1 : (none) = some r := by rw [if_neg (show ¬ (false = true) by decide)] at H; exact H
              clear H
              have H := H1
              clear H1
              exact absurd H (by simp)
            ·rw [if_neg c66] at H
             exact absurd H (by simp)
           ·rw [if_neg c65] at H
            exact absurd H (by simp)
          ·rw [if_neg c64] at H
           exact absurd H (by simp)
         ·rw [if_neg c63] at H
          exact absurd H (by simp)
        ·replace c61 := Bool.eq_false_iff.mpr c61
         subst c61
         have H1 : (none) = some r := by rw [if_neg (show ¬ (false = true) by decide)] at H; exact H
         clear H
         have H := H1
         clear H1
         exact absurd H (by simp)
    ·rw [if_neg c13] at H
     exact absurd H (by simp)
end Go.Proofs.YtboommbclbjlnaaDoor.Fn
end
