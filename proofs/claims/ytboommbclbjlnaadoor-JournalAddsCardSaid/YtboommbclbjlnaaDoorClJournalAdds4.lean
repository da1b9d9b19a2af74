-- Packed by pack.py, a program of this session, out of texts of this claim.
import Derived.Test.YtboommbclbjlnaaDoorClJournalAdds1
import Derived.Test.YtboommbclbjlnaaDoorClJournalAdds2
import Derived.Test.YtboommbclbjlnaaDoorClJournalAdds3
section
-- Written by printx.py, a program of this session over the kit's print: each Go function as a plain Lean function, and that the Go code computes it.
namespace Go.Proofs.YtboommbclbjlnaaDoor.Fn
open Go.RowKit Go.Proofs.YtboommbclbjlnaaDoorW.PrintWords Go.Proofs.YtboommbclbjlnaaDoorW.PrintLast Go.Proofs.YtboommbclbjlnaaDoorW.PrintMore Go.Proofs.YtboommbclbjlnaaDoor.Lf
attribute [local go_sem] max2_int min2_int max_two min_two max_three min_three max_four min_four   -- for this text's walks alone
set_option linter.unusedVariables false
set_option linter.unusedSimpArgs false
def rootcellarlaw13_shortSteps.l0 : Nat → List (S24) → Int → Option (Bool)
 | 0, _, _ => none
 | k + 1, x0, x3 => if x3 < (x0.length : Int) then (if 0 ≤ x3 then (if (((rd_T24 x0 x3).f4).size : Int) > 200 then (some false) else (rootcellarlaw13_shortSteps.l0 k x0 (wrap64 (x3 + 1)))) else (none)) else (some true)
def rootcellarlaw13_shortSteps.f (k : Nat) (l0 : List (S24)) : Option (Bool) := if (l0.length : Int) > 60 then (some false) else (rootcellarlaw13_shortSteps.l0 k l0 0)
set_option maxHeartbeats 8000000 in
set_option maxRecDepth 100000 in
theorem rootcellarlaw13_shortSteps.calls (k : Nat) (A0 : Option Addr) (c0 : Nat) (l0 : List (S24)) (r : Bool) (w : World) (hr0 : Kd.C k24 w A0 l0.length l0) (hc0 : l0.length ≤ c0) (h : rootcellarlaw13_shortSteps.f k l0 = some r) :
  Calls Tryd.prog 32 #[.slice A0 l0.length c0] w fun e w' => e = .returned (.bool r) ∧ Drawn0 w w' := by
 have HR0 := Aside0.mk hr0
 have HC0 := Aside0.mk hc0
 clear hr0 hc0
 have H : (if (l0.length : Int) > 60 then (some false) else (rootcellarlaw13_shortSteps.l0 k l0 0)) = some r := h
 clear h
 by_cases c2 : (l0.length : Int) > 60
 ·rw [if_pos c2] at H
  have c2b0 : decide (60 < (l0.length : Int)) = true := decide_eq_true c2
  have c2b1 : decide (60 < l0.length) = true := decide_eq_true (by omega)
  clear c2
  obtain rfl := Option.some.inj H
  go_enter Tryd.func32, Tryd.ntmps32
  go_wp2
  go_ret
  exact ⟨by first | rfl | (simp; done) | (simp [*]; done), by repeat (first | exact Drawn0.refl _ | apply Drawn0.step)⟩
 ·rw [if_neg c2] at H
  have c2b0 : decide (60 < (l0.length : Int)) = false := decide_eq_false c2
  have c2b1 : decide (60 < l0.length) = false := decide_eq_false (by omega)
  clear c2
  have H' := Aside0.mk H
  clear H
  go_enter Tryd.func32, Tryd.ntmps32
  go_wp2
  go_loopg [3] k (fun kq v3 w' => ∃ (x3_1 : Int), v3 = .int .i64 x3_1 ∧ Aside0 (rootcellarlaw13_shortSteps.l0 kq l0 x3_1 = some r) ∧ Aside0 (kq ≤ k) ∧ Drawn0 w w')
  case atStart => exact ⟨(0), (by first | rfl | (simp; done) | (simp [*]; done)), H', ⟨Nat.le_refl _⟩, by repeat (first | exact Drawn0.refl _ | apply Drawn0.step)⟩
  case round =>
   clear H'
   try clear c2
   try clear c2b0
   try clear c2b1
   try clear p2
   obtain ⟨x3_1, rfl, HA, HK1, ⟨m1, rfl⟩⟩ := hrel
   cases gk with
   | zero => exact absurd HA.out (by simp [rootcellarlaw13_shortSteps.l0])
   | succ k1 =>
    have H := HA.out
    clear HA
    simp only [rootcellarlaw13_shortSteps.l0] at H
    by_cases c3 : x3_1 < (l0.length : Int)
    ·rw [if_pos c3] at H
     have c3b0 : decide (x3_1 < (l0.length : Int)) = true := decide_eq_true c3
     clear c3
     by_cases c4 : 0 ≤ x3_1
     ·rw [if_pos c4] at H
      have c4b0 : decide (0 ≤ x3_1) = true := decide_eq_true c4
      clear c4
      by_cases c5 : (((rd_T24 l0 x3_1).f4).size : Int) > 200
      ·rw [if_pos c5] at H
       have c5b0 : decide (200 < (((rd_T24 l0 x3_1).f4).size : Int)) = true := decide_eq_true c5
       have c5b1 : decide (200 < ((rd_T24 l0 x3_1).f4).size) = true := decide_eq_true (by omega)
       clear c5
       obtain rfl := Option.some.inj H
       have p201 : 0 ≤ (x3_1 : Int) := of_decide_eq_true (by first | (with_reducible assumption) | assumption)
       have q201 : x3_1 < (l0.length : Int) := of_decide_eq_true (by first | (with_reducible assumption) | assumption)
       obtain ⟨ad201, e201, hx201_0, hx201_1, hx201_2, hx201_3, hx201_4⟩ := at_T24 HR0.out x3_1 p201 q201
       cases e201
       replace p201 := eq_true p201
       replace q201 := eq_true q201
       go_wp2
       go_ret
       exact ⟨by first | rfl | (simp; done) | (simp [*]; done), by repeat (first | exact Drawn0.refl _ | apply Drawn0.step)⟩
      ·rw [if_neg c5] at H
       have c5b0 : decide (200 < (((rd_T24 l0 x3_1).f4).size : Int)) = false := decide_eq_false c5
       have c5b1 : decide (200 < ((rd_T24 l0 x3_1).f4).size) = false := decide_eq_false (by omega)
       clear c5
       have H' := Aside0.mk H
       clear H
       have p201 : 0 ≤ (x3_1 : Int) := of_decide_eq_true (by first | (with_reducible assumption) | assumption)
       have q201 : x3_1 < (l0.length : Int) := of_decide_eq_true (by first | (with_reducible assumption) | assumption)
       obtain ⟨ad201, e201, hx201_0, hx201_1, hx201_2, hx201_3, hx201_4⟩ := at_T24 HR0.out x3_1 p201 q201
       cases e201
       replace p201 := eq_true p201
       replace q201 := eq_true q201
       go_wp2
       go_roundg k1
       case measure => have := HK1.out; omega
       case rel => exact ⟨(wrap64 (x3_1 + 1)), (by first | rfl | (simp; done) | (simp [*]; done)), H', ⟨by have := HK1.out; omega⟩, by repeat (first | exact Drawn0.refl _ | apply Drawn0.step)⟩
     ·rw [if_neg c4] at H
      exact absurd H (by simp)
    ·rw [if_neg c3] at H
     have c3b0 : decide (x3_1 < (l0.length : Int)) = false := decide_eq_false c3
     clear c3
     obtain rfl := Option.some.inj H
     go_wp2
     go_ret
     exact ⟨by first | rfl | (simp; done) | (simp [*]; done), by repeat (first | exact Drawn0.refl _ | apply Drawn0.step)⟩
def rootcellarlaw13_short.l0 : Nat → List (List (S24)) → Int → Option (Bool)
 | 0, _, _ => none
 | k + 1, x0, x3 => if x3 < (x0.length : Int) then (if 0 ≤ x3 then ((rootcellarlaw13_shortSteps.f k (rd_L4 x0 x3)).bind fun t203 => (if t203 = true then (if ((rd_L4 x0 x3).length : Int) > 12 then (some false) else (rootcellarlaw13_short.l0 k x0 (wrap64 (x3 + 1)))) else (some false))) else (none)) else (some true)
def rootcellarlaw13_short.f (k : Nat) (l0 : List (List (S24))) : Option (Bool) := if (l0.length : Int) > 12 then (some false) else (rootcellarlaw13_short.l0 k l0 0)
set_option maxHeartbeats 8000000 in
set_option maxRecDepth 100000 in
theorem rootcellarlaw13_short.calls (k : Nat) (A0 : Option Addr) (c0 : Nat) (l0 : List (List (S24))) (r : Bool) (w : World) (hr0 : Kd.C (Kd.slice 24 k24) w A0 l0.length l0) (hc0 : l0.length ≤ c0) (h : rootcellarlaw13_short.f k l0 = some r) :
  Calls Tryd.prog 33 #[.slice A0 l0.length c0] w fun e w' => e = .returned (.bool r) ∧ Drawn0 w w' := by
 have HR0 := Aside0.mk hr0
 have HC0 := Aside0.mk hc0
 clear hr0 hc0
 have H : (if (l0.length : Int) > 12 then (some false) else (rootcellarlaw13_short.l0 k l0 0)) = some r := h
 clear h
 by_cases c2 : (l0.length : Int) > 12
 ·rw [if_pos c2] at H
  have c2b0 : decide (12 < (l0.length : Int)) = true := decide_eq_true c2
  have c2b1 : decide (12 < l0.length) = true := decide_eq_true (by omega)
  clear c2
  obtain rfl := Option.some.inj H
  go_enter Tryd.func33, Tryd.ntmps33
  go_wp2
  go_ret
  exact ⟨by first | rfl | (simp; done) | (simp [*]; done), by repeat (first | exact Drawn0.refl _ | apply Drawn0.step)⟩
 ·rw [if_neg c2] at H
  have c2b0 : decide (12 < (l0.length : Int)) = false := decide_eq_false c2
  have c2b1 : decide (12 < l0.length) = false := decide_eq_false (by omega)
  clear c2
  have H' := Aside0.mk H
  clear H
  go_enter Tryd.func33, Tryd.ntmps33
  go_wp2
  go_loopg [3] k (fun kq v3 w' => ∃ (x3_1 : Int), v3 = .int .i64 x3_1 ∧ Aside0 (rootcellarlaw13_short.l0 kq l0 x3_1 = some r) ∧ Aside0 (kq ≤ k) ∧ Drawn0 w w')
  case atStart => exact ⟨(0), (by first | rfl | (simp; done) | (simp [*]; done)), H', ⟨Nat.le_refl _⟩, by repeat (first | exact Drawn0.refl _ | apply Drawn0.step)⟩
  case round =>
   clear H'
   try clear c2
   try clear c2b0
   try clear c2b1
   try clear p2
   obtain ⟨x3_1, rfl, HA, HK1, ⟨m1, rfl⟩⟩ := hrel
   cases gk with
   | zero => exact absurd HA.out (by simp [rootcellarlaw13_short.l0])
   | succ k1 =>
    have H := HA.out
    clear HA
    simp only [rootcellarlaw13_short.l0] at H
    by_cases c3 : x3_1 < (l0.length : Int)
    ·rw [if_pos c3] at H
     have c3b0 : decide (x3_1 < (l0.length : Int)) = true := decide_eq_true c3
     clear c3
     by_cases c4 : 0 ≤ x3_1
     ·rw [if_pos c4] at H
      have c4b0 : decide (0 ≤ x3_1) = true := decide_eq_true c4
      clear c4
      replace H := Option.bind_eq_some_iff.mp H
      obtain ⟨t203, A50, H⟩ := H
      replace H : (if t203 = true then (if ((rd_L4 l0 x3_1).length : Int) > 12 then (some false) else (rootcellarlaw13_short.l0 k1 l0 (wrap64 (x3_1 + 1)))) else (some false)) = some r := H
      have A5 := Aside0.mk A50
      clear A50
      by_cases c6 : t203 = true
      ·subst c6
       have H1 : (if ((rd_L4 l0 x3_1).length : Int) > 12 then (some false) else (rootcellarlaw13_short.l0 k1 l0 (wrap64 (x3_1 + 1)))) = some r := by rw [if_pos rfl] at H; exact H
       clear H
       have H := H1
       clear H1
       by_cases c7 : ((rd_L4 l0 x3_1).length : Int) > 12
       ·rw [if_pos c7] at H
        have c7b0 : decide (12 < ((rd_L4 l0 x3_1).length : Int)) = true := decide_eq_true c7
        have c7b1 : decide (12 < (rd_L4 l0 x3_1).length) = true := decide_eq_true (by omega)
        clear c7
        obtain rfl := Option.some.inj H
        have p202 : 0 ≤ (x3_1 : Int) := of_decide_eq_true (by first | (with_reducible assumption) | assumption)
        have q202 : x3_1 < (l0.length : Int) := of_decide_eq_true (by first | (with_reducible assumption) | assumption)
        obtain ⟨ad202, A202_0, c202_0, e202, hx202_0, hl202_0, hi202_0⟩ := at_L4 HR0.out x3_1 p202 q202
        cases e202
        have HR202_0 := Aside0.mk hi202_0
        have HC202_0 := Aside0.mk hl202_0
        clear hi202_0 hl202_0
        replace p202 := eq_true p202
        replace q202 := eq_true q202
        go_wp2_with (first | ((with_reducible refine gate_callee (f := 32) rfl ?_); refine goesL_ (some 18) rfl rfl Tryd.func32 (by kernel_rfl) rfl #[.slice A202_0 (rd_L4 l0 x3_1).length c202_0] rfl (by (try simp only [List.map_toArray, List.map_cons, List.map_nil]); first | done | rfl | (simp only [List.length_drop, List.length_take]; rfl) | (rw [wrap_sum2 (by assumption)]; rfl)) ?_; (with_reducible refine (rootcellarlaw13_shortSteps.calls k1 _ _ (rd_L4 l0 x3_1) true _ ?side1 ?side2 A5.out).mono ?_); (case side1 => repeat (first | exact HR202_0.out | (with_reducible refine Kd.C_alloc ?_ _) | (with_reducible refine Kd.C_drewN ?_ _) | (with_reducible refine Kd.C_drew ?_))); (case side2 => exact HC202_0.out); rintro e w' ⟨rfl, ⟨nd, rfl⟩⟩; refine ⟨_, rfl, ?_⟩; have p204 : 0 ≤ (x3_1 : Int) := of_decide_eq_true (by first | (with_reducible assumption) | assumption); have q204 : x3_1 < (l0.length : Int) := of_decide_eq_true (by first | (with_reducible assumption) | assumption); obtain ⟨ad204, A204_0, c204_0, e204, hx204_0, hl204_0, hi204_0⟩ := at_L4 HR0.out x3_1 p204 q204; obtain rfl : ad202 = ad204 := (by injection e204); have HR204_0 := Aside0.mk hi204_0; have HC204_0 := Aside0.mk hl204_0; clear hi204_0 hl204_0; replace p204 := eq_true p204; replace q204 := eq_true q204; have ea_ := Option.some.inj (hx202_0.symm.trans hx204_0); injection ea_ with ea_ en_ ec_; subst ea_; subst ec_; clear en_))
        go_ret
        exact ⟨by first | rfl | (simp; done) | (simp [*]; done), by repeat (first | exact Drawn0.refl _ | apply Drawn0.step)⟩
       ·rw [if_neg c7] at H
        have c7b0 : decide (12 < ((rd_L4 l0 x3_1).length : Int)) = false := decide_eq_false c7
        have c7b1 : decide (12 < (rd_L4 l0 x3_1).length) = false := decide_eq_false (by omega)
        clear c7
        have H' := Aside0.mk H
        clear H
        have p202 : 0 ≤ (x3_1 : Int) := of_decide_eq_true (by first | (with_reducible assumption) | assumption)
        have q202 : x3_1 < (l0.length : Int) := of_decide_eq_true (by first | (with_reducible assumption) | assumption)
        obtain ⟨ad202, A202_0, c202_0, e202, hx202_0, hl202_0, hi202_0⟩ := at_L4 HR0.out x3_1 p202 q202
        cases e202
        have HR202_0 := Aside0.mk hi202_0
        have HC202_0 := Aside0.mk hl202_0
        clear hi202_0 hl202_0
        replace p202 := eq_true p202
        replace q202 := eq_true q202
        go_wp2_with (first | ((with_reducible refine gate_callee (f := 32) rfl ?_); refine goesL_ (some 18) rfl rfl Tryd.func32 (by kernel_rfl) rfl #[.slice A202_0 (rd_L4 l0 x3_1).length c202_0] rfl (by (try simp only [List.map_toArray, List.map_cons, List.map_nil]); first | done | rfl | (simp only [List.length_drop, List.length_take]; rfl) | (rw [wrap_sum2 (by assumption)]; rfl)) ?_; (with_reducible refine (rootcellarlaw13_shortSteps.calls k1 _ _ (rd_L4 l0 x3_1) true _ ?side1 ?side2 A5.out).mono ?_); (case side1 => repeat (first | exact HR202_0.out | (with_reducible refine Kd.C_alloc ?_ _) | (with_reducible refine Kd.C_drewN ?_ _) | (with_reducible refine Kd.C_drew ?_))); (case side2 => exact HC202_0.out); rintro e w' ⟨rfl, ⟨nd, rfl⟩⟩; refine ⟨_, rfl, ?_⟩; have p204 : 0 ≤ (x3_1 : Int) := of_decide_eq_true (by first | (with_reducible assumption) | assumption); have q204 : x3_1 < (l0.length : Int) := of_decide_eq_true (by first | (with_reducible assumption) | assumption); obtain ⟨ad204, A204_0, c204_0, e204, hx204_0, hl204_0, hi204_0⟩ := at_L4 HR0.out x3_1 p204 q204; obtain rfl : ad202 = ad204 := (by injection e204); have HR204_0 := Aside0.mk hi204_0; have HC204_0 := Aside0.mk hl204_0; clear hi204_0 hl204_0; replace p204 := eq_true p204; replace q204 := eq_true q204; have ea_ := Option.some.inj (hx202_0.symm.trans hx204_0); injection ea_ with ea_ en_ ec_; subst ea_; subst ec_; clear en_))
        go_roundg k1
        case measure => have := HK1.out; omega
        case rel => exact ⟨(wrap64 (x3_1 + 1)), (by first | rfl | (simp; done) | (simp [*]; done)), H', ⟨by have := HK1.out; omega⟩, by repeat (first | exact Drawn0.refl _ | apply Drawn0.step)⟩
      ·replace c6 := Bool.eq_false_iff.mpr c6
       subst c6
       have H1 : (some false) = some r := by rw [if_neg (show ¬ (false = true) by decide)] at H; exact H
       clear H
       have H := H1
       clear H1
       obtain rfl := Option.some.inj H
       have p202 : 0 ≤ (x3_1 : Int) := of_decide_eq_true (by first | (with_reducible assumption) | assumption)
       have q202 : x3_1 < (l0.length : Int) := of_decide_eq_true (by first | (with_reducible assumption) | assumption)
       obtain ⟨ad202, A202_0, c202_0, e202, hx202_0, hl202_0, hi202_0⟩ := at_L4 HR0.out x3_1 p202 q202
       cases e202
       have HR202_0 := Aside0.mk hi202_0
       have HC202_0 := Aside0.mk hl202_0
       clear hi202_0 hl202_0
       replace p202 := eq_true p202
       replace q202 := eq_true q202
       go_wp2_with (first | ((with_reducible refine gate_callee (f := 32) rfl ?_); refine goesL_ (some 18) rfl rfl Tryd.func32 (by kernel_rfl) rfl #[.slice A202_0 (rd_L4 l0 x3_1).length c202_0] rfl (by (try simp only [List.map_toArray, List.map_cons, List.map_nil]); first | done | rfl | (simp only [List.length_drop, List.length_take]; rfl) | (rw [wrap_sum2 (by assumption)]; rfl)) ?_; (with_reducible refine (rootcellarlaw13_shortSteps.calls k1 _ _ (rd_L4 l0 x3_1) false _ ?side1 ?side2 A5.out).mono ?_); (case side1 => repeat (first | exact HR202_0.out | (with_reducible refine Kd.C_alloc ?_ _) | (with_reducible refine Kd.C_drewN ?_ _) | (with_reducible refine Kd.C_drew ?_))); (case side2 => exact HC202_0.out); rintro e w' ⟨rfl, ⟨nd, rfl⟩⟩; refine ⟨_, rfl, ?_⟩))
       go_ret
       exact ⟨by first | rfl | (simp; done) | (simp [*]; done), by repeat (first | exact Drawn0.refl _ | apply Drawn0.step)⟩
     ·rw [if_neg c4] at H
      exact absurd H (by simp)
    ·rw [if_neg c3] at H
     have c3b0 : decide (x3_1 < (l0.length : Int)) = false := decide_eq_false c3
     clear c3
     obtain rfl := Option.some.inj H
     go_wp2
     go_ret
     exact ⟨by first | rfl | (simp; done) | (simp [*]; done), by repeat (first | exact Drawn0.refl _ | apply Drawn0.step)⟩
def rootcellarlaw13_shown.f (k : Nat)  : Option (Bool) := (journal_New.f k 5 (([(⟨3, 1, 0, 0, (⟨#[]⟩ : ByteArray)⟩ : S24)] : List (S24)))).bind fun bt170 => ((journal_Add.f k bt170.1 bt170.2.1 bt170.2.2.1 (([(⟨3, 2, 0, 0, (⟨#[]⟩ : ByteArray)⟩ : S24)] : List (S24)))).bind fun bt180 => ((journal_Add.f k bt180.1 bt180.2.1 bt180.2.2.1 (([(⟨3, 3, 0, 0, (⟨#[]⟩ : ByteArray)⟩ : S24)] : List (S24)))).bind fun bt190 => ((journal_After.f k bt190.1 bt190.2.1 bt190.2.2.1 6).bind fun t197 => (if bt170.2.2.2 = 0 then (if bt180.2.2.2 = 0 then (if bt190.2.2.2 = 0 then (if bt190.1 = 7 then (if (t197.length : Int) = 1 then (if 0 < (t197.length : Int) then (some (((rd_T24 t197 0).f1) == 3)) else (none)) else (none)) else (none)) else (none)) else (none)) else (none)))))
set_option maxHeartbeats 8000000 in
set_option maxRecDepth 100000 in
theorem rootcellarlaw13_shown.calls (k : Nat)  (r : Bool) (w : World) (h : rootcellarlaw13_shown.f k  = some r) (HT : Tabs w) :
  Calls Tryd.prog 31 #[] w fun e w' => e = .returned (.bool r) ∧ Below w.heap.size w w' := by
 have hu24 := Tryd.underlying24
 have hu66 := Tryd.underlying66
 have HB := Aside0.mk (Below.refl w.heap.size w)
 have H : ((journal_New.f k 5 (([(⟨3, 1, 0, 0, (⟨#[]⟩ : ByteArray)⟩ : S24)] : List (S24)))).bind fun bt170 => ((journal_Add.f k bt170.1 bt170.2.1 bt170.2.2.1 (([(⟨3, 2, 0, 0, (⟨#[]⟩ : ByteArray)⟩ : S24)] : List (S24)))).bind fun bt180 => ((journal_Add.f k bt180.1 bt180.2.1 bt180.2.2.1 (([(⟨3, 3, 0, 0, (⟨#[]⟩ : ByteArray)⟩ : S24)] : List (S24)))).bind fun bt190 => ((journal_After.f k bt190.1 bt190.2.1 bt190.2.2.1 6).bind fun t197 => (if bt170.2.2.2 = 0 then (if bt180.2.2.2 = 0 then (if bt190.2.2.2 = 0 then (if bt190.1 = 7 then (if (t197.length : Int) = 1 then (if 0 < (t197.length : Int) then (some (((rd_T24 t197 0).f1) == 3)) else (none)) else (none)) else (none)) else (none)) else (none)) else (none)))))) = some r := h
 clear h
 obtain ⟨y167, hy167⟩ : ∃ y_ : List (S24), y_ = (([(⟨3, 1, 0, 0, (⟨#[]⟩ : ByteArray)⟩ : S24)] : List (S24))) := ⟨_, rfl⟩
 replace H : ((journal_New.f k 5 y167).bind fun bt170 => ((journal_Add.f k bt170.1 bt170.2.1 bt170.2.2.1 (([(⟨3, 2, 0, 0, (⟨#[]⟩ : ByteArray)⟩ : S24)] : List (S24)))).bind fun bt180 => ((journal_Add.f k bt180.1 bt180.2.1 bt180.2.2.1 (([(⟨3, 3, 0, 0, (⟨#[]⟩ : ByteArray)⟩ : S24)] : List (S24)))).bind fun bt190 => ((journal_After.f k bt190.1 bt190.2.1 bt190.2.2.1 6).bind fun t197 => (if bt170.2.2.2 = 0 then (if bt180.2.2.2 = 0 then (if bt190.2.2.2 = 0 then (if bt190.1 = 7 then (if (t197.length : Int) = 1 then (if 0 < (t197.length : Int) then (some (((rd_T24 t197 0).f1) == 3)) else (none)) else (none)) else (none)) else (none)) else (none)) else (none)))))) = some r := by first | (rw [hy167]; with_reducible exact H) | (have H2_ := (Option.bind_some _ _).symm.trans H; rw [hy167]; with_reducible exact H2_) | (have H2_ := (Option.bind_some _ _).symm.trans H; with_reducible exact H2_) | with_reducible exact H | (rw [hy167]; exact H) | exact H
 have Ny167 := Aside0.mk hy167
 clear hy167
 replace H := Option.bind_eq_some_iff.mp H
 obtain ⟨⟨t170, t171, t174, t175⟩, A10, H⟩ := H
 replace H : ((journal_Add.f k t170 t171 t174 (([(⟨3, 2, 0, 0, (⟨#[]⟩ : ByteArray)⟩ : S24)] : List (S24)))).bind fun bt180 => ((journal_Add.f k bt180.1 bt180.2.1 bt180.2.2.1 (([(⟨3, 3, 0, 0, (⟨#[]⟩ : ByteArray)⟩ : S24)] : List (S24)))).bind fun bt190 => ((journal_After.f k bt190.1 bt190.2.1 bt190.2.2.1 6).bind fun t197 => (if t175 = 0 then (if bt180.2.2.2 = 0 then (if bt190.2.2.2 = 0 then (if bt190.1 = 7 then (if (t197.length : Int) = 1 then (if 0 < (t197.length : Int) then (some (((rd_T24 t197 0).f1) == 3)) else (none)) else (none)) else (none)) else (none)) else (none)) else (none))))) = some r := H
 have A1 := Aside0.mk A10
 clear A10
 obtain ⟨y177, hy177⟩ : ∃ y_ : List (S24), y_ = (([(⟨3, 2, 0, 0, (⟨#[]⟩ : ByteArray)⟩ : S24)] : List (S24))) := ⟨_, rfl⟩
 replace H : ((journal_Add.f k t170 t171 t174 y177).bind fun bt180 => ((journal_Add.f k bt180.1 bt180.2.1 bt180.2.2.1 (([(⟨3, 3, 0, 0, (⟨#[]⟩ : ByteArray)⟩ : S24)] : List (S24)))).bind fun bt190 => ((journal_After.f k bt190.1 bt190.2.1 bt190.2.2.1 6).bind fun t197 => (if t175 = 0 then (if bt180.2.2.2 = 0 then (if bt190.2.2.2 = 0 then (if bt190.1 = 7 then (if (t197.length : Int) = 1 then (if 0 < (t197.length : Int) then (some (((rd_T24 t197 0).f1) == 3)) else (none)) else (none)) else (none)) else (none)) else (none)) else (none))))) = some r := by first | (rw [hy177]; with_reducible exact H) | (have H2_ := (Option.bind_some _ _).symm.trans H; rw [hy177]; with_reducible exact H2_) | (have H2_ := (Option.bind_some _ _).symm.trans H; with_reducible exact H2_) | with_reducible exact H | (rw [hy177]; exact H) | exact H
 have Ny177 := Aside0.mk hy177
 clear hy177
 replace H := Option.bind_eq_some_iff.mp H
 obtain ⟨⟨t180, t181, t184, t185⟩, A20, H⟩ := H
 replace H : ((journal_Add.f k t180 t181 t184 (([(⟨3, 3, 0, 0, (⟨#[]⟩ : ByteArray)⟩ : S24)] : List (S24)))).bind fun bt190 => ((journal_After.f k bt190.1 bt190.2.1 bt190.2.2.1 6).bind fun t197 => (if t175 = 0 then (if t185 = 0 then (if bt190.2.2.2 = 0 then (if bt190.1 = 7 then (if (t197.length : Int) = 1 then (if 0 < (t197.length : Int) then (some (((rd_T24 t197 0).f1) == 3)) else (none)) else (none)) else (none)) else (none)) else (none)) else (none)))) = some r := H
 have A2 := Aside0.mk A20
 clear A20
 obtain ⟨y187, hy187⟩ : ∃ y_ : List (S24), y_ = (([(⟨3, 3, 0, 0, (⟨#[]⟩ : ByteArray)⟩ : S24)] : List (S24))) := ⟨_, rfl⟩
 replace H : ((journal_Add.f k t180 t181 t184 y187).bind fun bt190 => ((journal_After.f k bt190.1 bt190.2.1 bt190.2.2.1 6).bind fun t197 => (if t175 = 0 then (if t185 = 0 then (if bt190.2.2.2 = 0 then (if bt190.1 = 7 then (if (t197.length : Int) = 1 then (if 0 < (t197.length : Int) then (some (((rd_T24 t197 0).f1) == 3)) else (none)) else (none)) else (none)) else (none)) else (none)) else (none)))) = some r := by first | (rw [hy187]; with_reducible exact H) | (have H2_ := (Option.bind_some _ _).symm.trans H; rw [hy187]; with_reducible exact H2_) | (have H2_ := (Option.bind_some _ _).symm.trans H; with_reducible exact H2_) | with_reducible exact H | (rw [hy187]; exact H) | exact H
 have Ny187 := Aside0.mk hy187
 clear hy187
 replace H := Option.bind_eq_some_iff.mp H
 obtain ⟨⟨t190, t191, t194, t195⟩, A30, H⟩ := H
 replace H : ((journal_After.f k t190 t191 t194 6).bind fun t197 => (if t175 = 0 then (if t185 = 0 then (if t195 = 0 then (if t190 = 7 then (if (t197.length : Int) = 1 then (if 0 < (t197.length : Int) then (some (((rd_T24 t197 0).f1) == 3)) else (none)) else (none)) else (none)) else (none)) else (none)) else (none))) = some r := H
 have A3 := Aside0.mk A30
 clear A30
 replace H := Option.bind_eq_some_iff.mp H
 obtain ⟨t197, A40, H⟩ := H
 replace H : (if t175 = 0 then (if t185 = 0 then (if t195 = 0 then (if t190 = 7 then (if (t197.length : Int) = 1 then (if 0 < (t197.length : Int) then (some (((rd_T24 t197 0).f1) == 3)) else (none)) else (none)) else (none)) else (none)) else (none)) else (none)) = some r := H
 have A4 := Aside0.mk A40
 clear A40
 by_cases c5 : t175 = 0
 ·rw [if_pos c5] at H
  have c5b0 : (t175 == 0) = true := beq_iff_eq.mpr c5
  have c5b1 : (t175 != 0) = false := bne_eq_false_iff_eq.mpr c5
  clear c5
  by_cases c6 : t185 = 0
  ·rw [if_pos c6] at H
   have c6b0 : (t185 == 0) = true := beq_iff_eq.mpr c6
   have c6b1 : (t185 != 0) = false := bne_eq_false_iff_eq.mpr c6
   clear c6
   by_cases c7 : t195 = 0
   ·rw [if_pos c7] at H
    have c7b0 : (t195 == 0) = true := beq_iff_eq.mpr c7
    have c7b1 : (t195 != 0) = false := bne_eq_false_iff_eq.mpr c7
    clear c7
    by_cases c8 : t190 = 7
    ·rw [if_pos c8] at H
     have c8b0 : (t190 == 7) = true := beq_iff_eq.mpr c8
     have c8b1 : (t190 != 7) = false := bne_eq_false_iff_eq.mpr c8
     clear c8
     by_cases c9 : (t197.length : Int) = 1
     ·rw [if_pos c9] at H
      have c9b0 : ((t197.length : Int) == 1) = true := beq_iff_eq.mpr c9
      have c9b1 : ((t197.length : Int) != 1) = false := bne_eq_false_iff_eq.mpr c9
      clear c9
      by_cases c10 : 0 < (t197.length : Int)
      ·rw [if_pos c10] at H
       have c10b0 : decide (0 < (t197.length : Int)) = true := decide_eq_true c10
       have c10b1 : decide (0 < t197.length) = true := decide_eq_true (by omega)
       clear c10
       obtain rfl := Option.some.inj H
       go_enter Tryd.func31, Tryd.ntmps31
       go_wp2_with (first | ((with_reducible refine gate_dst (N := 10) rfl ?_); (try (refine gate_guard (by rfl) ?_; dsimp only)); refine Kd.R_lit k24 _ 24 ?hg (N := 10) ?hd (xs := ([(⟨3, 1, 0, 0, (⟨#[]⟩ : ByteArray)⟩ : S24)] : List (S24))) (inner := [.int .i64 3, .int .i64 1, .int .i64 0, .int .u64 0, .string (⟨#[]⟩ : ByteArray)]) (ok := fun _ => True) (okp := fun _ => True) ?hr ?hp (fun _ hk => hk) trivial (Below.refl _ _) (Nat.le_refl _) (by simp) ?_; (case hd => rfl); (case hg => rfl); (case hr => first | (go_simp; done) | (go_simp; rfl)); (case hp => exact (Reps.c5 (show Kd.M k24 _ _ _ (⟨3, 1, 0, 0, (⟨#[]⟩ : ByteArray)⟩ : S24) [.int .i64 3, .int .i64 1, .int .i64 0, .int .u64 0, .string (⟨#[]⟩ : ByteArray)] from (k24_mkM _ _ _ (⟨3, 1, 0, 0, (⟨#[]⟩ : ByteArray)⟩ : S24) )) (Reps.none _ _))); intro v168 w11 ho12 hb hg_ hnew_; clear hg_ hnew_; (first | rw [← Ny167.out] at ho12 | (simp only [Int.reduceToNat] at ho12; rw [← Ny167.out] at ho12)); have n0_ := Aside0.mk (Kd.R_lower ho12 (below_size below_any)); have n1_ := Aside0.mk (below_step below_any hb); clear HB; have HO169 := n0_; have HB := n1_; clear n0_ n1_; clear hb ho12; obtain ⟨Ao13, co13, eo13⟩ := Kd.R_slice HO169.out; subst eo13) | ((with_reducible refine gate_callee (f := 38) rfl ?_); refine goesL_ (some 11) rfl rfl Tryd.func38 (by kernel_rfl) rfl #[.int .u64 5, .slice Ao13 y167.length co13] rfl (by (try simp only [List.map_toArray, List.map_cons, List.map_nil]); first | done | rfl | (simp only [List.length_drop, List.length_take]; rfl) | (rw [wrap_sum2 (by assumption)]; rfl)) ?_; (with_reducible refine (journal_New.calls k 5 _ _ y167 t170 t171 t174 t175 _ ?side1 ?side2 A1.out (HT.below below_any)).mono ?_); (case side1 => repeat (first | exact (Kd.R_reads' HO169.out).2.2 | (with_reducible refine Kd.C_alloc ?_ _) | (with_reducible refine Kd.C_drewN ?_ _) | (with_reducible refine Kd.C_drew ?_))); (case side2 => exact (Kd.R_reads' HO169.out).2.1); rintro e w14 ⟨v172, rfl, ho0, hb⟩; refine ⟨_, rfl, ?_⟩; have n0_ := Aside0.mk (Kd.R_below (by exact Kd.R_to HO169.out) hb); have n1_ := Aside0.mk (Kd.N_lower (Kd.N_mono (ok' := fun k_ => some k_ ≠ (.slice Ao13 y167.length co13 : Value).ownBlock) ho0 (fun k_ hk_ => (Kd.fresh' (Kd.R_lt (by exact Kd.R_to HO169.out)) k_ hk_))) (below_size below_any)); have n2_ := Aside0.mk (below_step below_any hb); clear HO169; clear HB; have HO169 := n0_; have HO173 := n1_; have HB := n2_; clear n0_ n1_ n2_; (try clear hb); (try clear hb2); (try clear hk); (try clear hi); (try clear ho0)) | ((with_reducible refine gate_dst (N := 1) rfl ?_); (try (refine gate_guard (by rfl) ?_; dsimp only)); refine box_event ?hg (N := 1) ?hd (cs := #[.int .u64 0, .slice none 0 0, .string (⟨#[]⟩ : ByteArray)]) (t := 66) ?hr ?_; (case hd => rfl); (case hg => rfl); (case hr => first | (go_simp; done) | (go_simp; rfl)); intro gb176 hg w15 hbox hb; have n0_ := Aside0.mk (Kd.R_below (by exact Kd.R_to HO169.out) hb); have n1_ := Aside0.mk (Kd.N_below (Kd.N_elderB (by exact Kd.N_to HO173.out) gb176 (Nat.le_of_eq hg.symm)) hb); have n2_ := Aside0.mk (below_step below_any hb); have n3_ := Aside0.mk (hbox); have n4_ := Aside0.mk ((by rw [hg]; exact (below_size below_any) : w.heap.size ≤ gb176)); have n5_ := n4_; clear HO169; clear HO173; clear HB; have HO169 := n0_; have HO173 := n1_; have HB := n2_; have BK176 := n3_; have GW176 := n4_; have GE176 := n5_; clear n0_ n1_ n2_ n3_ n4_ n5_; clear hb hbox hg; have hcz16_0 : w15.cell? ⟨gb176, 0, none⟩ = some (.int .u64 0) := (blk_cell BK176.out 0).trans rfl; have hcz16_1 : w15.cell? ⟨gb176, 1, none⟩ = some (.slice none 0 0) := (blk_cell BK176.out 1).trans rfl; have hcz16_2 : w15.cell? ⟨gb176, 2, none⟩ = some (.string (⟨#[]⟩ : ByteArray)) := (blk_cell BK176.out 2).trans rfl; have hfz16_0 := blk_frozen BK176.out 0; have hfz16_1 := blk_frozen BK176.out 1; have hfz16_2 := blk_frozen BK176.out 2; obtain ⟨Ao17, co17, eo17⟩ := Kd.N_slice HO173.out; subst eo17) | ((with_reducible refine gate_dst (N := 17) rfl ?_); (try (refine gate_guard (by rfl) ?_; dsimp only)); refine Kd.R_lit k24 _ 24 ?hg (N := 17) ?hd (xs := ([(⟨3, 2, 0, 0, (⟨#[]⟩ : ByteArray)⟩ : S24)] : List (S24))) (inner := [.int .i64 3, .int .i64 2, .int .i64 0, .int .u64 0, .string (⟨#[]⟩ : ByteArray)]) (ok := fun _ => True) (okp := fun _ => True) ?hr ?hp (fun _ hk => hk) trivial (Below.refl _ _) (Nat.le_refl _) (by simp) ?_; (case hd => rfl); (case hg => rfl); (case hr => first | (go_simp; done) | (go_simp; rfl)); (case hp => exact (Reps.c5 (show Kd.M k24 _ _ _ (⟨3, 2, 0, 0, (⟨#[]⟩ : ByteArray)⟩ : S24) [.int .i64 3, .int .i64 2, .int .i64 0, .int .u64 0, .string (⟨#[]⟩ : ByteArray)] from (k24_mkM _ _ _ (⟨3, 2, 0, 0, (⟨#[]⟩ : ByteArray)⟩ : S24) )) (Reps.none _ _))); intro v178 w18 ho19 hb hg_ hnew_; clear hg_ hnew_; (first | rw [← Ny177.out] at ho19 | (simp only [Int.reduceToNat] at ho19; rw [← Ny177.out] at ho19)); have n0_ := Aside0.mk (Kd.R_elder' (by apply Kd.R_to; exact (Kd.R_mono (Kd.R_far (p := ⟨gb176, 2, none⟩) (Kd.R_far (p := ⟨gb176, 1, none⟩) (Kd.R_far (p := ⟨gb176, 0, none⟩) (Kd.R_types HO169.out BK176.out (by decide)) (fun _ hk => hk.2) (.int .u64 t170)) (fun _ hk => hk.2) (.slice Ao17 t171.length co17)) (fun _ hk => hk.2) (.string t174)) (fun _ h_ => h_.1))) (Kd.R_base ho19) hb); have n1_ := Aside0.mk (Kd.N_elder' (by apply Kd.N_to; exact (Kd.N_mono (Kd.N_far (p := ⟨gb176, 2, none⟩) (Kd.N_far (p := ⟨gb176, 1, none⟩) (Kd.N_far (p := ⟨gb176, 0, none⟩) (Kd.N_mono HO173.out (fun k_ hk => (⟨hk, hk.2⟩ : _ ∧ k_ ≠ gb176))) (fun _ hk => hk.2) (.int .u64 t170)) (fun _ hk => hk.2) (.slice Ao17 t171.length co17)) (fun _ hk => hk.2) (.string t174)) (fun _ h_ => h_.1))) (Kd.R_base ho19) hb); have n2_ := Aside0.mk (Kd.R_lower (Kd.R_new' ho19 (Kd.R_lt (by apply Kd.R_to; exact (Kd.R_mono (Kd.R_far (p := ⟨gb176, 2, none⟩) (Kd.R_far (p := ⟨gb176, 1, none⟩) (Kd.R_far (p := ⟨gb176, 0, none⟩) (Kd.R_types HO169.out BK176.out (by decide)) (fun _ hk => hk.2) (.int .u64 t170)) (fun _ hk => hk.2) (.slice Ao17 t171.length co17)) (fun _ hk => hk.2) (.string t174)) (fun _ h_ => h_.1))))) (below_size below_any)); have n3_ := Aside0.mk (blk_below (g := gb176) (o := .cells #[.int .u64 t170, .slice Ao17 t171.length co17, .string t174] 66 (0, 0)) (by refine blk_to ?_; refine blk_put (cs := #[.int .u64 t170, .slice Ao17 t171.length co17, .string (⟨#[]⟩ : ByteArray)]) ?_ 2 _ rfl; refine blk_to ?_; refine blk_put (cs := #[.int .u64 t170, .slice none 0 0, .string (⟨#[]⟩ : ByteArray)]) ?_ 1 _ rfl; refine blk_to ?_; refine blk_put (cs := #[.int .u64 0, .slice none 0 0, .string (⟨#[]⟩ : ByteArray)]) ?_ 0 _ rfl; exact blk_to BK176.out) hb); have n4_ := Aside0.mk (below_step below_any hb); clear HO169; clear HO173; clear BK176; clear HB; have HO169 := n0_; have HO173 := n1_; have HO179 := n2_; have BK176 := n3_; have HB := n4_; clear n0_ n1_ n2_ n3_ n4_; clear hb ho19; obtain ⟨Ao20, co20, eo20⟩ := Kd.R_slice HO179.out; subst eo20) | ((with_reducible refine gate_callee (f := 39) rfl ?_); refine goesL_ (some 18) rfl rfl Tryd.func39 (by kernel_rfl) rfl #[.agg #[.int .u64 t170, .slice Ao17 t171.length co17, .string t174], .slice Ao20 y177.length co20] rfl (by (try simp only [List.map_toArray, List.map_cons, List.map_nil]); first | done | rfl | (simp only [List.length_drop, List.length_take]; rfl) | (rw [wrap_sum2 (by assumption)]; rfl)) ?_; (with_reducible refine (journal_Add.calls k t170 (fun k_ => ((some k_ ≠ (.slice Ao13 y167.length co13 : Value).ownBlock ∧ k_ ≠ gb176) ∧ some k_ ≠ (.slice Ao20 y177.length co20 : Value).ownBlock)) _ _ t171 t174 _ _ y177 t180 t181 t184 t185 _ ?side1 ?side2 ?side3 A2.out (HT.below below_any)).mono ?_); (case side1 => exact Kd.N_V (HO173.out)); (case side2 => repeat (first | exact (Kd.R_reads' HO179.out).2.2 | (with_reducible refine Kd.C_alloc ?_ _) | (with_reducible refine Kd.C_drewN ?_ _) | (with_reducible refine Kd.C_drew ?_))); (case side3 => exact (Kd.R_reads' HO179.out).2.1); rintro e w21 ⟨v182, rfl, ho0, hb⟩; refine ⟨_, rfl, ?_⟩; have n0_ := Aside0.mk (Kd.R_below (by exact Kd.R_to HO169.out) hb); have n1_ := Aside0.mk (Kd.N_elder' (by exact Kd.N_to HO173.out) (Kd.N_base ho0) hb); have n2_ := Aside0.mk (Kd.R_below (by exact Kd.R_to HO179.out) hb); have n3_ := Aside0.mk (Kd.N_lower (Kd.N_mono (ok' := fun k_ => some k_ ≠ (.slice Ao13 y167.length co13 : Value).ownBlock ∧ some k_ ≠ (.slice Ao20 y177.length co20 : Value).ownBlock ∧ k_ ≠ gb176) ho0 (fun k_ hk_ => ⟨Or.elim hk_ (fun hs_ => hs_.1.1) (fun hn_ => (Kd.fresh' (Kd.R_lt (by exact Kd.R_to HO169.out)) k_ hn_)), Or.elim hk_ (fun hs_ => hs_.2) (fun hn_ => (Kd.fresh' (Kd.R_lt (by exact Kd.R_to HO179.out)) k_ hn_)), Or.elim hk_ (fun hs_ => hs_.1.2) (fun hn_ => (Kd.freshB (g := gb176) (o := .cells #[.int .u64 t170, .slice Ao17 t171.length co17, .string t174] 66 (0, 0)) (blk_to BK176.out) k_ hn_))⟩)) (below_size below_any)); have n4_ := Aside0.mk (blk_below (blk_to BK176.out) hb); have n5_ := Aside0.mk (below_step below_any hb); clear HO169; clear HO173; clear HO179; clear BK176; clear HB; have HO169 := n0_; have HO173 := n1_; have HO179 := n2_; have HO183 := n3_; have BK176 := n4_; have HB := n5_; clear n0_ n1_ n2_ n3_ n4_ n5_; (try clear hb); (try clear hb2); (try clear hk); (try clear hi); (try clear ho0)) | ((with_reducible refine gate_dst (N := 3) rfl ?_); (try (refine gate_guard (by rfl) ?_; dsimp only)); refine box_event ?hg (N := 3) ?hd (cs := #[.int .u64 0, .slice none 0 0, .string (⟨#[]⟩ : ByteArray)]) (t := 66) ?hr ?_; (case hd => rfl); (case hg => rfl); (case hr => first | (go_simp; done) | (go_simp; rfl)); intro gb186 hg w22 hbox hb; have n0_ := Aside0.mk (Kd.R_below (by exact Kd.R_to HO169.out) hb); have n1_ := Aside0.mk (Kd.N_below (Kd.N_elderB (by exact Kd.N_to HO173.out) gb186 (Nat.le_of_eq hg.symm)) hb); have n2_ := Aside0.mk (Kd.R_below (by exact Kd.R_to HO179.out) hb); have n3_ := Aside0.mk (Kd.N_below (Kd.N_elderB (by exact Kd.N_to HO183.out) gb186 (Nat.le_of_eq hg.symm)) hb); have n4_ := Aside0.mk (blk_below (blk_to BK176.out) hb); have n5_ := Aside0.mk (below_step below_any hb); have n6_ := Aside0.mk (hbox); have n7_ := Aside0.mk ((by rw [hg]; exact (below_size below_any) : w.heap.size ≤ gb186)); have n8_ := n7_; have n9_ := Aside0.mk ((by rw [hg]; exact Nat.ne_of_lt (blk_lt (blk_to BK176.out)) : gb176 ≠ gb186)); have n10_ := Aside0.mk ((by rw [hg]; exact Nat.ne_of_gt (blk_lt (blk_to BK176.out)) : gb186 ≠ gb176)); clear HO169; clear HO173; clear HO179; clear HO183; clear BK176; clear HB; have HO169 := n0_; have HO173 := n1_; have HO179 := n2_; have HO183 := n3_; have BK176 := n4_; have HB := n5_; have BK186 := n6_; have GW186 := n7_; have GE186 := n8_; have NB176_186 := n9_; have NB186_176 := n10_; clear n0_ n1_ n2_ n3_ n4_ n5_ n6_ n7_ n8_ n9_ n10_; clear hb hbox hg; have hnb23 := NB186_176.out; have hnc23 := NB176_186.out; have hcz24_0 : w22.cell? ⟨gb186, 0, none⟩ = some (.int .u64 0) := (blk_cell BK186.out 0).trans rfl; have hcz24_1 : w22.cell? ⟨gb186, 1, none⟩ = some (.slice none 0 0) := (blk_cell BK186.out 1).trans rfl; have hcz24_2 : w22.cell? ⟨gb186, 2, none⟩ = some (.string (⟨#[]⟩ : ByteArray)) := (blk_cell BK186.out 2).trans rfl; have hfz24_0 := blk_frozen BK186.out 0; have hfz24_1 := blk_frozen BK186.out 1; have hfz24_2 := blk_frozen BK186.out 2; obtain ⟨Ao25, co25, eo25⟩ := Kd.N_slice HO183.out; subst eo25) | ((with_reducible refine gate_dst (N := 24) rfl ?_); (try (refine gate_guard (by rfl) ?_; dsimp only)); refine Kd.R_lit k24 _ 24 ?hg (N := 24) ?hd (xs := ([(⟨3, 3, 0, 0, (⟨#[]⟩ : ByteArray)⟩ : S24)] : List (S24))) (inner := [.int .i64 3, .int .i64 3, .int .i64 0, .int .u64 0, .string (⟨#[]⟩ : ByteArray)]) (ok := fun _ => True) (okp := fun _ => True) ?hr ?hp (fun _ hk => hk) trivial (Below.refl _ _) (Nat.le_refl _) (by simp) ?_; (case hd => rfl); (case hg => rfl); (case hr => first | (go_simp; done) | (go_simp; rfl)); (case hp => exact (Reps.c5 (show Kd.M k24 _ _ _ (⟨3, 3, 0, 0, (⟨#[]⟩ : ByteArray)⟩ : S24) [.int .i64 3, .int .i64 3, .int .i64 0, .int .u64 0, .string (⟨#[]⟩ : ByteArray)] from (k24_mkM _ _ _ (⟨3, 3, 0, 0, (⟨#[]⟩ : ByteArray)⟩ : S24) )) (Reps.none _ _))); intro v188 w26 ho27 hb hg_ hnew_; clear hg_ hnew_; (first | rw [← Ny187.out] at ho27 | (simp only [Int.reduceToNat] at ho27; rw [← Ny187.out] at ho27)); have n0_ := Aside0.mk (Kd.R_elder' (by apply Kd.R_to; exact (Kd.R_mono (Kd.R_far (p := ⟨gb186, 2, none⟩) (Kd.R_far (p := ⟨gb186, 1, none⟩) (Kd.R_far (p := ⟨gb186, 0, none⟩) (Kd.R_types HO169.out BK186.out (by decide)) (fun _ hk => hk.2) (.int .u64 t180)) (fun _ hk => hk.2) (.slice Ao25 t181.length co25)) (fun _ hk => hk.2) (.string t184)) (fun _ h_ => h_.1))) (Kd.R_base ho27) hb); have n1_ := Aside0.mk (Kd.N_elder' (by apply Kd.N_to; exact (Kd.N_mono (Kd.N_far (p := ⟨gb186, 2, none⟩) (Kd.N_far (p := ⟨gb186, 1, none⟩) (Kd.N_far (p := ⟨gb186, 0, none⟩) (Kd.N_mono HO173.out (fun k_ hk => (⟨hk, hk.2⟩ : _ ∧ k_ ≠ gb186))) (fun _ hk => hk.2) (.int .u64 t180)) (fun _ hk => hk.2) (.slice Ao25 t181.length co25)) (fun _ hk => hk.2) (.string t184)) (fun _ h_ => h_.1))) (Kd.R_base ho27) hb); have n2_ := Aside0.mk (Kd.R_elder' (by apply Kd.R_to; exact (Kd.R_mono (Kd.R_far (p := ⟨gb186, 2, none⟩) (Kd.R_far (p := ⟨gb186, 1, none⟩) (Kd.R_far (p := ⟨gb186, 0, none⟩) (Kd.R_types HO179.out BK186.out (by decide)) (fun _ hk => hk.2) (.int .u64 t180)) (fun _ hk => hk.2) (.slice Ao25 t181.length co25)) (fun _ hk => hk.2) (.string t184)) (fun _ h_ => h_.1))) (Kd.R_base ho27) hb); have n3_ := Aside0.mk (Kd.N_elder' (by apply Kd.N_to; exact (Kd.N_mono (Kd.N_far (p := ⟨gb186, 2, none⟩) (Kd.N_far (p := ⟨gb186, 1, none⟩) (Kd.N_far (p := ⟨gb186, 0, none⟩) (Kd.N_mono HO183.out (fun k_ hk => (⟨hk, hk.2⟩ : _ ∧ k_ ≠ gb186))) (fun _ hk => hk.2) (.int .u64 t180)) (fun _ hk => hk.2) (.slice Ao25 t181.length co25)) (fun _ hk => hk.2) (.string t184)) (fun _ h_ => h_.1))) (Kd.R_base ho27) hb); have n4_ := Aside0.mk (Kd.R_lower (Kd.R_new' (Kd.R_new' ho27 (Kd.R_lt (by apply Kd.R_to; exact (Kd.R_mono (Kd.R_far (p := ⟨gb186, 2, none⟩) (Kd.R_far (p := ⟨gb186, 1, none⟩) (Kd.R_far (p := ⟨gb186, 0, none⟩) (Kd.R_types HO169.out BK186.out (by decide)) (fun _ hk => hk.2) (.int .u64 t180)) (fun _ hk => hk.2) (.slice Ao25 t181.length co25)) (fun _ hk => hk.2) (.string t184)) (fun _ h_ => h_.1))))) (Kd.R_lt (by apply Kd.R_to; exact (Kd.R_mono (Kd.R_far (p := ⟨gb186, 2, none⟩) (Kd.R_far (p := ⟨gb186, 1, none⟩) (Kd.R_far (p := ⟨gb186, 0, none⟩) (Kd.R_types HO179.out BK186.out (by decide)) (fun _ hk => hk.2) (.int .u64 t180)) (fun _ hk => hk.2) (.slice Ao25 t181.length co25)) (fun _ hk => hk.2) (.string t184)) (fun _ h_ => h_.1))))) (below_size below_any)); have n5_ := Aside0.mk (blk_below (g := gb176) (o := .cells #[.int .u64 t170, .slice Ao17 t171.length co17, .string t174] 66 (0, 0)) (by refine blk_to ?_; refine blk_far ?_ NB176_186.out _; refine blk_to ?_; refine blk_far ?_ NB176_186.out _; refine blk_to ?_; refine blk_far ?_ NB176_186.out _; exact blk_to BK176.out) hb); have n6_ := Aside0.mk (blk_below (g := gb186) (o := .cells #[.int .u64 t180, .slice Ao25 t181.length co25, .string t184] 66 (0, 0)) (by refine blk_to ?_; refine blk_put (cs := #[.int .u64 t180, .slice Ao25 t181.length co25, .string (⟨#[]⟩ : ByteArray)]) ?_ 2 _ rfl; refine blk_to ?_; refine blk_put (cs := #[.int .u64 t180, .slice none 0 0, .string (⟨#[]⟩ : ByteArray)]) ?_ 1 _ rfl; refine blk_to ?_; refine blk_put (cs := #[.int .u64 0, .slice none 0 0, .string (⟨#[]⟩ : ByteArray)]) ?_ 0 _ rfl; exact blk_to BK186.out) hb); have n7_ := Aside0.mk (below_step below_any hb); clear HO169; clear HO173; clear HO179; clear HO183; clear BK176; clear BK186; clear HB; have HO169 := n0_; have HO173 := n1_; have HO179 := n2_; have HO183 := n3_; have HO189 := n4_; have BK176 := n5_; have BK186 := n6_; have HB := n7_; clear n0_ n1_ n2_ n3_ n4_ n5_ n6_ n7_; clear hb ho27; obtain ⟨Ao28, co28, eo28⟩ := Kd.R_slice HO189.out; subst eo28) | ((with_reducible refine gate_callee (f := 39) rfl ?_); refine goesL_ (some 25) rfl rfl Tryd.func39 (by kernel_rfl) rfl #[.agg #[.int .u64 t180, .slice Ao25 t181.length co25, .string t184], .slice Ao28 y187.length co28] rfl (by (try simp only [List.map_toArray, List.map_cons, List.map_nil]); first | done | rfl | (simp only [List.length_drop, List.length_take]; rfl) | (rw [wrap_sum2 (by assumption)]; rfl)) ?_; (with_reducible refine (journal_Add.calls k t180 (fun k_ => (((some k_ ≠ (.slice Ao13 y167.length co13 : Value).ownBlock ∧ (some k_ ≠ (.slice Ao20 y177.length co20 : Value).ownBlock ∧ k_ ≠ gb176)) ∧ k_ ≠ gb186) ∧ some k_ ≠ (.slice Ao28 y187.length co28 : Value).ownBlock)) _ _ t181 t184 _ _ y187 t190 t191 t194 t195 _ ?side1 ?side2 ?side3 A3.out (HT.below below_any)).mono ?_); (case side1 => exact Kd.N_V (HO183.out)); (case side2 => repeat (first | exact (Kd.R_reads' HO189.out).2.2 | (with_reducible refine Kd.C_alloc ?_ _) | (with_reducible refine Kd.C_drewN ?_ _) | (with_reducible refine Kd.C_drew ?_))); (case side3 => exact (Kd.R_reads' HO189.out).2.1); rintro e w29 ⟨v192, rfl, ho0, hb⟩; refine ⟨_, rfl, ?_⟩; have n0_ := Aside0.mk (Kd.R_below (by exact Kd.R_to HO169.out) hb); have n1_ := Aside0.mk (Kd.N_elder' (by exact Kd.N_to HO173.out) (Kd.N_base ho0) hb); have n2_ := Aside0.mk (Kd.R_below (by exact Kd.R_to HO179.out) hb); have n3_ := Aside0.mk (Kd.N_elder' (by exact Kd.N_to HO183.out) (Kd.N_base ho0) hb); have n4_ := Aside0.mk (Kd.R_below (by exact Kd.R_to HO189.out) hb); have n5_ := Aside0.mk (Kd.N_lower (Kd.N_mono (ok' := fun k_ => some k_ ≠ (.slice Ao13 y167.length co13 : Value).ownBlock ∧ some k_ ≠ (.slice Ao20 y177.length co20 : Value).ownBlock ∧ some k_ ≠ (.slice Ao28 y187.length co28 : Value).ownBlock ∧ k_ ≠ gb176 ∧ k_ ≠ gb186) ho0 (fun k_ hk_ => ⟨Or.elim hk_ (fun hs_ => hs_.1.1.1) (fun hn_ => (Kd.fresh' (Kd.R_lt (by exact Kd.R_to HO169.out)) k_ hn_)), Or.elim hk_ (fun hs_ => hs_.1.1.2.1) (fun hn_ => (Kd.fresh' (Kd.R_lt (by exact Kd.R_to HO179.out)) k_ hn_)), Or.elim hk_ (fun hs_ => hs_.2) (fun hn_ => (Kd.fresh' (Kd.R_lt (by exact Kd.R_to HO189.out)) k_ hn_)), Or.elim hk_ (fun hs_ => hs_.1.1.2.2) (fun hn_ => (Kd.freshB (g := gb176) (o := .cells #[.int .u64 t170, .slice Ao17 t171.length co17, .string t174] 66 (0, 0)) (blk_to BK176.out) k_ hn_)), Or.elim hk_ (fun hs_ => hs_.1.2) (fun hn_ => (Kd.freshB (g := gb186) (o := .cells #[.int .u64 t180, .slice Ao25 t181.length co25, .string t184] 66 (0, 0)) (blk_to BK186.out) k_ hn_))⟩)) (below_size below_any)); have n6_ := Aside0.mk (blk_below (blk_to BK176.out) hb); have n7_ := Aside0.mk (blk_below (blk_to BK186.out) hb); have n8_ := Aside0.mk (below_step below_any hb); clear HO169; clear HO173; clear HO179; clear HO183; clear HO189; clear BK176; clear BK186; clear HB; have HO169 := n0_; have HO173 := n1_; have HO179 := n2_; have HO183 := n3_; have HO189 := n4_; have HO193 := n5_; have BK176 := n6_; have BK186 := n7_; have HB := n8_; clear n0_ n1_ n2_ n3_ n4_ n5_ n6_ n7_ n8_; (try clear hb); (try clear hb2); (try clear hk); (try clear hi); (try clear ho0)) | ((with_reducible refine gate_dst (N := 5) rfl ?_); (try (refine gate_guard (by rfl) ?_; dsimp only)); refine box_event ?hg (N := 5) ?hd (cs := #[.int .u64 0, .slice none 0 0, .string (⟨#[]⟩ : ByteArray)]) (t := 66) ?hr ?_; (case hd => rfl); (case hg => rfl); (case hr => first | (go_simp; done) | (go_simp; rfl)); intro gb196 hg w30 hbox hb; have n0_ := Aside0.mk (Kd.R_below (by exact Kd.R_to HO169.out) hb); have n1_ := Aside0.mk (Kd.N_below (Kd.N_elderB (by exact Kd.N_to HO173.out) gb196 (Nat.le_of_eq hg.symm)) hb); have n2_ := Aside0.mk (Kd.R_below (by exact Kd.R_to HO179.out) hb); have n3_ := Aside0.mk (Kd.N_below (Kd.N_elderB (by exact Kd.N_to HO183.out) gb196 (Nat.le_of_eq hg.symm)) hb); have n4_ := Aside0.mk (Kd.R_below (by exact Kd.R_to HO189.out) hb); have n5_ := Aside0.mk (Kd.N_below (Kd.N_elderB (by exact Kd.N_to HO193.out) gb196 (Nat.le_of_eq hg.symm)) hb); have n6_ := Aside0.mk (blk_below (blk_to BK176.out) hb); have n7_ := Aside0.mk (blk_below (blk_to BK186.out) hb); have n8_ := Aside0.mk (below_step below_any hb); have n9_ := Aside0.mk (hbox); have n10_ := Aside0.mk ((by rw [hg]; exact (below_size below_any) : w.heap.size ≤ gb196)); have n11_ := n10_; have n12_ := Aside0.mk ((by rw [hg]; exact Nat.ne_of_lt (blk_lt (blk_to BK176.out)) : gb176 ≠ gb196)); have n13_ := Aside0.mk ((by rw [hg]; exact Nat.ne_of_gt (blk_lt (blk_to BK176.out)) : gb196 ≠ gb176)); have n14_ := Aside0.mk ((by rw [hg]; exact Nat.ne_of_lt (blk_lt (blk_to BK186.out)) : gb186 ≠ gb196)); have n15_ := Aside0.mk ((by rw [hg]; exact Nat.ne_of_gt (blk_lt (blk_to BK186.out)) : gb196 ≠ gb186)); clear HO169; clear HO173; clear HO179; clear HO183; clear HO189; clear HO193; clear BK176; clear BK186; clear HB; have HO169 := n0_; have HO173 := n1_; have HO179 := n2_; have HO183 := n3_; have HO189 := n4_; have HO193 := n5_; have BK176 := n6_; have BK186 := n7_; have HB := n8_; have BK196 := n9_; have GW196 := n10_; have GE196 := n11_; have NB176_196 := n12_; have NB196_176 := n13_; have NB186_196 := n14_; have NB196_186 := n15_; clear n0_ n1_ n2_ n3_ n4_ n5_ n6_ n7_ n8_ n9_ n10_ n11_ n12_ n13_ n14_ n15_; clear hb hbox hg; have hnb31 := NB196_176.out; have hnc31 := NB176_196.out; have hnb32 := NB196_186.out; have hnc32 := NB186_196.out; have hcz33_0 : w30.cell? ⟨gb196, 0, none⟩ = some (.int .u64 0) := (blk_cell BK196.out 0).trans rfl; have hcz33_1 : w30.cell? ⟨gb196, 1, none⟩ = some (.slice none 0 0) := (blk_cell BK196.out 1).trans rfl; have hcz33_2 : w30.cell? ⟨gb196, 2, none⟩ = some (.string (⟨#[]⟩ : ByteArray)) := (blk_cell BK196.out 2).trans rfl; have hfz33_0 := blk_frozen BK196.out 0; have hfz33_1 := blk_frozen BK196.out 1; have hfz33_2 := blk_frozen BK196.out 2; obtain ⟨Ao34, co34, eo34⟩ := Kd.N_slice HO193.out; subst eo34) | ((with_reducible refine gate_callee (f := 36) rfl ?_); refine goesL_ (some 29) rfl rfl Tryd.func36 (by kernel_rfl) rfl #[.agg #[.int .u64 t190, .slice Ao34 t191.length co34, .string t194], .int .u64 6] rfl (by (try simp only [List.map_toArray, List.map_cons, List.map_nil]); first | done | rfl | (simp only [List.length_drop, List.length_take]; rfl) | (rw [wrap_sum2 (by assumption)]; rfl)) ?_; (with_reducible refine (journal_After.calls k t190 _ _ t191 t194 6 t197 _ ?side1 ?side2 A4.out).mono ?_); (case side1 => refine (Kd.N_reads' (e := 44) (base := w.heap.size) (ok := fun k_ => ((some k_ ≠ (.slice Ao13 y167.length co13 : Value).ownBlock ∧ (some k_ ≠ (.slice Ao20 y177.length co20 : Value).ownBlock ∧ (some k_ ≠ (.slice Ao28 y187.length co28 : Value).ownBlock ∧ (k_ ≠ gb176 ∧ k_ ≠ gb186)))) ∧ k_ ≠ gb196)) (n := t191.length) (c := co34) ?_).2.2; exact (by apply Kd.N_to; exact (Kd.N_mono (Kd.N_far (p := ⟨gb196, 2, none⟩) (Kd.N_far (p := ⟨gb196, 1, none⟩) (Kd.N_far (p := ⟨gb196, 0, none⟩) (Kd.N_mono HO193.out (fun k_ hk => (⟨hk, hk.2⟩ : _ ∧ k_ ≠ gb196))) (fun _ hk => hk.2) (.int .u64 t190)) (fun _ hk => hk.2) (.slice Ao34 t191.length co34)) (fun _ hk => hk.2) (.string t194)) (fun _ h_ => h_.1)))); (case side2 => exact (Kd.N_reads' HO193.out).2.1); rintro e w35 ⟨v198, rfl, ho0, hb⟩; refine ⟨_, rfl, ?_⟩; have n0_ := Aside0.mk (Kd.R_elder' (by apply Kd.R_to; exact (Kd.R_mono (Kd.R_far (p := ⟨gb196, 2, none⟩) (Kd.R_far (p := ⟨gb196, 1, none⟩) (Kd.R_far (p := ⟨gb196, 0, none⟩) (Kd.R_types HO169.out BK196.out (by decide)) (fun _ hk => hk.2) (.int .u64 t190)) (fun _ hk => hk.2) (.slice Ao34 t191.length co34)) (fun _ hk => hk.2) (.string t194)) (fun _ h_ => h_.1))) (Kd.R_base ho0) hb); have n1_ := Aside0.mk (Kd.N_elder' (by apply Kd.N_to; exact (Kd.N_mono (Kd.N_far (p := ⟨gb196, 2, none⟩) (Kd.N_far (p := ⟨gb196, 1, none⟩) (Kd.N_far (p := ⟨gb196, 0, none⟩) (Kd.N_mono HO173.out (fun k_ hk => (⟨hk, hk.2⟩ : _ ∧ k_ ≠ gb196))) (fun _ hk => hk.2) (.int .u64 t190)) (fun _ hk => hk.2) (.slice Ao34 t191.length co34)) (fun _ hk => hk.2) (.string t194)) (fun _ h_ => h_.1))) (Kd.R_base ho0) hb); have n2_ := Aside0.mk (Kd.R_elder' (by apply Kd.R_to; exact (Kd.R_mono (Kd.R_far (p := ⟨gb196, 2, none⟩) (Kd.R_far (p := ⟨gb196, 1, none⟩) (Kd.R_far (p := ⟨gb196, 0, none⟩) (Kd.R_types HO179.out BK196.out (by decide)) (fun _ hk => hk.2) (.int .u64 t190)) (fun _ hk => hk.2) (.slice Ao34 t191.length co34)) (fun _ hk => hk.2) (.string t194)) (fun _ h_ => h_.1))) (Kd.R_base ho0) hb); have n3_ := Aside0.mk (Kd.N_elder' (by apply Kd.N_to; exact (Kd.N_mono (Kd.N_far (p := ⟨gb196, 2, none⟩) (Kd.N_far (p := ⟨gb196, 1, none⟩) (Kd.N_far (p := ⟨gb196, 0, none⟩) (Kd.N_mono HO183.out (fun k_ hk => (⟨hk, hk.2⟩ : _ ∧ k_ ≠ gb196))) (fun _ hk => hk.2) (.int .u64 t190)) (fun _ hk => hk.2) (.slice Ao34 t191.length co34)) (fun _ hk => hk.2) (.string t194)) (fun _ h_ => h_.1))) (Kd.R_base ho0) hb); have n4_ := Aside0.mk (Kd.R_elder' (by apply Kd.R_to; exact (Kd.R_mono (Kd.R_far (p := ⟨gb196, 2, none⟩) (Kd.R_far (p := ⟨gb196, 1, none⟩) (Kd.R_far (p := ⟨gb196, 0, none⟩) (Kd.R_types HO189.out BK196.out (by decide)) (fun _ hk => hk.2) (.int .u64 t190)) (fun _ hk => hk.2) (.slice Ao34 t191.length co34)) (fun _ hk => hk.2) (.string t194)) (fun _ h_ => h_.1))) (Kd.R_base ho0) hb); have n5_ := Aside0.mk (Kd.N_elder' (by apply Kd.N_to; exact (Kd.N_mono (Kd.N_far (p := ⟨gb196, 2, none⟩) (Kd.N_far (p := ⟨gb196, 1, none⟩) (Kd.N_far (p := ⟨gb196, 0, none⟩) (Kd.N_mono HO193.out (fun k_ hk => (⟨hk, hk.2⟩ : _ ∧ k_ ≠ gb196))) (fun _ hk => hk.2) (.int .u64 t190)) (fun _ hk => hk.2) (.slice Ao34 t191.length co34)) (fun _ hk => hk.2) (.string t194)) (fun _ h_ => h_.1))) (Kd.R_base ho0) hb); have n6_ := Aside0.mk (Kd.R_lower (Kd.R_new' (Kd.R_new' (Kd.R_new' ho0 (Kd.R_lt (by apply Kd.R_to; exact (Kd.R_mono (Kd.R_far (p := ⟨gb196, 2, none⟩) (Kd.R_far (p := ⟨gb196, 1, none⟩) (Kd.R_far (p := ⟨gb196, 0, none⟩) (Kd.R_types HO169.out BK196.out (by decide)) (fun _ hk => hk.2) (.int .u64 t190)) (fun _ hk => hk.2) (.slice Ao34 t191.length co34)) (fun _ hk => hk.2) (.string t194)) (fun _ h_ => h_.1))))) (Kd.R_lt (by apply Kd.R_to; exact (Kd.R_mono (Kd.R_far (p := ⟨gb196, 2, none⟩) (Kd.R_far (p := ⟨gb196, 1, none⟩) (Kd.R_far (p := ⟨gb196, 0, none⟩) (Kd.R_types HO179.out BK196.out (by decide)) (fun _ hk => hk.2) (.int .u64 t190)) (fun _ hk => hk.2) (.slice Ao34 t191.length co34)) (fun _ hk => hk.2) (.string t194)) (fun _ h_ => h_.1))))) (Kd.R_lt (by apply Kd.R_to; exact (Kd.R_mono (Kd.R_far (p := ⟨gb196, 2, none⟩) (Kd.R_far (p := ⟨gb196, 1, none⟩) (Kd.R_far (p := ⟨gb196, 0, none⟩) (Kd.R_types HO189.out BK196.out (by decide)) (fun _ hk => hk.2) (.int .u64 t190)) (fun _ hk => hk.2) (.slice Ao34 t191.length co34)) (fun _ hk => hk.2) (.string t194)) (fun _ h_ => h_.1))))) (below_size below_any)); have n7_ := Aside0.mk (blk_below (g := gb176) (o := .cells #[.int .u64 t170, .slice Ao17 t171.length co17, .string t174] 66 (0, 0)) (by refine blk_to ?_; refine blk_far ?_ NB176_196.out _; refine blk_to ?_; refine blk_far ?_ NB176_196.out _; refine blk_to ?_; refine blk_far ?_ NB176_196.out _; exact blk_to BK176.out) hb); have n8_ := Aside0.mk (blk_below (g := gb186) (o := .cells #[.int .u64 t180, .slice Ao25 t181.length co25, .string t184] 66 (0, 0)) (by refine blk_to ?_; refine blk_far ?_ NB186_196.out _; refine blk_to ?_; refine blk_far ?_ NB186_196.out _; refine blk_to ?_; refine blk_far ?_ NB186_196.out _; exact blk_to BK186.out) hb); have n9_ := Aside0.mk (blk_below (g := gb196) (o := .cells #[.int .u64 t190, .slice Ao34 t191.length co34, .string t194] 66 (0, 0)) (by refine blk_to ?_; refine blk_put (cs := #[.int .u64 t190, .slice Ao34 t191.length co34, .string (⟨#[]⟩ : ByteArray)]) ?_ 2 _ rfl; refine blk_to ?_; refine blk_put (cs := #[.int .u64 t190, .slice none 0 0, .string (⟨#[]⟩ : ByteArray)]) ?_ 1 _ rfl; refine blk_to ?_; refine blk_put (cs := #[.int .u64 0, .slice none 0 0, .string (⟨#[]⟩ : ByteArray)]) ?_ 0 _ rfl; exact blk_to BK196.out) hb); have n10_ := Aside0.mk (below_step below_any hb); clear HO169; clear HO173; clear HO179; clear HO183; clear HO189; clear HO193; clear BK176; clear BK186; clear BK196; clear HB; have HO169 := n0_; have HO173 := n1_; have HO179 := n2_; have HO183 := n3_; have HO189 := n4_; have HO193 := n5_; have HO199 := n6_; have BK176 := n7_; have BK186 := n8_; have BK196 := n9_; have HB := n10_; clear n0_ n1_ n2_ n3_ n4_ n5_ n6_ n7_ n8_ n9_ n10_; (try clear hb); (try clear hb2); (try clear hk); (try clear hi); (try clear ho0); have hcz36_0 : w35.cell? ⟨gb196, 0, none⟩ = some (.int .u64 t190) := (blk_cell BK196.out 0).trans rfl; have hcz36_1 : w35.cell? ⟨gb196, 1, none⟩ = some (.slice Ao34 t191.length co34) := (blk_cell BK196.out 1).trans rfl; have hcz36_2 : w35.cell? ⟨gb196, 2, none⟩ = some (.string t194) := (blk_cell BK196.out 2).trans rfl; have hfz36_0 := blk_frozen BK196.out 0; have hfz36_1 := blk_frozen BK196.out 1; have hfz36_2 := blk_frozen BK196.out 2; obtain ⟨Ao37, co37, eo37⟩ := Kd.R_slice HO199.out; subst eo37; have p200 : 0 ≤ (0 : Int) := (by omega); have q200 : 0 < (t197.length : Int) := of_decide_eq_true (by first | (with_reducible assumption) | assumption); obtain ⟨ad200, e200, hx200_0, hx200_1, hx200_2, hx200_3, hx200_4⟩ := at_T24 (Kd.R_reads' HO199.out).2.2 0 p200 q200; cases e200; have qi200 : (0 < t197.length) = True := eq_true (by omega); (try rw [show ((0 : Int)).toNat = 0 from rfl] at hx200_0); (try rw [show 0 * 5 = 0 from rfl] at hx200_0); (try rw [Addr.add_zero'] at hx200_0); (try rw [show ((0 : Int)).toNat = 0 from rfl] at hx200_1); (try rw [show 0 * 5 = 0 from rfl] at hx200_1); (try rw [Addr.add_zero'] at hx200_1); (try rw [show ((0 : Int)).toNat = 0 from rfl] at hx200_2); (try rw [show 0 * 5 = 0 from rfl] at hx200_2); (try rw [Addr.add_zero'] at hx200_2); (try rw [show ((0 : Int)).toNat = 0 from rfl] at hx200_3); (try rw [show 0 * 5 = 0 from rfl] at hx200_3); (try rw [Addr.add_zero'] at hx200_3); (try rw [show ((0 : Int)).toNat = 0 from rfl] at hx200_4); (try rw [show 0 * 5 = 0 from rfl] at hx200_4); (try rw [Addr.add_zero'] at hx200_4); replace p200 := eq_true p200; replace q200 := eq_true q200))
       go_ret
       exact ⟨by first | rfl | (simp [errW_none, errW_some] <;> rfl) | (simp [*, errW_none, errW_some] <;> rfl), below_any⟩
      ·rw [if_neg c10] at H
       exact absurd H (by simp)
     ·rw [if_neg c9] at H
      exact absurd H (by simp)
    ·rw [if_neg c8] at H
     exact absurd H (by simp)
   ·rw [if_neg c7] at H
    exact absurd H (by simp)
  ·rw [if_neg c6] at H
   exact absurd H (by simp)
 ·rw [if_neg c5] at H
  exact absurd H (by simp)
def rootcellarlaw13_JournalAdds.j0 : Nat → Int → List (S24) → List (List (S24)) → Int → Bool → Bool → Option (Bool)
 | 0, _, _, _, _, _, _ => none
 | k + 1, x0, x1, x2, x3, x9, x29 => if x29 = true then (some x9) else ((rootcellarlaw13_built.f k x0 x1 x2).bind fun bt328 => (if bt328.2.2.2.2.2.2 = true then ((journal_After.f k bt328.1 bt328.2.1 bt328.2.2.1 x3).bind fun t341 => ((rootcellarref13_After.f k bt328.2.2.2.1 bt328.2.2.2.2.1 bt328.2.2.2.2.2.1 x3).bind fun t344 => ((rootcellarlaw13_sameSteps.f k t341 t344).bind fun t347 => (some t347)))) else (none)))
def rootcellarlaw13_JournalAdds.f (k : Nat) (a0 : Int) (l1 : List (S24)) (l2 : List (List (S24))) (a3 : Int) : Option (Bool) := (rootcellarlaw13_shown.f k).bind fun t325 => ((rootcellarlaw13_shortSteps.f k l1).bind fun t326 => ((rootcellarlaw13_short.f k l2).bind fun t327 => (if t325 = true then (if t326 = true then (rootcellarlaw13_JournalAdds.j0 k a0 l1 l2 a3 t325 (!t327)) else (rootcellarlaw13_JournalAdds.j0 k a0 l1 l2 a3 t325 true)) else (rootcellarlaw13_JournalAdds.j0 k a0 l1 l2 a3 t325 true))))
def rootcellarlaw13_JournalAdds.T7 : Bool × List (List Nat × List Nat) := (true, [([], []), ([0], [0]), ([1], [1]), ([1], [1]), ([2, 3, 1, 1], [1, 2, 3]), ([1], [1]), ([1], [1]), ([5, 6, 4, 1], [1, 5, 6]), ([4, 7, 7, 1], [1, 4, 7]), ([1, 8], [1, 8]), ([9, 8, 0, 1, 2, 3, 4, 5, 6, 7, 8, 9], [9])])
def rootcellarlaw13_JournalAdds.B7 : List Nat := [0, 1, 3, 3, 15, 3, 3, 127, 255, 511, 1023]
theorem rootcellarlaw13_JournalAdds.tab7 : rtab .any (opsOf Tryd.f10 7) = rootcellarlaw13_JournalAdds.T7 := by kernel_rfl
theorem rootcellarlaw13_JournalAdds.bits7 : waitsOk rootcellarlaw13_JournalAdds.T7.2 rootcellarlaw13_JournalAdds.B7 = true := by kernel_rfl
set_option maxHeartbeats 8000000 in
set_option maxRecDepth 100000 in
theorem rootcellarlaw13_JournalAdds.calls (k : Nat) (a0 : Int) (A1 : Option Addr) (c1 : Nat) (l1 : List (S24)) (A2 : Option Addr) (c2 : Nat) (l2 : List (List (S24))) (a3 : Int) (r : Bool) (w : World) (hr1 : Kd.C k24 w A1 l1.length l1) (hc1 : l1.length ≤ c1) (hr2 : Kd.C (Kd.slice 24 k24) w A2 l2.length l2) (hc2 : l2.length ≤ c2) (h : rootcellarlaw13_JournalAdds.f k a0 l1 l2 a3 = some r) (HT : Tabs w) :
  Calls Tryd.prog 10 #[.int .u64 a0, .slice A1 l1.length c1, .slice A2 l2.length c2, .int .u64 a3] w fun e w' => e = .returned (.bool r) ∧ Below w.heap.size w w' := by
 have hu66 := Tryd.underlying66
 have hu68 := Tryd.underlying68
 have HR1 := Aside0.mk hr1
 have HC1 := Aside0.mk hc1
 clear hr1 hc1
 have HR2 := Aside0.mk hr2
 have HC2 := Aside0.mk hc2
 clear hr2 hc2
 have HB := Aside0.mk (Below.refl w.heap.size w)
 have H : ((rootcellarlaw13_shown.f k).bind fun t325 => ((rootcellarlaw13_shortSteps.f k l1).bind fun t326 => ((rootcellarlaw13_short.f k l2).bind fun t327 => (if t325 = true then (if t326 = true then (rootcellarlaw13_JournalAdds.j0 k a0 l1 l2 a3 t325 (!t327)) else (rootcellarlaw13_JournalAdds.j0 k a0 l1 l2 a3 t325 true)) else (rootcellarlaw13_JournalAdds.j0 k a0 l1 l2 a3 t325 true))))) = some r := h
 clear h
 replace H := Option.bind_eq_some_iff.mp H
 obtain ⟨t325, A50, H⟩ := H
 replace H : ((rootcellarlaw13_shortSteps.f k l1).bind fun t326 => ((rootcellarlaw13_short.f k l2).bind fun t327 => (if t325 = true then (if t326 = true then (rootcellarlaw13_JournalAdds.j0 k a0 l1 l2 a3 t325 (!t327)) else (rootcellarlaw13_JournalAdds.j0 k a0 l1 l2 a3 t325 true)) else (rootcellarlaw13_JournalAdds.j0 k a0 l1 l2 a3 t325 true)))) = some r := H
 have A5 := Aside0.mk A50
 clear A50
 replace H := Option.bind_eq_some_iff.mp H
 obtain ⟨t326, A60, H⟩ := H
 replace H : ((rootcellarlaw13_short.f k l2).bind fun t327 => (if t325 = true then (if t326 = true then (rootcellarlaw13_JournalAdds.j0 k a0 l1 l2 a3 t325 (!t327)) else (rootcellarlaw13_JournalAdds.j0 k a0 l1 l2 a3 t325 true)) else (rootcellarlaw13_JournalAdds.j0 k a0 l1 l2 a3 t325 true))) = some r := H
 have A6 := Aside0.mk A60
 clear A60
 replace H := Option.bind_eq_some_iff.mp H
 obtain ⟨t327, A70, H⟩ := H
 replace H : (if t325 = true then (if t326 = true then (rootcellarlaw13_JournalAdds.j0 k a0 l1 l2 a3 t325 (!t327)) else (rootcellarlaw13_JournalAdds.j0 k a0 l1 l2 a3 t325 true)) else (rootcellarlaw13_JournalAdds.j0 k a0 l1 l2 a3 t325 true)) = some r := H
 have A7 := Aside0.mk A70
 clear A70
 have HC8 := Aside0.mk H
 clear H
 go_enter Tryd.func10, Tryd.ntmps10
 go_upto_region 4 with (first | ((with_reducible refine gate_callee (f := 31) rfl ?_); refine goesL_ (some 15) rfl rfl Tryd.func31 (by kernel_rfl) rfl #[] rfl (by (try simp only [List.map_toArray, List.map_cons, List.map_nil]); first | done | rfl | (simp only [List.length_drop, List.length_take]; rfl) | (rw [wrap_sum2 (by assumption)]; rfl)) ?_; (with_reducible refine (rootcellarlaw13_shown.calls k  t325 _ A5.out (HT.below below_any)).mono ?_); rintro e w9 ⟨rfl, hb⟩; refine ⟨_, rfl, ?_⟩; have n0_ := Aside0.mk (below_step below_any hb); clear HB; have HB := n0_; clear n0_; (try clear hb); (try clear hb2); (try clear hk); (try clear hi)) | ((with_reducible refine gate_callee (f := 32) rfl ?_); refine goesL_ (some 17) rfl rfl Tryd.func32 (by kernel_rfl) rfl #[.slice A1 l1.length c1] rfl (by (try simp only [List.map_toArray, List.map_cons, List.map_nil]); first | done | rfl | (simp only [List.length_drop, List.length_take]; rfl) | (rw [wrap_sum2 (by assumption)]; rfl)) ?_; (with_reducible refine (rootcellarlaw13_shortSteps.calls k _ _ l1 t326 _ ?side1 ?side2 A6.out).mono ?_); (case side1 => repeat (first | exact (Kd.C_below HR1.out HB.out) | (with_reducible refine Kd.C_alloc ?_ _) | (with_reducible refine Kd.C_drewN ?_ _) | (with_reducible refine Kd.C_drew ?_))); (case side2 => exact HC1.out); rintro e w' ⟨rfl, ⟨nd, rfl⟩⟩; refine ⟨_, rfl, ?_⟩) | ((with_reducible refine gate_callee (f := 33) rfl ?_); refine goesL_ (some 19) rfl rfl Tryd.func33 (by kernel_rfl) rfl #[.slice A2 l2.length c2] rfl (by (try simp only [List.map_toArray, List.map_cons, List.map_nil]); first | done | rfl | (simp only [List.length_drop, List.length_take]; rfl) | (rw [wrap_sum2 (by assumption)]; rfl)) ?_; (with_reducible refine (rootcellarlaw13_short.calls k _ _ l2 t327 _ ?side1 ?side2 A7.out).mono ?_); (case side1 => repeat (first | exact (Kd.C_below HR2.out below_any) | (with_reducible refine Kd.C_alloc ?_ _) | (with_reducible refine Kd.C_drewN ?_ _) | (with_reducible refine Kd.C_drew ?_))); (case side2 => exact HC2.out); rintro e w' ⟨rfl, ⟨nd, rfl⟩⟩; refine ⟨_, rfl, ?_⟩))
 (try simp only [Act.put, List.setIfInBounds_toArray, List.set_cons_zero, List.set_cons_succ])
 go_cut [29] (fun v29 wc => ∃ (kq : Nat) (x29_7 : Bool), v29 = .bool x29_7 ∧ Aside0 (rootcellarlaw13_JournalAdds.j0 kq a0 l1 l2 a3 t325 x29_7 = some r) ∧ Aside0 (kq ≤ k) ∧ Aside0 (Below w.heap.size w wc))
 case first =>
  have H := HC8.out
  clear HC8
  by_cases c10 : t325 = true
  ·subst c10
   have H1 : (if t326 = true then (rootcellarlaw13_JournalAdds.j0 k a0 l1 l2 a3 true (!t327)) else (rootcellarlaw13_JournalAdds.j0 k a0 l1 l2 a3 true true)) = some r := by rw [if_pos rfl] at H; exact H
   clear H
   have H := H1
   clear H1
   by_cases c11 : t326 = true
   ·subst c11
    have H1 : (rootcellarlaw13_JournalAdds.j0 k a0 l1 l2 a3 true (!t327)) = some r := by rw [if_pos rfl] at H; exact H
    clear H
    have H := H1
    clear H1
    have H' := Aside0.mk H
    clear H
    go_wp2
    go_meet
    case rel => exact ⟨_, (!t327), (by first | rfl | (simp; done) | (simp [*]; done)), H', ⟨by first | omega | exact Nat.le_refl _⟩, ⟨below_any⟩⟩
   ·replace c11 := Bool.eq_false_iff.mpr c11
    subst c11
    have H1 : (rootcellarlaw13_JournalAdds.j0 k a0 l1 l2 a3 true true) = some r := by rw [if_neg (show ¬ (false = true) by decide)] at H; exact H
    clear H
    have H := H1
    clear H1
    have H' := Aside0.mk H
    clear H
    go_wp2
    go_meet
    case rel => exact ⟨_, (true), (by first | rfl | (simp; done) | (simp [*]; done)), H', ⟨by first | omega | exact Nat.le_refl _⟩, ⟨below_any⟩⟩
  ·replace c10 := Bool.eq_false_iff.mpr c10
   subst c10
   have H1 : (rootcellarlaw13_JournalAdds.j0 k a0 l1 l2 a3 false true) = some r := by rw [if_neg (show ¬ (false = true) by decide)] at H; exact H
   clear H
   have H := H1
   clear H1
   have H' := Aside0.mk H
   clear H
   go_wp2
   go_meet
   case rel => exact ⟨_, (true), (by first | rfl | (simp; done) | (simp [*]; done)), H', ⟨by first | omega | exact Nat.le_refl _⟩, ⟨below_any⟩⟩
 case rest =>
  clear HC8
  try clear c1
  try clear c2
  try clear p2
  try clear c3
  try clear c10
  try clear c11
  obtain ⟨kq, x29_7, rfl, HA, HJ7, HB⟩ := hcut
  cases kq with
  | zero => exact absurd HA.out (by simp [rootcellarlaw13_JournalAdds.j0])
  | succ kj7 =>
   have H := HA.out
   clear HA
   simp only [rootcellarlaw13_JournalAdds.j0] at H
   by_cases c12 : x29_7 = true
   ·subst c12
    have H1 : (some t325) = some r := by rw [if_pos rfl] at H; exact H
    clear H
    have H := H1
    clear H1
    obtain rfl := Option.some.inj H
    go_wp2
    go_ret
    exact ⟨by first | rfl | (simp [errW_none, errW_some] <;> rfl) | (simp [*, errW_none, errW_some] <;> rfl), below_any⟩
   ·replace c12 := Bool.eq_false_iff.mpr c12
    subst c12
    have H1 : ((rootcellarlaw13_built.f kj7 a0 l1 l2).bind fun bt328 => (if bt328.2.2.2.2.2.2 = true then ((journal_After.f kj7 bt328.1 bt328.2.1 bt328.2.2.1 a3).bind fun t341 => ((rootcellarref13_After.f kj7 bt328.2.2.2.1 bt328.2.2.2.2.1 bt328.2.2.2.2.2.1 a3).bind fun t344 => ((rootcellarlaw13_sameSteps.f kj7 t341 t344).bind fun t347 => (some t347)))) else (none))) = some r := by rw [if_neg (show ¬ (false = true) by decide)] at H; exact H
    clear H
    have H := H1
    clear H1
    replace H := Option.bind_eq_some_iff.mp H
    obtain ⟨⟨t328, t329, t332, t333, t334, t337, t338⟩, A130, H⟩ := H
    replace H : (if t338 = true then ((journal_After.f kj7 t328 t329 t332 a3).bind fun t341 => ((rootcellarref13_After.f kj7 t333 t334 t337 a3).bind fun t344 => ((rootcellarlaw13_sameSteps.f kj7 t341 t344).bind fun t347 => (some t347)))) else (none)) = some r := H
    have A13 := Aside0.mk A130
    clear A130
    by_cases c14 : t338 = true
    ·subst c14
     have H1 : ((journal_After.f kj7 t328 t329 t332 a3).bind fun t341 => ((rootcellarref13_After.f kj7 t333 t334 t337 a3).bind fun t344 => ((rootcellarlaw13_sameSteps.f kj7 t341 t344).bind fun t347 => (some t347)))) = some r := by rw [if_pos rfl] at H; exact H
     clear H
     have H := H1
     clear H1
     replace H := Option.bind_eq_some_iff.mp H
     obtain ⟨t341, A150, H⟩ := H
     replace H : ((rootcellarref13_After.f kj7 t333 t334 t337 a3).bind fun t344 => ((rootcellarlaw13_sameSteps.f kj7 t341 t344).bind fun t347 => (some t347))) = some r := H
     have A15 := Aside0.mk A150
     clear A150
     replace H := Option.bind_eq_some_iff.mp H
     obtain ⟨t344, A160, H⟩ := H
     replace H : ((rootcellarlaw13_sameSteps.f kj7 t341 t344).bind fun t347 => (some t347)) = some r := H
     have A16 := Aside0.mk A160
     clear A160
     replace H := Option.bind_eq_some_iff.mp H
     obtain ⟨t347, A170, H⟩ := H
     replace H : (some t347) = some r := H
     have A17 := Aside0.mk A170
     clear A170
     obtain rfl := Option.some.inj H
     try go_wp2_with (first | ((with_reducible refine gate_callee (f := 34) rfl ?_); refine goesL_ (some 35) rfl rfl Tryd.func34 (by kernel_rfl) rfl #[.int .u64 a0, .slice A1 l1.length c1, .slice A2 l2.length c2] rfl (by (try simp only [List.map_toArray, List.map_cons, List.map_nil]); first | done | rfl | (simp only [List.length_drop, List.length_take]; rfl) | (rw [wrap_sum2 (by assumption)]; rfl)) ?_; (with_reducible refine (rootcellarlaw13_built.calls kj7 a0 _ _ l1 _ _ l2 t328 t329 t332 t333 t334 t337 true _ ?side1 ?side2 ?side3 ?side4 A13.out (HT.below below_any)).mono ?_); (case side1 => repeat (first | exact (Kd.C_below HR1.out HB.out) | (with_reducible refine Kd.C_alloc ?_ _) | (with_reducible refine Kd.C_drewN ?_ _) | (with_reducible refine Kd.C_drew ?_))); (case side2 => exact HC1.out); (case side3 => repeat (first | exact (Kd.C_below HR2.out HB.out) | (with_reducible refine Kd.C_alloc ?_ _) | (with_reducible refine Kd.C_drewN ?_ _) | (with_reducible refine Kd.C_drew ?_))); (case side4 => exact HC2.out); rintro e w18 ⟨v330, v335, rfl, ho0, ho1, hb⟩; refine ⟨_, rfl, ?_⟩; have n0_ := Aside0.mk (Kd.N_lower (Kd.N_mono (ok' := fun k_ => some k_ ≠ (v335 : Value).ownBlock) ho0 (fun k_ hk_ => hk_.2)) (below_size below_any)); have n1_ := Aside0.mk (Kd.N_lower (Kd.N_mono (ok' := fun k_ => some k_ ≠ (v330 : Value).ownBlock) ho1 (fun k_ hk_ => hk_.2)) (below_size below_any)); have n2_ := Aside0.mk (below_step below_any hb); clear HB; have HO331 := n0_; have HO336 := n1_; have HB := n2_; clear n0_ n1_ n2_; (try clear hb); (try clear hb2); (try clear hk); (try clear hi); (try clear ho0); (try clear ho1)) | ((with_reducible refine gate_dst (N := 12) rfl ?_); refine box_event ?hg (N := 12) ?hd (cs := #[.int .u64 0, .slice none 0 0, .string (⟨#[]⟩ : ByteArray)]) (t := 66) ?hr ?_; (case hd => rfl); (case hg => rfl); (case hr => first | (go_simp; done) | (go_simp; rfl)); intro gb339 hg w19 hbox hb; have n0_ := Aside0.mk (Kd.N_below (Kd.N_elderB (by exact Kd.N_to HO331.out) gb339 (Nat.le_of_eq hg.symm)) hb); have n1_ := Aside0.mk (Kd.N_below (Kd.N_elderB (by exact Kd.N_to HO336.out) gb339 (Nat.le_of_eq hg.symm)) hb); have n2_ := Aside0.mk (below_step below_any hb); have n3_ := Aside0.mk (hbox); have n4_ := Aside0.mk ((by rw [hg]; exact (below_size below_any) : w.heap.size ≤ gb339)); have n5_ := n4_; clear HO331; clear HO336; clear HB; have HO331 := n0_; have HO336 := n1_; have HB := n2_; have BK339 := n3_; have GW339 := n4_; have GE339 := n5_; clear n0_ n1_ n2_ n3_ n4_ n5_; clear hb hbox hg) | ((with_reducible refine gate_dst (N := 13) rfl ?_); refine box_event ?hg (N := 13) ?hd (cs := #[.int .u64 0, .slice none 0 0, .string (⟨#[]⟩ : ByteArray)]) (t := 68) ?hr ?_; (case hd => rfl); (case hg => rfl); (case hr => first | (go_simp; done) | (go_simp; rfl)); intro gb340 hg w20 hbox hb; have n0_ := Aside0.mk (Kd.N_below (Kd.N_elderB (by exact Kd.N_to HO331.out) gb340 (Nat.le_of_eq hg.symm)) hb); have n1_ := Aside0.mk (Kd.N_below (Kd.N_elderB (by exact Kd.N_to HO336.out) gb340 (Nat.le_of_eq hg.symm)) hb); have n2_ := Aside0.mk (blk_below (blk_to BK339.out) hb); have n3_ := Aside0.mk (below_step below_any hb); have n4_ := Aside0.mk (hbox); have n5_ := Aside0.mk ((by rw [hg]; exact (below_size below_any) : w.heap.size ≤ gb340)); have n6_ := n5_; have n7_ := Aside0.mk ((by rw [hg]; exact Nat.ne_of_lt (blk_lt (blk_to BK339.out)) : gb339 ≠ gb340)); have n8_ := Aside0.mk ((by rw [hg]; exact Nat.ne_of_gt (blk_lt (blk_to BK339.out)) : gb340 ≠ gb339)); clear HO331; clear HO336; clear BK339; clear HB; have HO331 := n0_; have HO336 := n1_; have BK339 := n2_; have HB := n3_; have BK340 := n4_; have GW340 := n5_; have GE340 := n6_; have NB339_340 := n7_; have NB340_339 := n8_; clear n0_ n1_ n2_ n3_ n4_ n5_ n6_ n7_ n8_; clear hb hbox hg; have hnb21 := NB339_340.out; have hnc21 := NB340_339.out; have hcz22_0 : w20.cell? ⟨gb339, 0, none⟩ = some (.int .u64 0) := (blk_cell BK339.out 0).trans rfl; have hcz22_1 : w20.cell? ⟨gb339, 1, none⟩ = some (.slice none 0 0) := (blk_cell BK339.out 1).trans rfl; have hcz22_2 : w20.cell? ⟨gb339, 2, none⟩ = some (.string (⟨#[]⟩ : ByteArray)) := (blk_cell BK339.out 2).trans rfl; have hfz22_0 := blk_frozen BK339.out 0; have hfz22_1 := blk_frozen BK339.out 1; have hfz22_2 := blk_frozen BK339.out 2; obtain ⟨Ao23, co23, eo23⟩ := Kd.N_slice HO331.out; subst eo23; have hcz24_0 : w20.cell? ⟨gb340, 0, none⟩ = some (.int .u64 0) := (blk_cell BK340.out 0).trans rfl; have hcz24_1 : w20.cell? ⟨gb340, 1, none⟩ = some (.slice none 0 0) := (blk_cell BK340.out 1).trans rfl; have hcz24_2 : w20.cell? ⟨gb340, 2, none⟩ = some (.string (⟨#[]⟩ : ByteArray)) := (blk_cell BK340.out 2).trans rfl; have hfz24_0 := blk_frozen BK340.out 0; have hfz24_1 := blk_frozen BK340.out 1; have hfz24_2 := blk_frozen BK340.out 2; obtain ⟨Ao25, co25, eo25⟩ := Kd.N_slice HO336.out; subst eo25))
     have n0_ : Aside0 (Kd.N k44 44 ((((((w20.setCell ⟨gb339, 0, none⟩ (.int .u64 t328)).setCell ⟨gb339, 1, none⟩ (.slice Ao23 t329.length co23)).setCell ⟨gb339, 2, none⟩ (.string t332)).setCell ⟨gb340, 0, none⟩ (.int .u64 t333)).setCell ⟨gb340, 1, none⟩ (.slice Ao25 t334.length co25)).setCell ⟨gb340, 2, none⟩ (.string t337)) w.heap.size (fun k_ => some k_ ≠ (.slice Ao25 t334.length co25 : Value).ownBlock ∧ k_ ≠ gb339 ∧ k_ ≠ gb340) (.slice Ao23 t329.length co23) t329) := ⟨by apply Kd.N_to; exact Kd.N_mono (Kd.N_far (p := ⟨gb340, 2, none⟩) (Kd.N_far (p := ⟨gb340, 1, none⟩) (Kd.N_far (p := ⟨gb340, 0, none⟩) (Kd.N_far (p := ⟨gb339, 2, none⟩) (Kd.N_far (p := ⟨gb339, 1, none⟩) (Kd.N_far (p := ⟨gb339, 0, none⟩) (Kd.N_mono (Kd.N_mono HO331.out (fun k_ hk => (⟨hk, hk.1.2⟩ : _ ∧ k_ ≠ gb339))) (fun k_ hk => (⟨hk, hk.1.2⟩ : _ ∧ k_ ≠ gb340))) (fun _ hk => hk.1.2) (.int .u64 t328)) (fun _ hk => hk.1.2) (.slice Ao23 t329.length co23)) (fun _ hk => hk.1.2) (.string t332)) (fun _ hk => hk.2) (.int .u64 t333)) (fun _ hk => hk.2) (.slice Ao25 t334.length co25)) (fun _ hk => hk.2) (.string t337)) (fun _ hk => ⟨hk.1.1.1.1, ⟨hk.1.1.1.2, hk.1.1.2⟩⟩)⟩
     have n1_ : Aside0 (Kd.N k46 46 ((((((w20.setCell ⟨gb339, 0, none⟩ (.int .u64 t328)).setCell ⟨gb339, 1, none⟩ (.slice Ao23 t329.length co23)).setCell ⟨gb339, 2, none⟩ (.string t332)).setCell ⟨gb340, 0, none⟩ (.int .u64 t333)).setCell ⟨gb340, 1, none⟩ (.slice Ao25 t334.length co25)).setCell ⟨gb340, 2, none⟩ (.string t337)) w.heap.size (fun k_ => some k_ ≠ (.slice Ao23 t329.length co23 : Value).ownBlock ∧ k_ ≠ gb339 ∧ k_ ≠ gb340) (.slice Ao25 t334.length co25) t334) := ⟨by apply Kd.N_to; exact Kd.N_mono (Kd.N_far (p := ⟨gb340, 2, none⟩) (Kd.N_far (p := ⟨gb340, 1, none⟩) (Kd.N_far (p := ⟨gb340, 0, none⟩) (Kd.N_far (p := ⟨gb339, 2, none⟩) (Kd.N_far (p := ⟨gb339, 1, none⟩) (Kd.N_far (p := ⟨gb339, 0, none⟩) (Kd.N_mono (Kd.N_mono HO336.out (fun k_ hk => (⟨hk, hk.1.2⟩ : _ ∧ k_ ≠ gb339))) (fun k_ hk => (⟨hk, hk.1.2⟩ : _ ∧ k_ ≠ gb340))) (fun _ hk => hk.1.2) (.int .u64 t328)) (fun _ hk => hk.1.2) (.slice Ao23 t329.length co23)) (fun _ hk => hk.1.2) (.string t332)) (fun _ hk => hk.2) (.int .u64 t333)) (fun _ hk => hk.2) (.slice Ao25 t334.length co25)) (fun _ hk => hk.2) (.string t337)) (fun _ hk => ⟨hk.1.1.1.1, ⟨hk.1.1.1.2, hk.1.1.2⟩⟩)⟩
     have n2_ : Aside0 (((((((w20.setCell ⟨gb339, 0, none⟩ (.int .u64 t328)).setCell ⟨gb339, 1, none⟩ (.slice Ao23 t329.length co23)).setCell ⟨gb339, 2, none⟩ (.string t332)).setCell ⟨gb340, 0, none⟩ (.int .u64 t333)).setCell ⟨gb340, 1, none⟩ (.slice Ao25 t334.length co25)).setCell ⟨gb340, 2, none⟩ (.string t337)).heap[gb339]? = some (.cells #[.int .u64 t328, .slice Ao23 t329.length co23, .string t332] 66 (0, 0))) := ⟨by refine blk_to ?_; refine blk_far ?_ NB339_340.out _; refine blk_to ?_; refine blk_far ?_ NB339_340.out _; refine blk_to ?_; refine blk_far ?_ NB339_340.out _; refine blk_to ?_; refine blk_put (cs := #[.int .u64 t328, .slice Ao23 t329.length co23, .string (⟨#[]⟩ : ByteArray)]) ?_ 2 _ rfl; refine blk_to ?_; refine blk_put (cs := #[.int .u64 t328, .slice none 0 0, .string (⟨#[]⟩ : ByteArray)]) ?_ 1 _ rfl; refine blk_to ?_; refine blk_put (cs := #[.int .u64 0, .slice none 0 0, .string (⟨#[]⟩ : ByteArray)]) ?_ 0 _ rfl; refine blk_to ?_; exact BK339.out⟩
     have n3_ : Aside0 (((((((w20.setCell ⟨gb339, 0, none⟩ (.int .u64 t328)).setCell ⟨gb339, 1, none⟩ (.slice Ao23 t329.length co23)).setCell ⟨gb339, 2, none⟩ (.string t332)).setCell ⟨gb340, 0, none⟩ (.int .u64 t333)).setCell ⟨gb340, 1, none⟩ (.slice Ao25 t334.length co25)).setCell ⟨gb340, 2, none⟩ (.string t337)).heap[gb340]? = some (.cells #[.int .u64 t333, .slice Ao25 t334.length co25, .string t337] 68 (0, 0))) := ⟨by refine blk_to ?_; refine blk_put (cs := #[.int .u64 t333, .slice Ao25 t334.length co25, .string (⟨#[]⟩ : ByteArray)]) ?_ 2 _ rfl; refine blk_to ?_; refine blk_put (cs := #[.int .u64 t333, .slice none 0 0, .string (⟨#[]⟩ : ByteArray)]) ?_ 1 _ rfl; refine blk_to ?_; refine blk_put (cs := #[.int .u64 0, .slice none 0 0, .string (⟨#[]⟩ : ByteArray)]) ?_ 0 _ rfl; refine blk_to ?_; refine blk_far ?_ NB340_339.out _; refine blk_to ?_; refine blk_far ?_ NB340_339.out _; refine blk_to ?_; refine blk_far ?_ NB340_339.out _; refine blk_to ?_; exact BK340.out⟩
     have n4_ : Aside0 (Below w.heap.size w ((((((w20.setCell ⟨gb339, 0, none⟩ (.int .u64 t328)).setCell ⟨gb339, 1, none⟩ (.slice Ao23 t329.length co23)).setCell ⟨gb339, 2, none⟩ (.string t332)).setCell ⟨gb340, 0, none⟩ (.int .u64 t333)).setCell ⟨gb340, 1, none⟩ (.slice Ao25 t334.length co25)).setCell ⟨gb340, 2, none⟩ (.string t337))) := ⟨below_any⟩
     (try clear HO331)
     (try clear HO336)
     (try clear BK339)
     (try clear BK340)
     (try clear HB)
     generalize ((((((w20.setCell ⟨gb339, 0, none⟩ (.int .u64 t328)).setCell ⟨gb339, 1, none⟩ (.slice Ao23 t329.length co23)).setCell ⟨gb339, 2, none⟩ (.string t332)).setCell ⟨gb340, 0, none⟩ (.int .u64 t333)).setCell ⟨gb340, 1, none⟩ (.slice Ao25 t334.length co25)).setCell ⟨gb340, 2, none⟩ (.string t337)) = w26 at n0_ n1_ n2_ n3_ n4_ ⊢
     have HO331 := n0_
     have HO336 := n1_
     have BK339 := n2_
     have BK340 := n3_
     have HB := n4_
     clear n0_ n1_ n2_ n3_ n4_
     have n0_ := Aside0.mk (Kd.N_drew HO331.out)
     have n1_ := Aside0.mk (Kd.N_drew HO336.out)
     have n2_ := Aside0.mk (blk_drew BK339.out)
     have n3_ := Aside0.mk (blk_drew BK340.out)
     have n4_ := Aside0.mk (below_drew1 HB.out)
     clear HO331
     clear HO336
     clear BK339
     clear BK340
     clear HB
     have HO331 := n0_
     have HO336 := n1_
     have BK339 := n2_
     have BK340 := n3_
     have HB := n4_
     clear n0_ n1_ n2_ n3_ n4_
     refine start_ (n := 11) (S := fun w' => w'.cell? ⟨gb339, 0, none⟩ = some (.int .u64 t328) ∧ w'.cell? ⟨gb339, 1, none⟩ = some (.slice Ao23 t329.length co23) ∧ w'.cell? ⟨gb339, 2, none⟩ = some (.string t332) ∧ w'.cell? ⟨gb340, 0, none⟩ = some (.int .u64 t333) ∧ w'.cell? ⟨gb340, 1, none⟩ = some (.slice Ao25 t334.length co25) ∧ w'.cell? ⟨gb340, 2, none⟩ = some (.string t337)) (ds := []) #[false, false, false, false, false, false, false, false, false, false, false] (by kernel_rfl) rfl rfl ⟨(blk_cell BK339.out 0).trans rfl, (blk_cell BK339.out 1).trans rfl, (blk_cell BK339.out 2).trans rfl, (blk_cell BK340.out 0).trans rfl, (blk_cell BK340.out 1).trans rfl, (blk_cell BK340.out 2).trans rfl⟩ (fun hHeld => ?_); refine with_tabW rootcellarlaw13_JournalAdds.tab7 rootcellarlaw13_JournalAdds.bits7 (fun HT_ HW_ => ?_)
     generalize w26.drew = w27 at HO331 HO336 BK339 BK340 HB hHeld ⊢
     refine pure_ (i := 0) (N := some 39) (v := ?_) (a' := ?_) #[true, false, false, false, false, false, false, false, false, false, false] rfl rfl (any_of HT_.out (by kernel_rfl)) (fun _ _ _ h => h) (Or.inl ⟨by rfl, ?_⟩) ?_ ?_
     rotate_left
     ·intro w'
      go_simp
      with_reducible rfl
     rotate_left
     ·simp only [Act.put, List.setIfInBounds_toArray, List.set_cons_zero, List.set_cons_succ, i64_w, i32_w]
      rfl
     refine pure_ (i := 1) (N := some 40) (v := ?_) (a' := ?_) #[true, true, false, false, false, false, false, false, false, false, false] rfl rfl (any_of HT_.out (by kernel_rfl)) (fun _ _ _ h => h) (Or.inl ⟨by rfl, ?_⟩) ?_ ?_
     rotate_left
     ·intro w'
      go_simp
      with_reducible rfl
     rotate_left
     ·simp only [Act.put, List.setIfInBounds_toArray, List.set_cons_zero, List.set_cons_succ, i64_w, i32_w]
      rfl
     refine pure_ (i := 3) (N := some 42) (v := ?_) (a' := ?_) #[true, true, false, true, false, false, false, false, false, false, false] rfl rfl (any_of HT_.out (by kernel_rfl)) (fun _ _ _ h => h) (Or.inl ⟨by rfl, ?_⟩) ?_ ?_
     rotate_left
     ·intro w'
      go_simp
      with_reducible rfl
     rotate_left
     ·simp only [Act.put, List.setIfInBounds_toArray, List.set_cons_zero, List.set_cons_succ, i64_w, i32_w]
      rfl
     refine pure_ (i := 6) (N := some 45) (v := ?_) (a' := ?_) #[true, true, false, true, false, false, true, false, false, false, false] rfl rfl (any_of HT_.out (by kernel_rfl)) (fun _ _ _ h => h) (Or.inl ⟨by rfl, ?_⟩) ?_ ?_
     rotate_left
     ·intro w'
      go_simp
      with_reducible rfl
     rotate_left
     ·simp only [Act.put, List.setIfInBounds_toArray, List.set_cons_zero, List.set_cons_succ, i64_w, i32_w]
      rfl
     refine take_ (i := 2) (N := some 41) (v := ?_) (a' := ?_) #[true, true, true, true, false, false, true, false, false, false, false] rfl rfl (take_ofW HT_.out HW_.out (by kernel_rfl)) (fun _ _ _ h => h) (Or.inl ⟨by rfl, ?_⟩) hHeld ?_ ?_
     rotate_left
     ·rintro w' ⟨s0, s1, s2, s3, s4, s5⟩
      go_simp
      with_reducible rfl
     rotate_left
     ·simp only [Act.put, List.setIfInBounds_toArray, List.set_cons_zero, List.set_cons_succ, i64_w, i32_w]
      rfl
     refine take_ (i := 5) (N := some 44) (v := ?_) (a' := ?_) #[true, true, true, true, false, true, true, false, false, false, false] rfl rfl (take_ofW HT_.out HW_.out (by kernel_rfl)) (fun _ _ _ h => h) (Or.inl ⟨by rfl, ?_⟩) hHeld ?_ ?_
     rotate_left
     ·rintro w' ⟨s0, s1, s2, s3, s4, s5⟩
      go_simp
      with_reducible rfl
     rotate_left
     ·simp only [Act.put, List.setIfInBounds_toArray, List.set_cons_zero, List.set_cons_succ, i64_w, i32_w]
      rfl
     refine one_ (i := 4) (N := some 43) #[true, true, true, true, true, true, true, false, false, false, false] rfl rfl (one_of HT_.out (by kernel_rfl)) (by decide) (fun K hK => ?_)
     refine goes_ Tryd.func36 (by kernel_rfl) rfl #[.agg #[.int .u64 t328, .slice Ao23 t329.length co23, .string t332], .int .u64 a3] (by rfl) rfl rfl (by (try simp only [List.map_toArray, List.map_cons, List.map_nil]); first | done | rfl | (simp only [List.length_drop, List.length_take]; rfl) | (rw [wrap_sum2 (by assumption)]; rfl)) ?_
     with_reducible refine (journal_After.calls kj7 t328 _ _ t329 t332 a3 t341 _ ?side1 ?side2 A15.out).mono ?_
     (case side1 => repeat (first | exact (Kd.N_reads' HO331.out).2.2 | (with_reducible refine Kd.C_alloc ?_ _) | (with_reducible refine Kd.C_drewN ?_ _) | (with_reducible refine Kd.C_drew ?_)))
     (case side2 => exact (Kd.N_reads' HO331.out).2.1)
     rintro e w28 ⟨v342, rfl, ho0, hb⟩
     refine ⟨_, rfl, ?_⟩
     have n0_ := Aside0.mk (Kd.N_elder' (by exact Kd.N_to HO331.out) (Kd.R_base ho0) hb)
     have n1_ := Aside0.mk (Kd.N_elder' (by exact Kd.N_to HO336.out) (Kd.R_base ho0) hb)
     have n2_ := Aside0.mk (Kd.R_lower ho0 (below_size below_any))
     have n3_ := Aside0.mk (blk_below (blk_to BK339.out) hb)
     have n4_ := Aside0.mk (blk_below (blk_to BK340.out) hb)
     have n5_ := Aside0.mk (below_step below_any hb)
     clear HO331
     clear HO336
     clear BK339
     clear BK340
     clear HB
     have HO331 := n0_
     have HO336 := n1_
     have HO343 := n2_
     have BK339 := n3_
     have BK340 := n4_
     have HB := n5_
     clear n0_ n1_ n2_ n3_ n4_ n5_
     (try clear hb)
     (try clear hb2)
     (try clear hk)
     (try clear hi)
     (try clear ho0)
     refine hK.out _ _ ⟨(blk_cell BK339.out 0).trans rfl, (blk_cell BK339.out 1).trans rfl, (blk_cell BK339.out 2).trans rfl, (blk_cell BK340.out 0).trans rfl, (blk_cell BK340.out 1).trans rfl, (blk_cell BK340.out 2).trans rfl⟩ (fun hHeld => ?_)
     clear hK K
     refine norm_ (a' := ?_) ?_ ?_
     rotate_left
     ·show Act.put _ (some 43) _ = _
      simp only [Act.put, List.setIfInBounds_toArray, List.set_cons_zero, List.set_cons_succ, i64_w, i32_w]
      rfl
     refine one_ (i := 7) (N := some 46) #[true, true, true, true, true, true, true, true, false, false, false] rfl rfl (one_of HT_.out (by kernel_rfl)) (by decide) (fun K hK => ?_)
     refine goes_ Tryd.func37 (by kernel_rfl) rfl #[.agg #[.int .u64 t333, .slice Ao25 t334.length co25, .string t337], .int .u64 a3] (by rfl) rfl rfl (by (try simp only [List.map_toArray, List.map_cons, List.map_nil]); first | done | rfl | (simp only [List.length_drop, List.length_take]; rfl) | (rw [wrap_sum2 (by assumption)]; rfl)) ?_
     with_reducible refine (rootcellarref13_After.calls kj7 t333 _ _ t334 t337 a3 t344 _ ?side1 ?side2 A16.out).mono ?_
     (case side1 => repeat (first | exact (Kd.N_reads' HO336.out).2.2 | (with_reducible refine Kd.C_alloc ?_ _) | (with_reducible refine Kd.C_drewN ?_ _) | (with_reducible refine Kd.C_drew ?_)))
     (case side2 => exact (Kd.N_reads' HO336.out).2.1)
     rintro e w29 ⟨v345, rfl, ho0, hb⟩
     refine ⟨_, rfl, ?_⟩
     have n0_ := Aside0.mk (Kd.N_elder' (by exact Kd.N_to HO331.out) (Kd.R_base ho0) hb)
     have n1_ := Aside0.mk (Kd.N_elder' (by exact Kd.N_to HO336.out) (Kd.R_base ho0) hb)
     have n2_ := Aside0.mk (Kd.R_below (by exact Kd.R_to HO343.out) hb)
     have n3_ := Aside0.mk (Kd.R_lower ho0 (below_size below_any))
     have n4_ := Aside0.mk (blk_below (blk_to BK339.out) hb)
     have n5_ := Aside0.mk (blk_below (blk_to BK340.out) hb)
     have n6_ := Aside0.mk (below_step below_any hb)
     clear HO331
     clear HO336
     clear HO343
     clear BK339
     clear BK340
     clear HB
     have HO331 := n0_
     have HO336 := n1_
     have HO343 := n2_
     have HO346 := n3_
     have BK339 := n4_
     have BK340 := n5_
     have HB := n6_
     clear n0_ n1_ n2_ n3_ n4_ n5_ n6_
     (try clear hb)
     (try clear hb2)
     (try clear hk)
     (try clear hi)
     (try clear ho0)
     obtain ⟨Ao30, co30, eo30⟩ := Kd.R_slice HO343.out
     (first | subst eo30 | (injection eo30 with f1_ f2_ f3_; have f4_ := f1_.symm; have f5_ := f3_.symm; clear f1_ f2_ f3_; subst f4_; subst f5_))
     obtain ⟨Ao31, co31, eo31⟩ := Kd.R_slice HO346.out
     (first | subst eo31 | (injection eo31 with f1_ f2_ f3_; have f4_ := f1_.symm; have f5_ := f3_.symm; clear f1_ f2_ f3_; subst f4_; subst f5_))
     refine hK.out _ _ ⟨(blk_cell BK339.out 0).trans rfl, (blk_cell BK339.out 1).trans rfl, (blk_cell BK339.out 2).trans rfl, (blk_cell BK340.out 0).trans rfl, (blk_cell BK340.out 1).trans rfl, (blk_cell BK340.out 2).trans rfl⟩ (fun hHeld => ?_)
     clear hK K
     refine norm_ (a' := ?_) ?_ ?_
     rotate_left
     ·show Act.put _ (some 46) _ = _
      simp only [Act.put, List.setIfInBounds_toArray, List.set_cons_zero, List.set_cons_succ, i64_w, i32_w]
      rfl
     refine one_ (i := 8) (N := some 47) #[true, true, true, true, true, true, true, true, true, false, false] rfl rfl (one_of HT_.out (by kernel_rfl)) (by decide) (fun K hK => ?_)
     refine goes_ Tryd.func35 (by kernel_rfl) rfl #[.slice Ao30 t341.length co30, .slice Ao31 t344.length co31] (by rfl) rfl rfl (by (try simp only [List.map_toArray, List.map_cons, List.map_nil]); first | done | rfl | (simp only [List.length_drop, List.length_take]; rfl) | (rw [wrap_sum2 (by assumption)]; rfl)) ?_
     with_reducible refine (rootcellarlaw13_sameSteps.calls kj7 _ _ t341 _ _ t344 t347 _ ?side1 ?side2 ?side3 ?side4 A17.out).mono ?_
     (case side1 => repeat (first | exact (Kd.R_reads' HO343.out).2.2 | (with_reducible refine Kd.C_alloc ?_ _) | (with_reducible refine Kd.C_drewN ?_ _) | (with_reducible refine Kd.C_drew ?_)))
     (case side2 => exact (Kd.R_reads' HO343.out).2.1)
     (case side3 => repeat (first | exact (Kd.R_reads' HO346.out).2.2 | (with_reducible refine Kd.C_alloc ?_ _) | (with_reducible refine Kd.C_drewN ?_ _) | (with_reducible refine Kd.C_drew ?_)))
     (case side4 => exact (Kd.R_reads' HO346.out).2.1)
     rintro e w32 ⟨rfl, hb⟩
     refine ⟨_, rfl, ?_⟩
     have n0_ := Aside0.mk (Kd.N_below (by exact Kd.N_to HO331.out) hb)
     have n1_ := Aside0.mk (Kd.N_below (by exact Kd.N_to HO336.out) hb)
     have n2_ := Aside0.mk (Kd.R_below (by exact Kd.R_to HO343.out) hb)
     have n3_ := Aside0.mk (Kd.R_below (by exact Kd.R_to HO346.out) hb)
     have n4_ := Aside0.mk (blk_below (blk_to BK339.out) hb)
     have n5_ := Aside0.mk (blk_below (blk_to BK340.out) hb)
     have n6_ := Aside0.mk (below_step below_any hb)
     clear HO331
     clear HO336
     clear HO343
     clear HO346
     clear BK339
     clear BK340
     clear HB
     have HO331 := n0_
     have HO336 := n1_
     have HO343 := n2_
     have HO346 := n3_
     have BK339 := n4_
     have BK340 := n5_
     have HB := n6_
     clear n0_ n1_ n2_ n3_ n4_ n5_ n6_
     (try clear hb)
     (try clear hb2)
     (try clear hk)
     (try clear hi)
     refine hK.out _ _ ⟨(blk_cell BK339.out 0).trans rfl, (blk_cell BK339.out 1).trans rfl, (blk_cell BK339.out 2).trans rfl, (blk_cell BK340.out 0).trans rfl, (blk_cell BK340.out 1).trans rfl, (blk_cell BK340.out 2).trans rfl⟩ (fun hHeld => ?_)
     clear hK K
     refine norm_ (a' := ?_) ?_ ?_
     rotate_left
     ·show Act.put _ (some 47) _ = _
      simp only [Act.put, List.setIfInBounds_toArray, List.set_cons_zero, List.set_cons_succ, i64_w, i32_w]
      rfl
     refine pure_ (i := 9) (N := some 48) (v := ?_) (a' := ?_) #[true, true, true, true, true, true, true, true, true, true, false] rfl rfl (any_of HT_.out (by kernel_rfl)) (fun _ _ _ h => h) (Or.inl ⟨by rfl, ?_⟩) ?_ ?_
     rotate_left
     ·intro w'
      go_simp
      with_reducible rfl
     rotate_left
     ·simp only [Act.put, List.setIfInBounds_toArray, List.set_cons_zero, List.set_cons_succ, i64_w, i32_w]
      rfl
     refine pure_ (i := 10) (N := some 8) (v := ?_) (a' := ?_) #[true, true, true, true, true, true, true, true, true, true, true] rfl rfl (any_of HT_.out (by kernel_rfl)) (fun _ _ _ h => h) (Or.inl ⟨by rfl, ?_⟩) ?_ ?_
     rotate_left
     ·intro w'
      go_simp
      with_reducible rfl
     rotate_left
     ·simp only [Act.put, List.setIfInBounds_toArray, List.set_cons_zero, List.set_cons_succ, i64_w, i32_w]
      rfl
     refine done_ (done_of HT_.out (by kernel_rfl)) ?_
     try go_wp2
     go_ret
     exact ⟨by first | rfl | (simp [errW_none, errW_some] <;> rfl) | (simp [*, errW_none, errW_some] <;> rfl), below_any⟩
    ·replace c14 := Bool.eq_false_iff.mpr c14
     subst c14
     have H1 : (none) = some r := by rw [if_neg (show ¬ (false = true) by decide)] at H; exact H
     clear H
     have H := H1
     clear H1
     exact absurd H (by simp)
end Go.Proofs.YtboommbclbjlnaaDoor.Fn
end
