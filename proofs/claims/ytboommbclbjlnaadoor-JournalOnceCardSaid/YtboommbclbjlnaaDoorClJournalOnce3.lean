-- Packed by pack.py, a program of this session, out of texts of this claim.
import Derived.Test.YtboommbclbjlnaaDoorClJournalOnce1
import Derived.Test.YtboommbclbjlnaaDoorClJournalOnce2
section
-- Written by printx.py, a program of this session over the kit's print: each Go function as a plain Lean function, and that the Go code computes it.
namespace Go.Proofs.YtboommbclbjlnaaDoor.Fn
open Go.RowKit Go.Proofs.YtboommbclbjlnaaDoorW.PrintWords Go.Proofs.YtboommbclbjlnaaDoorW.PrintLast Go.Proofs.YtboommbclbjlnaaDoorW.PrintMore Go.Proofs.YtboommbclbjlnaaDoor.Lf
attribute [local go_sem] max2_int min2_int max_two min_two max_three min_three max_four min_four   -- for this text's walks alone
set_option linter.unusedVariables false
set_option linter.unusedSimpArgs false
mutual
def l13_JournalOnce.j0 : Nat → Int → List (List (S24)) → Int → Bool → Bool → Option (Bool)
 | 0, _, _, _, _, _ => none
 | k + 1, x0, x1, x2, x7, x34 => if x34 = true then (some x7) else ((journal_New.f k x0 ([] : List (S24))).bind fun bt404 => (l13_JournalOnce.l0 k x0 x1 (mx 0 (mn x2 (x1.length : Int))) 0 bt404.1 bt404.2.1 bt404.2.2.1 bt404.1 bt404.2.1 bt404.2.2.1))
def l13_JournalOnce.l0 : Nat → Int → List (List (S24)) → Int → Int → Int → List (S44) → ByteArray → Int → List (S44) → ByteArray → Option (Bool)
 | 0, _, _, _, _, _, _, _, _, _, _ => none
 | k + 1, x0, x1, x2, x12, x411000, x411001, x411002, x412000, x412001, x412002 => if x12 < (x1.length : Int) then (if 0 ≤ x12 then ((journal_Add.f k x411000 x411001 x411002 (rd_L4 x1 x12)).bind fun bt413 => (if bt413.2.2.2 = 0 then (if (wrap64 (x12 + 1)) = x2 then (l13_JournalOnce.l0 k x0 x1 x2 (wrap64 (x12 + 1)) bt413.1 bt413.2.1 bt413.2.2.1 bt413.1 bt413.2.1 bt413.2.2.1) else (l13_JournalOnce.l0 k x0 x1 x2 (wrap64 (x12 + 1)) bt413.1 bt413.2.1 bt413.2.2.1 x412000 x412001 x412002)) else (if (wrap64 (x12 + 1)) = x2 then (l13_JournalOnce.l0 k x0 x1 x2 (wrap64 (x12 + 1)) x411000 x411001 x411002 x411000 x411001 x411002) else (l13_JournalOnce.l0 k x0 x1 x2 (wrap64 (x12 + 1)) x411000 x411001 x411002 x412000 x412001 x412002)))) else (none)) else ((journal_Join.f k x412000 x412001 x412002 x411000 x411001 x411002).bind fun bt420 => ((journal_After.f k x411000 x411001 x411002 0).bind fun t425 => (if x0 = 0 then ((some (([] : List (S24)) : List (S24))).bind fun y428 => (if y428.length + t425.length < 2932031007402 then (l13_JournalOnce.j2 k x0 bt420.1 bt420.2.1 bt420.2.2 (y428 ++ t425) x411000 x411001 x411002) else (none))) else (l13_JournalOnce.j2 k x0 bt420.1 bt420.2.1 bt420.2.2 t425 x411000 x411001 x411002))))
def l13_JournalOnce.j2 : Nat → Int → List (S24) → Int → Int → List (S24) → Int → List (S44) → ByteArray → Option (Bool)
 | 0, _, _, _, _, _, _, _, _ => none
 | k + 1, x0, x15, x16, x17, x18, x411000, x411001, x411002 => (journal_Join.f k x411000 x411001 x411002 x411000 x411001 x411002).bind fun bt434 => (if x17 = 0 then (if bt434.2.2 = 0 then (if x16 = x411000 then (if bt434.2.1 = x411000 then ((l13_steps.f k bt434.1).bind fun t439 => ((l13_sameSteps.f k x15 t439).bind fun t442 => (if t442 = true then (if x0 = 0 then (some true) else ((l13_steps.f k x18).bind fun t443 => ((l13_sameSteps.f k x15 t443).bind fun t446 => (some t446)))) else (none)))) else (none)) else (none)) else (none)) else (none))
end
def l13_JournalOnce.f (k : Nat) (a0 : Int) (l1 : List (List (S24))) (a2 : Int) : Option (Bool) := (l13_shown.f k).bind fun t402 => ((l13_short.f k l1).bind fun t403 => (if t402 = true then (if t403 = true then (l13_JournalOnce.j0 k a0 l1 a2 t402 (decide (a0 > 1099511627776))) else (l13_JournalOnce.j0 k a0 l1 a2 t402 true)) else (l13_JournalOnce.j0 k a0 l1 a2 t402 true)))
theorem l13_JournalOnce.mono_l : ∀ k, (∀ y0 y1 y2 y3 y4, LeO (l13_JournalOnce.j0 k y0 y1 y2 y3 y4) (l13_JournalOnce.j0 (k + 1) y0 y1 y2 y3 y4)) ∧ (∀ y0 y1 y2 y3 y4 y5 y6 y7 y8 y9, LeO (l13_JournalOnce.l0 k y0 y1 y2 y3 y4 y5 y6 y7 y8 y9) (l13_JournalOnce.l0 (k + 1) y0 y1 y2 y3 y4 y5 y6 y7 y8 y9)) ∧ (∀ y0 y1 y2 y3 y4 y5 y6 y7, LeO (l13_JournalOnce.j2 k y0 y1 y2 y3 y4 y5 y6 y7) (l13_JournalOnce.j2 (k + 1) y0 y1 y2 y3 y4 y5 y6 y7))
 | 0 => ⟨fun _ _ _ _ _ r h => by simp [l13_JournalOnce.j0] at h, fun _ _ _ _ _ _ _ _ _ _ r h => by simp [l13_JournalOnce.l0] at h, fun _ _ _ _ _ _ _ _ r h => by simp [l13_JournalOnce.j2] at h⟩
 | k + 1 => by
  obtain ⟨ih0, ih1, ih2⟩ := l13_JournalOnce.mono_l k
  refine ⟨?_, ?_, ?_⟩
  ·intro y0 y1 y2 y3 y4
   unfold l13_JournalOnce.j0
   repeat' first
   | (with_reducible exact ih0 _ _ _ _ _)
   | (with_reducible exact ih1 _ _ _ _ _ _ _ _ _ _)
   | (with_reducible exact ih2 _ _ _ _ _ _ _ _)
   | (with_reducible exact journal_Add.mono _ _ _ _ _)
   | (with_reducible exact journal_After.mono _ _ _ _ _)
   | (with_reducible exact journal_Join.mono _ _ _ _ _ _ _)
   | (with_reducible exact journal_New.mono _ _ _)
   | (with_reducible exact l13_sameSteps.mono _ _ _)
   | (with_reducible exact l13_short.mono _ _)
   | (with_reducible exact l13_shown.mono _)
   | (with_reducible exact l13_steps.mono _ _)
   | (with_reducible exact LeO.refl _)
   | (with_reducible exact LeO.none _)
   | (with_reducible refine LeO.ite ?_ ?_)
   | (with_reducible refine LeO.bind ?_ (fun _ => ?_))
   | exact ih0 _ _ _ _ _
   | exact ih1 _ _ _ _ _ _ _ _ _ _
   | exact ih2 _ _ _ _ _ _ _ _
   | exact journal_Add.mono _ _ _ _ _
   | exact journal_After.mono _ _ _ _ _
   | exact journal_Join.mono _ _ _ _ _ _ _
   | exact journal_New.mono _ _ _
   | exact l13_sameSteps.mono _ _ _
   | exact l13_short.mono _ _
   | exact l13_shown.mono _
   | exact l13_steps.mono _ _
   | exact LeO.none _
   | refine LeO.ite ?_ ?_
   | refine LeO.bind ?_ (fun _ => ?_)
  ·intro y0 y1 y2 y3 y4 y5 y6 y7 y8 y9
   unfold l13_JournalOnce.l0
   repeat' first
   | (with_reducible exact ih0 _ _ _ _ _)
   | (with_reducible exact ih1 _ _ _ _ _ _ _ _ _ _)
   | (with_reducible exact ih2 _ _ _ _ _ _ _ _)
   | (with_reducible exact journal_Add.mono _ _ _ _ _)
   | (with_reducible exact journal_After.mono _ _ _ _ _)
   | (with_reducible exact journal_Join.mono _ _ _ _ _ _ _)
   | (with_reducible exact journal_New.mono _ _ _)
   | (with_reducible exact l13_sameSteps.mono _ _ _)
   | (with_reducible exact l13_short.mono _ _)
   | (with_reducible exact l13_shown.mono _)
   | (with_reducible exact l13_steps.mono _ _)
   | (with_reducible exact LeO.refl _)
   | (with_reducible exact LeO.none _)
   | (with_reducible refine LeO.ite ?_ ?_)
   | (with_reducible refine LeO.bind ?_ (fun _ => ?_))
   | exact ih0 _ _ _ _ _
   | exact ih1 _ _ _ _ _ _ _ _ _ _
   | exact ih2 _ _ _ _ _ _ _ _
   | exact journal_Add.mono _ _ _ _ _
   | exact journal_After.mono _ _ _ _ _
   | exact journal_Join.mono _ _ _ _ _ _ _
   | exact journal_New.mono _ _ _
   | exact l13_sameSteps.mono _ _ _
   | exact l13_short.mono _ _
   | exact l13_shown.mono _
   | exact l13_steps.mono _ _
   | exact LeO.none _
   | refine LeO.ite ?_ ?_
   | refine LeO.bind ?_ (fun _ => ?_)
  ·intro y0 y1 y2 y3 y4 y5 y6 y7
   unfold l13_JournalOnce.j2
   repeat' first
   | (with_reducible exact ih0 _ _ _ _ _)
   | (with_reducible exact ih1 _ _ _ _ _ _ _ _ _ _)
   | (with_reducible exact ih2 _ _ _ _ _ _ _ _)
   | (with_reducible exact journal_Add.mono _ _ _ _ _)
   | (with_reducible exact journal_After.mono _ _ _ _ _)
   | (with_reducible exact journal_Join.mono _ _ _ _ _ _ _)
   | (with_reducible exact journal_New.mono _ _ _)
   | (with_reducible exact l13_sameSteps.mono _ _ _)
   | (with_reducible exact l13_short.mono _ _)
   | (with_reducible exact l13_shown.mono _)
   | (with_reducible exact l13_steps.mono _ _)
   | (with_reducible exact LeO.refl _)
   | (with_reducible exact LeO.none _)
   | (with_reducible refine LeO.ite ?_ ?_)
   | (with_reducible refine LeO.bind ?_ (fun _ => ?_))
   | exact ih0 _ _ _ _ _
   | exact ih1 _ _ _ _ _ _ _ _ _ _
   | exact ih2 _ _ _ _ _ _ _ _
   | exact journal_Add.mono _ _ _ _ _
   | exact journal_After.mono _ _ _ _ _
   | exact journal_Join.mono _ _ _ _ _ _ _
   | exact journal_New.mono _ _ _
   | exact l13_sameSteps.mono _ _ _
   | exact l13_short.mono _ _
   | exact l13_shown.mono _
   | exact l13_steps.mono _ _
   | exact LeO.none _
   | refine LeO.ite ?_ ?_
   | refine LeO.bind ?_ (fun _ => ?_)
theorem l13_JournalOnce.mono : ∀ a0 a1 a2 k, LeO (l13_JournalOnce.f k a0 a1 a2) (l13_JournalOnce.f (k + 1) a0 a1 a2) := by
 intro a0 a1 a2 k
 obtain ⟨ih0, ih1, ih2⟩ := l13_JournalOnce.mono_l k
 unfold l13_JournalOnce.f
 repeat' first
   | (with_reducible exact ih0 _ _ _ _ _)
   | (with_reducible exact ih1 _ _ _ _ _ _ _ _ _ _)
   | (with_reducible exact ih2 _ _ _ _ _ _ _ _)
   | (with_reducible exact journal_Add.mono _ _ _ _ _)
   | (with_reducible exact journal_After.mono _ _ _ _ _)
   | (with_reducible exact journal_Join.mono _ _ _ _ _ _ _)
   | (with_reducible exact journal_New.mono _ _ _)
   | (with_reducible exact l13_sameSteps.mono _ _ _)
   | (with_reducible exact l13_short.mono _ _)
   | (with_reducible exact l13_shown.mono _)
   | (with_reducible exact l13_steps.mono _ _)
   | (with_reducible exact LeO.refl _)
   | (with_reducible exact LeO.none _)
   | (with_reducible refine LeO.ite ?_ ?_)
   | (with_reducible refine LeO.bind ?_ (fun _ => ?_))
   | exact ih0 _ _ _ _ _
   | exact ih1 _ _ _ _ _ _ _ _ _ _
   | exact ih2 _ _ _ _ _ _ _ _
   | exact journal_Add.mono _ _ _ _ _
   | exact journal_After.mono _ _ _ _ _
   | exact journal_Join.mono _ _ _ _ _ _ _
   | exact journal_New.mono _ _ _
   | exact l13_sameSteps.mono _ _ _
   | exact l13_short.mono _ _
   | exact l13_shown.mono _
   | exact l13_steps.mono _ _
   | exact LeO.none _
   | refine LeO.ite ?_ ?_
   | refine LeO.bind ?_ (fun _ => ?_)
def l13_JournalOnce.T11 : Bool × List (List Nat × List Nat) := (true, [([], []), ([], []), ([], []), ([1, 2], [1, 2]), ([3], [3]), ([0, 4], [0, 4]), ([5], [5]), ([6], [6]), ([6], [6]), ([], []), ([9, 7, 5, 0, 1, 2, 3, 4, 5, 6, 7, 9], [7, 9]), ([8, 10, 0, 1, 2, 3, 4, 5, 6, 7, 8, 9, 10], [8])])
def l13_JournalOnce.B11 : List Nat := [0, 0, 0, 6, 14, 31, 63, 127, 127, 0, 767, 2047]
theorem l13_JournalOnce.tab11 : rtab .any (opsOf Tryd.f14 11) = l13_JournalOnce.T11 := by kernel_rfl
theorem l13_JournalOnce.bits11 : waitsOk l13_JournalOnce.T11.2 l13_JournalOnce.B11 = true := by kernel_rfl
set_option maxHeartbeats 8000000 in
set_option maxRecDepth 100000 in
theorem l13_JournalOnce.calls (k : Nat) (a0 : Int) (A1 : Option Addr) (c1 : Nat) (l1 : List (List (S24))) (a2 : Int) (r : Bool) (w : World) (hr1 : Kd.C (Kd.slice 24 k24) w A1 l1.length l1) (hc1 : l1.length ≤ c1) (h : l13_JournalOnce.f k a0 l1 a2 = some r) (HT : Tabs w) :
  Calls Tryd.prog 14 #[.int .u64 a0, .slice A1 l1.length c1, .int .i64 a2] w fun e w' => e = .returned (.bool r) ∧ Below w.heap.size w w' := by
 have hu66 := Tryd.underlying66
 have HR1 := Ax.mk hr1
 have HC1 := Ax.mk hc1
 clear hr1 hc1
 have HB := Ax.mk (Below.refl w.heap.size w)
 have H : ((l13_shown.f k).bind fun t402 => ((l13_short.f k l1).bind fun t403 => (if t402 = true then (if t403 = true then (l13_JournalOnce.j0 k a0 l1 a2 t402 (decide (a0 > 1099511627776))) else (l13_JournalOnce.j0 k a0 l1 a2 t402 true)) else (l13_JournalOnce.j0 k a0 l1 a2 t402 true)))) = some r := h
 clear h
 replace H := Option.bind_eq_some_iff.mp H
 obtain ⟨t402, A40, H⟩ := H
 replace H : ((l13_short.f k l1).bind fun t403 => (if t402 = true then (if t403 = true then (l13_JournalOnce.j0 k a0 l1 a2 t402 (decide (a0 > 1099511627776))) else (l13_JournalOnce.j0 k a0 l1 a2 t402 true)) else (l13_JournalOnce.j0 k a0 l1 a2 t402 true))) = some r := H
 have A4 := Ax.mk A40
 clear A40
 replace H := Option.bind_eq_some_iff.mp H
 obtain ⟨t403, A50, H⟩ := H
 replace H : (if t402 = true then (if t403 = true then (l13_JournalOnce.j0 k a0 l1 a2 t402 (decide (a0 > 1099511627776))) else (l13_JournalOnce.j0 k a0 l1 a2 t402 true)) else (l13_JournalOnce.j0 k a0 l1 a2 t402 true)) = some r := H
 have A5 := Ax.mk A50
 clear A50
 have HC6 := Ax.mk H
 clear H
 go_enter Tryd.func14, Tryd.ntmps14
 go_upto_region 3 with (first | ((with_reducible refine gate_callee (f := 31) rfl ?_); refine goesL_ (some 22) rfl rfl Tryd.func31 (by kernel_rfl) rfl #[] rfl (by (try simp only [List.map_toArray, List.map_cons, List.map_nil]); first | done | rfl | (simp only [List.length_drop, List.length_take]; rfl) | (rw [wrap_sum2 (by assumption)]; rfl)) ?_; (with_reducible refine (l13_shown.calls k  t402 _ A4.out (HT.below bA)).mono ?_); rintro e w7 ⟨rfl, hb⟩; refine ⟨_, rfl, ?_⟩; have n0_ := Ax.mk (bP bA hb); clear HB; have HB := n0_; clear n0_; (try clear hb); (try clear hb2); (try clear hk); (try clear hi)) | ((with_reducible refine gate_callee (f := 33) rfl ?_); refine goesL_ (some 24) rfl rfl Tryd.func33 (by kernel_rfl) rfl #[.slice A1 l1.length c1] rfl (by (try simp only [List.map_toArray, List.map_cons, List.map_nil]); first | done | rfl | (simp only [List.length_drop, List.length_take]; rfl) | (rw [wrap_sum2 (by assumption)]; rfl)) ?_; (with_reducible refine (l13_short.calls k _ _ l1 t403 _ ?side1 ?side2 A5.out).mono ?_); (case side1 => repeat (first | exact (Kd.C_below HR1.out HB.out) | (with_reducible refine Kd.C_alloc ?_ _) | (with_reducible refine Kd.C_drewN ?_ _) | (with_reducible refine Kd.C_drew ?_))); (case side2 => exact HC1.out); rintro e w' ⟨rfl, ⟨nd, rfl⟩⟩; refine ⟨_, rfl, ?_⟩))
 (try simp only [Act.put, sI, sZ, sS])
 go_cut [34] (fun v34 wc => ∃ (kq : Nat) (x34_5 : Bool), v34 = .bool x34_5 ∧ Ax (l13_JournalOnce.j0 kq a0 l1 a2 t402 x34_5 = some r) ∧ Ax (kq ≤ k) ∧ Ax (Below w.heap.size w wc))
 case first =>
  have H := HC6.out
  clear HC6
  by_cases c8 : t402 = true
  ·subst c8
   have H1 : (if t403 = true then (l13_JournalOnce.j0 k a0 l1 a2 true (decide (a0 > 1099511627776))) else (l13_JournalOnce.j0 k a0 l1 a2 true true)) = some r := by rw [if_pos rfl] at H; exact H
   clear H
   have H := H1
   clear H1
   by_cases c9 : t403 = true
   ·subst c9
    have H1 : (l13_JournalOnce.j0 k a0 l1 a2 true (decide (a0 > 1099511627776))) = some r := by rw [if_pos rfl] at H; exact H
    clear H
    have H := H1
    clear H1
    have H' := Ax.mk H
    clear H
    go_wp2
    go_meet
    case rel => exact ⟨_, (decide (a0 > 1099511627776)), (by first | rfl | (simp; done) | (simp [*]; done)), H', ⟨by first | omega | exact Nat.le_refl _⟩, ⟨bA⟩⟩
   ·replace c9 := Bool.eq_false_iff.mpr c9
    subst c9
    have H1 : (l13_JournalOnce.j0 k a0 l1 a2 true true) = some r := by rw [if_neg (show ¬ (false = true) by decide)] at H; exact H
    clear H
    have H := H1
    clear H1
    have H' := Ax.mk H
    clear H
    go_wp2
    go_meet
    case rel => exact ⟨_, (true), (by first | rfl | (simp; done) | (simp [*]; done)), H', ⟨by first | omega | exact Nat.le_refl _⟩, ⟨bA⟩⟩
  ·replace c8 := Bool.eq_false_iff.mpr c8
   subst c8
   have H1 : (l13_JournalOnce.j0 k a0 l1 a2 false true) = some r := by rw [if_neg (show ¬ (false = true) by decide)] at H; exact H
   clear H
   have H := H1
   clear H1
   have H' := Ax.mk H
   clear H
   go_wp2
   go_meet
   case rel => exact ⟨_, (true), (by first | rfl | (simp; done) | (simp [*]; done)), H', ⟨by first | omega | exact Nat.le_refl _⟩, ⟨bA⟩⟩
 case rest =>
  clear HC6
  try clear c1
  try clear p2
  try clear c3
  try clear c8
  try clear c9
  obtain ⟨kq, x34_5, rfl, HA, HJ5, HB⟩ := hcut
  cases kq with
  | zero => exact absurd HA.out (by simp [l13_JournalOnce.j0])
  | succ kj5 =>
   have H := HA.out
   clear HA
   simp only [l13_JournalOnce.j0] at H
   by_cases c10 : x34_5 = true
   ·subst c10
    have H1 : (some t402) = some r := by rw [if_pos rfl] at H; exact H
    clear H
    have H := H1
    clear H1
    obtain rfl := Option.some.inj H
    go_wp2
    go_ret
    exact ⟨by first | rfl | (simp [errW_none, errW_some] <;> rfl) | (simp [*, errW_none, errW_some] <;> rfl), bA⟩
   ·replace c10 := Bool.eq_false_iff.mpr c10
    subst c10
    have H1 : ((journal_New.f kj5 a0 ([] : List (S24))).bind fun bt404 => (l13_JournalOnce.l0 kj5 a0 l1 (mx 0 (mn a2 (l1.length : Int))) 0 bt404.1 bt404.2.1 bt404.2.2.1 bt404.1 bt404.2.1 bt404.2.2.1)) = some r := by rw [if_neg (show ¬ (false = true) by decide)] at H; exact H
    clear H
    have H := H1
    clear H1
    replace H := Option.bind_eq_some_iff.mp H
    obtain ⟨⟨t404, t405, t408, t409⟩, A110, H⟩ := H
    replace H : (l13_JournalOnce.l0 kj5 a0 l1 (mx 0 (mn a2 (l1.length : Int))) 0 t404 t405 t408 t404 t405 t408) = some r := H
    have A11 := Ax.mk A110
    clear A110
    obtain ⟨ji12, hji12⟩ : ∃ j_ : Int, (mn a2 (l1.length : Int)) = j_ := ⟨_, rfl⟩
    replace H : (l13_JournalOnce.l0 kj5 a0 l1 (mx 0 (ji12)) 0 t404 t405 t408 t404 t405 t408) = some r := by first | (rw [hji12] at H; exact H) | (simp only [hji12] at H ⊢; exact H)
    (try rw [hji12] at A11)
    have hji12_ : (if (l1.length : Int) < a2 then (l1.length : Int) else a2) = ji12 := hji12
    obtain ⟨ji13, hji13⟩ : ∃ j_ : Int, (mx 0 (ji12)) = j_ := ⟨_, rfl⟩
    replace H : (l13_JournalOnce.l0 kj5 a0 l1 ji13 0 t404 t405 t408 t404 t405 t408) = some r := by first | (rw [hji13] at H; exact H) | (simp only [hji13] at H ⊢; exact H)
    (try rw [hji13] at A11)
    have hji13_ : (if 0 < (ji12) then (ji12) else 0) = ji13 := hji13
    have H' := Ax.mk H
    clear H
    go_wp2_with (first | ((with_reducible refine gate_callee (f := 38) rfl ?_); refine goesL_ (some 38) rfl rfl Tryd.func38 (by kernel_rfl) rfl #[.int .u64 a0, .slice none 0 0] rfl (by (try simp only [List.map_toArray, List.map_cons, List.map_nil]); first | done | rfl | (simp only [List.length_drop, List.length_take]; rfl) | (rw [wrap_sum2 (by assumption)]; rfl)) ?_; (refine (journal_New.calls kj5 a0 _ _ ([] : List (S24)) t404 t405 t408 t409 _ ?side1 ?side2 A11.out (HT.below bA)).mono ?_); (case side1 => exact Kd.C_nil _ _); (case side2 => exact Nat.le_refl _); rintro e w14 ⟨v406, rfl, ho0, hb⟩; refine ⟨_, rfl, ?_⟩; have n0_ := Ax.mk (Kd.N_lower (Kd.N_mono (ok' := fun k_ => True) ho0 (fun k_ hk_ => trivial)) (bS bA)); have n1_ := Ax.mk (bP bA hb); clear HB; have HO407 := n0_; have HB := n1_; clear n0_ n1_; (try clear hb); (try clear hb2); (try clear hk); (try clear hi); (try clear ho0)) | ((with_reducible refine gate_dst (N := 9) rfl ?_); refine box_event ?hg (N := 9) ?hd (cs := #[.int .u64 0, .slice none 0 0, .string (⟨#[]⟩ : ByteArray)]) (t := 66) ?hr ?_; (case hd => rfl); (case hg => rfl); (case hr => first | (go_simp; done) | (go_simp; rfl)); intro gb410 hg w15 hbox hb; have n0_ := Ax.mk (Kd.N_below (Kd.N_elderB (by exact Kd.N_to HO407.out) gb410 (Nat.le_of_eq hg.symm)) hb); have n1_ := Ax.mk (bP bA hb); have n2_ := Ax.mk (hbox); have n3_ := Ax.mk ((ge_new hg : w.heap.size ≤ gb410)); have n4_ := n3_; clear HO407; clear HB; have HO407 := n0_; have HB := n1_; have BK410 := n2_; have GW410 := n3_; have GE410 := n4_; clear n0_ n1_ n2_ n3_ n4_; clear hb hbox hg; have hcz16_0 : w15.cell? ⟨gb410, 0, none⟩ = some (.int .u64 0) := (bC BK410.out 0).trans rfl; have hcz16_1 : w15.cell? ⟨gb410, 1, none⟩ = some (.slice none 0 0) := (bC BK410.out 1).trans rfl; have hcz16_2 : w15.cell? ⟨gb410, 2, none⟩ = some (.string (⟨#[]⟩ : ByteArray)) := (bC BK410.out 2).trans rfl; have hfz16_0 := bF BK410.out 0; have hfz16_1 := bF BK410.out 1; have hfz16_2 := bF BK410.out 2; obtain ⟨Ao17, co17, eo17⟩ := Kd.N_slice HO407.out; subst eo17) | ((with_reducible refine gate_dst (N := 11) rfl ?_); refine box_event ?hg (N := 11) ?hd (cs := #[.int .u64 0, .slice none 0 0, .string (⟨#[]⟩ : ByteArray)]) (t := 66) ?hr ?_; (case hd => rfl); (case hg => rfl); (case hr => first | (go_simp; done) | (go_simp; rfl)); intro gb411 hg w18 hbox hb; have n0_ := Ax.mk (Kd.N_below (Kd.N_elderB (by apply Kd.N_to; exact (Kd.N_mono (Kd.N_far (p := ⟨gb410, 2, none⟩) (Kd.N_far (p := ⟨gb410, 1, none⟩) (Kd.N_far (p := ⟨gb410, 0, none⟩) (Kd.N_mono HO407.out (fun k_ hk => (⟨hk, hk.2⟩ : _ ∧ k_ ≠ gb410))) (fun _ hk => hk.2) (.int .u64 t404)) (fun _ hk => hk.2) (.slice Ao17 t405.length co17)) (fun _ hk => hk.2) (.string t408)) (fun _ h_ => h_.1))) gb411 (Nat.le_of_eq hg.symm)) hb); have n1_ := Ax.mk (bB (g := gb410) (o := .cells #[.int .u64 t404, .slice Ao17 t405.length co17, .string t408] 66 (0, 0)) (by refine bT ?_; refine bU (cs := #[.int .u64 t404, .slice Ao17 t405.length co17, .string (⟨#[]⟩ : ByteArray)]) ?_ 2 _ rfl; refine bT ?_; refine bU (cs := #[.int .u64 t404, .slice none 0 0, .string (⟨#[]⟩ : ByteArray)]) ?_ 1 _ rfl; refine bT ?_; refine bU (cs := #[.int .u64 0, .slice none 0 0, .string (⟨#[]⟩ : ByteArray)]) ?_ 0 _ rfl; exact bT BK410.out) hb); have n2_ := Ax.mk (bP bA hb); have n3_ := Ax.mk (hbox); have n4_ := Ax.mk ((ge_new hg : w.heap.size ≤ gb411)); have n5_ := n4_; have n6_ := Ax.mk ((by rw [hg]; exact Nat.ne_of_lt (bL (g := gb410) (o := .cells #[.int .u64 t404, .slice Ao17 t405.length co17, .string t408] 66 (0, 0)) (by refine bT ?_; refine bU (cs := #[.int .u64 t404, .slice Ao17 t405.length co17, .string (⟨#[]⟩ : ByteArray)]) ?_ 2 _ rfl; refine bT ?_; refine bU (cs := #[.int .u64 t404, .slice none 0 0, .string (⟨#[]⟩ : ByteArray)]) ?_ 1 _ rfl; refine bT ?_; refine bU (cs := #[.int .u64 0, .slice none 0 0, .string (⟨#[]⟩ : ByteArray)]) ?_ 0 _ rfl; exact bT BK410.out)) : gb410 ≠ gb411)); have n7_ := Ax.mk ((by rw [hg]; exact Nat.ne_of_gt (bL (g := gb410) (o := .cells #[.int .u64 t404, .slice Ao17 t405.length co17, .string t408] 66 (0, 0)) (by refine bT ?_; refine bU (cs := #[.int .u64 t404, .slice Ao17 t405.length co17, .string (⟨#[]⟩ : ByteArray)]) ?_ 2 _ rfl; refine bT ?_; refine bU (cs := #[.int .u64 t404, .slice none 0 0, .string (⟨#[]⟩ : ByteArray)]) ?_ 1 _ rfl; refine bT ?_; refine bU (cs := #[.int .u64 0, .slice none 0 0, .string (⟨#[]⟩ : ByteArray)]) ?_ 0 _ rfl; exact bT BK410.out)) : gb411 ≠ gb410)); clear HO407; clear BK410; clear HB; have HO407 := n0_; have BK410 := n1_; have HB := n2_; have BK411 := n3_; have GW411 := n4_; have GE411 := n5_; have NB410_411 := n6_; have NB411_410 := n7_; clear n0_ n1_ n2_ n3_ n4_ n5_ n6_ n7_; clear hb hbox hg; have hnb19 := NB411_410.out; have hnc19 := NB410_411.out; have hcz20_0 : w18.cell? ⟨gb411, 0, none⟩ = some (.int .u64 0) := (bC BK411.out 0).trans rfl; have hcz20_1 : w18.cell? ⟨gb411, 1, none⟩ = some (.slice none 0 0) := (bC BK411.out 1).trans rfl; have hcz20_2 : w18.cell? ⟨gb411, 2, none⟩ = some (.string (⟨#[]⟩ : ByteArray)) := (bC BK411.out 2).trans rfl; have hfz20_0 := bF BK411.out 0; have hfz20_1 := bF BK411.out 1; have hfz20_2 := bF BK411.out 2))
    go_loopg [12] kj5 (fun kq v12 w' => ∃ (x12_2 : Int) (x411000_2 : Int) (x411001_2 : List (S44)) (x411002_2 : ByteArray) (x412000_2 : Int) (x412001_2 : List (S44)) (x412002_2 : ByteArray) (u411001 : Value) (u412001 : Value), v12 = .int .i64 x12_2 ∧ Ax (l13_JournalOnce.l0 kq a0 l1 ji13 x12_2 x411000_2 x411001_2 x411002_2 x412000_2 x412001_2 x412002_2 = some r) ∧ Ax (kq ≤ kj5) ∧ Ax (Kd.N k44 44 w' w.heap.size (fun k_ => k_ ≠ gb410 ∧ k_ ≠ gb411) u411001 x411001_2) ∧ Ax (Kd.N k44 44 w' w.heap.size (fun k_ => k_ ≠ gb410 ∧ k_ ≠ gb411) u412001 x412001_2) ∧ Ax (w'.heap[gb410]? = some (.cells #[.int .u64 x411000_2, u411001, .string x411002_2] 66 (0, 0))) ∧ Ax (w'.heap[gb411]? = some (.cells #[.int .u64 x412000_2, u412001, .string x412002_2] 66 (0, 0))) ∧ Ax (Below w.heap.size w w'))
    case atStart => exact ⟨(0), (t404), (t405), (t408), (t404), (t405), (t408), (.slice Ao17 t405.length co17), (.slice Ao17 t405.length co17), (by first | rfl | (simp; done) | (simp [*]; done)), H', ⟨Nat.le_refl _⟩, ⟨by apply Kd.N_to; exact Kd.N_mono (Kd.N_far (p := ⟨gb411, 2, none⟩) (Kd.N_far (p := ⟨gb411, 1, none⟩) (Kd.N_far (p := ⟨gb411, 0, none⟩) (Kd.N_mono HO407.out (fun k_ hk => (⟨hk, hk.2⟩ : _ ∧ k_ ≠ gb411))) (fun _ hk => hk.2) (.int .u64 t404)) (fun _ hk => hk.2) (.slice Ao17 t405.length co17)) (fun _ hk => hk.2) (.string t408)) (fun _ hk => ⟨hk.1.1.2, hk.1.2⟩)⟩, ⟨by apply Kd.N_to; exact Kd.N_mono (Kd.N_far (p := ⟨gb411, 2, none⟩) (Kd.N_far (p := ⟨gb411, 1, none⟩) (Kd.N_far (p := ⟨gb411, 0, none⟩) (Kd.N_mono HO407.out (fun k_ hk => (⟨hk, hk.2⟩ : _ ∧ k_ ≠ gb411))) (fun _ hk => hk.2) (.int .u64 t404)) (fun _ hk => hk.2) (.slice Ao17 t405.length co17)) (fun _ hk => hk.2) (.string t408)) (fun _ hk => ⟨hk.1.1.2, hk.1.2⟩)⟩, ⟨by refine bT ?_; refine bR ?_ NB410_411.out _; refine bT ?_; refine bR ?_ NB410_411.out _; refine bT ?_; refine bR ?_ NB410_411.out _; refine bT ?_; exact BK410.out⟩, ⟨by refine bT ?_; refine bU (cs := #[.int .u64 t404, .slice Ao17 t405.length co17, .string (⟨#[]⟩ : ByteArray)]) ?_ 2 _ rfl; refine bT ?_; refine bU (cs := #[.int .u64 t404, .slice none 0 0, .string (⟨#[]⟩ : ByteArray)]) ?_ 1 _ rfl; refine bT ?_; refine bU (cs := #[.int .u64 0, .slice none 0 0, .string (⟨#[]⟩ : ByteArray)]) ?_ 0 _ rfl; refine bT ?_; exact BK411.out⟩, ⟨bA⟩⟩
    case round =>
     clear H'
     try clear c1
     try clear p2
     try clear c3
     try clear c8
     try clear c9
     try clear c10
     try clear c14
     try clear c19
     try clear hcz16_0
     try clear hcz16_1
     try clear hcz16_2
     try clear hcz20_0
     try clear hcz20_1
     try clear hcz20_2
     try clear hfz16_0
     try clear hfz16_1
     try clear hfz16_2
     try clear hfz20_0
     try clear hfz20_1
     try clear hfz20_2
     try clear p2
     obtain ⟨x12_2, x411000_2, x411001_2, x411002_2, x412000_2, x412001_2, x412002_2, u411001, u412001, rfl, HA, HK2, HO_411001, HO_412001, BK410, BK411, HB⟩ := hrel
     cases gk with
     | zero => exact absurd HA.out (by simp [l13_JournalOnce.l0])
     | succ k2 =>
      have H := HA.out
      clear HA
      simp only [l13_JournalOnce.l0] at H
      by_cases c21 : x12_2 < (l1.length : Int)
      ·rw [if_pos c21] at H
       have c21b0 : decide (x12_2 < (l1.length : Int)) = true := decide_eq_true c21
       clear c21
       by_cases c22 : 0 ≤ x12_2
       ·rw [if_pos c22] at H
        have c22b0 : decide (0 ≤ x12_2) = true := decide_eq_true c22
        clear c22
        replace H := Option.bind_eq_some_iff.mp H
        obtain ⟨⟨t413, t414, t417, t418⟩, A230, H⟩ := H
        replace H : (if t418 = 0 then (if (wrap64 (x12_2 + 1)) = ji13 then (l13_JournalOnce.l0 k2 a0 l1 ji13 (wrap64 (x12_2 + 1)) t413 t414 t417 t413 t414 t417) else (l13_JournalOnce.l0 k2 a0 l1 ji13 (wrap64 (x12_2 + 1)) t413 t414 t417 x412000_2 x412001_2 x412002_2)) else (if (wrap64 (x12_2 + 1)) = ji13 then (l13_JournalOnce.l0 k2 a0 l1 ji13 (wrap64 (x12_2 + 1)) x411000_2 x411001_2 x411002_2 x411000_2 x411001_2 x411002_2) else (l13_JournalOnce.l0 k2 a0 l1 ji13 (wrap64 (x12_2 + 1)) x411000_2 x411001_2 x411002_2 x412000_2 x412001_2 x412002_2))) = some r := H
        have A23 := Ax.mk A230
        clear A230
        by_cases c24 : t418 = 0
        ·rw [if_pos c24] at H
         have c24b0 : (t418 == 0) = true := beq_iff_eq.mpr c24
         have c24b1 : (t418 != 0) = false := bne_eq_false_iff_eq.mpr c24
         clear c24
         by_cases c25 : (wrap64 (x12_2 + 1)) = ji13
         ·rw [if_pos c25] at H
          have c25b0 : ((wrap64 (x12_2 + 1)) == ji13) = true := beq_iff_eq.mpr c25
          have c25b1 : ((wrap64 (x12_2 + 1)) != ji13) = false := bne_eq_false_iff_eq.mpr c25
          clear c25
          have H' := Ax.mk H
          clear H
          obtain ⟨Ao26, co26, eo26⟩ := Kd.N_slice HO_411001.out
          subst eo26
          try go_wp2
          have n0_ := Ax.mk (Kd.N_drew HO_411001.out)
          have n1_ := Ax.mk (Kd.N_drew HO_412001.out)
          have n2_ := Ax.mk (blk_drew BK410.out)
          have n3_ := Ax.mk (blk_drew BK411.out)
          have n4_ := Ax.mk (below_drew1 HB.out)
          clear HO_411001
          clear HO_412001
          clear BK410
          clear BK411
          clear HB
          have HO_411001 := n0_
          have HO_412001 := n1_
          have BK410 := n2_
          have BK411 := n3_
          have HB := n4_
          clear n0_ n1_ n2_ n3_ n4_
          have p412 : 0 ≤ (x12_2 : Int) := of_decide_eq_true (by first | (with_reducible assumption) | assumption)
          have q412 : x12_2 < (l1.length : Int) := of_decide_eq_true (by first | (with_reducible assumption) | assumption)
          obtain ⟨ad412, A412_0, c412_0, e412, hx412_0, hl412_0, hi412_0⟩ := at_L4 HR1.out x12_2 p412 q412
          have hw412_0 := hx412_0
          cases e412
          replace hx412_0 := (HB.out.cell (World.block_lt_of_cell? w _ hx412_0)).trans hx412_0
          have HR412_0 := Ax.mk hi412_0
          have HC412_0 := Ax.mk hl412_0
          clear hi412_0 hl412_0
          replace p412 := eq_true p412
          replace q412 := eq_true q412
          refine start_ (n := 12) (S := fun w' => w'.cell? ⟨gb410, 0, none⟩ = some (.int .u64 x411000_2) ∧ w'.cell? ⟨gb410, 1, none⟩ = some (.slice Ao26 x411001_2.length co26) ∧ w'.cell? ⟨gb410, 2, none⟩ = some (.string x411002_2) ∧ w'.cell? (ad412.add (x12_2).toNat) = some (.slice A412_0 (rd_L4 l1 x12_2).length c412_0)) (ds := []) (TF 0 12) (by kernel_rfl) rfl rfl ⟨(bC BK410.out 0).trans rfl, (bC BK410.out 1).trans rfl, (bC BK410.out 2).trans rfl, ((HB.out.cell (World.block_lt_of_cell? w _ hw412_0)).trans hw412_0)⟩ (fun hHeld => ?_); refine with_tabW l13_JournalOnce.tab11 l13_JournalOnce.bits11 (fun HT_ HW_ => ?_)
          generalize wr.drew = w27 at HO_411001 HO_412001 BK410 BK411 HB HR412_0 hx412_0 hHeld ⊢
          refine pure_ (i := 1) (N := some 55) (v := ?_) (a' := ?_) #[false, true, false, false, false, false, false, false, false, false, false, false] rfl rfl (any_of HT_.out (by kernel_rfl)) (fun _ _ _ h => h) (Or.inl ⟨by rfl, ?_⟩) ?_ ?_
          rotate_left; · intro w'; go_simp; with_reducible rfl
          rotate_left; · simp only [Act.put, sI, sZ, sS, i64_w, i32_w]; rfl
          refine pure_ (i := 2) (N := some 56) (v := ?_) (a' := ?_) #[false, true, true, false, false, false, false, false, false, false, false, false] rfl rfl (any_of HT_.out (by kernel_rfl)) (fun _ _ _ h => h) (Or.inl ⟨by rfl, ?_⟩) ?_ ?_
          rotate_left; · intro w'; go_simp; with_reducible rfl
          rotate_left; · simp only [Act.put, sI, sZ, sS, i64_w, i32_w]; rfl
          refine pure_ (i := 3) (N := some 57) (v := ?_) (a' := ?_) #[false, true, true, true, false, false, false, false, false, false, false, false] rfl rfl (any_of HT_.out (by kernel_rfl)) (fun _ _ _ h => h) (Or.inl ⟨by rfl, ?_⟩) ?_ ?_
          rotate_left; · intro w'; go_simp; with_reducible rfl
          rotate_left; · simp only [Act.put, sI, sZ, sS, i64_w, i32_w]; rfl
          refine take_ (i := 0) (N := some 54) (v := ?_) (a' := ?_) (TF 4 8) rfl rfl (take_ofW HT_.out HW_.out (by kernel_rfl)) (fun _ _ _ h => h) (Or.inl ⟨by rfl, ?_⟩) hHeld ?_ ?_
          rotate_left
          ·rintro w' ⟨s0, s1, s2, s3⟩
           go_simp
           with_reducible rfl
          rotate_left
          ·simp only [Act.put, sI, sZ, sS, i64_w, i32_w]
           rfl
          refine take_ (i := 4) (N := some 58) (v := ?_) (a' := ?_) (TF 5 7) rfl rfl (take_ofW HT_.out HW_.out (by kernel_rfl)) (fun _ _ _ h => h) (Or.inl ⟨by rfl, ?_⟩) hHeld ?_ ?_
          rotate_left
          ·rintro w' ⟨s0, s1, s2, s3⟩
           go_simp
           with_reducible rfl
          rotate_left
          ·simp only [Act.put, sI, sZ, sS, i64_w, i32_w]
           rfl
          refine join_ (σ := Value × Nat) 2 (TF 10 2) (fun s_ => [(59, .tuple #[.agg #[.int .u64 t413, s_.1, .string t417], .int .i64 t418]), (13, .pointer (some ⟨s_.2, 0, none⟩)), (53, .tuple #[.agg #[.int .u64 t413, s_.1, .string t417], .int .i64 t418]), (60, .agg #[.int .u64 t413, s_.1, .string t417]), (61, .int .i64 t418)]) (fun s_ w' => (w'.cell? ⟨gb410, 0, none⟩ = some (.int .u64 x411000_2) ∧ w'.cell? ⟨gb410, 1, none⟩ = some (.slice Ao26 x411001_2.length co26) ∧ w'.cell? ⟨gb410, 2, none⟩ = some (.string x411002_2) ∧ w'.cell? (ad412.add (x12_2).toNat) = some (.slice A412_0 (rd_L4 l1 x12_2).length c412_0)) ∧ (Kd.N k44 44 w' w.heap.size (fun k_ => k_ ≠ gb410 ∧ k_ ≠ gb411 ∧ k_ ≠ s_.2) s_.1 t414) ∧ (Kd.N k44 44 w' w.heap.size (fun k_ => some k_ ≠ (s_.1 : Value).ownBlock ∧ k_ ≠ gb410 ∧ k_ ≠ gb411 ∧ k_ ≠ s_.2) (.slice Ao26 x411001_2.length co26) x411001_2) ∧ (Kd.N k44 44 w' w.heap.size (fun k_ => some k_ ≠ (s_.1 : Value).ownBlock ∧ k_ ≠ gb410 ∧ k_ ≠ gb411 ∧ k_ ≠ s_.2) u412001 x412001_2) ∧ (w'.heap[gb410]? = some (.cells #[.int .u64 x411000_2, .slice Ao26 x411001_2.length co26, .string x411002_2] 66 (0, 0))) ∧ (w'.heap[gb411]? = some (.cells #[.int .u64 x412000_2, u412001, .string x412002_2] 66 (0, 0))) ∧ (w'.heap[s_.2]? = some (.cells #[.int .u64 0, .slice none 0 0, .string (⟨#[]⟩ : ByteArray)] 66 (0, 0))) ∧ (w.heap.size ≤ s_.2) ∧ (w.heap.size ≤ s_.2) ∧ (gb410 ≠ s_.2) ∧ (s_.2 ≠ gb410) ∧ (gb411 ≠ s_.2) ∧ (s_.2 ≠ gb411) ∧ (Below w.heap.size w w')) ?_ ?_
          rotate_left
          ·intro hCont
           refine two_ (i := 5) (j := 9) (Ni := some 59) (Nj := some 13) (TF 6 6) #[true, true, true, true, true, false, false, false, false, true, false, false] rfl rfl rfl rfl (two_of HT_.out (by kernel_rfl)) (by decide) (by decide) (fun K hK => ?_) (fun K hK => ?_)
           ·skip
            refine goes_ Tryd.func39 (by kernel_rfl) rfl #[.agg #[.int .u64 x411000_2, .slice Ao26 x411001_2.length co26, .string x411002_2], .slice A412_0 (rd_L4 l1 x12_2).length c412_0] (by rfl) rfl rfl (by (try simp only [List.map_toArray, List.map_cons, List.map_nil]); first | done | rfl | (simp only [List.length_drop, List.length_take]; rfl) | (rw [wrap_sum2 (by assumption)]; rfl)) ?_
            with_reducible refine (journal_Add.calls k2 x411000_2 (fun k_ => (k_ ≠ gb410 ∧ k_ ≠ gb411)) _ _ x411001_2 x411002_2 _ _ (rd_L4 l1 x12_2) t413 t414 t417 t418 _ ?side1 ?side2 ?side3 A23.out (HT.below bA)).mono ?_
            (case side1 => exact Kd.N_V (HO_411001.out))
            (case side2 => repeat (first | exact (Kd.C_below HR412_0.out HB.out) | (with_reducible refine Kd.C_alloc ?_ _) | (with_reducible refine Kd.C_drewN ?_ _) | (with_reducible refine Kd.C_drew ?_)))
            (case side3 => exact HC412_0.out)
            rintro e w28 ⟨v415, rfl, ho0, hb⟩
            refine ⟨_, rfl, ?_⟩
            have n0_ := Ax.mk (Kd.N_elder' (by exact Kd.N_to HO_411001.out) (Kd.N_base ho0) hb)
            have n1_ := Ax.mk (Kd.N_elder' (by exact Kd.N_to HO_412001.out) (Kd.N_base ho0) hb)
            have n2_ := Ax.mk (Kd.N_lower (Kd.N_mono (ok' := fun k_ => k_ ≠ gb410 ∧ k_ ≠ gb411) ho0 (fun k_ hk_ => ⟨Or.elim hk_ (fun hs_ => hs_.1) (fun hn_ => (Kd.freshB (g := gb410) (o := .cells #[.int .u64 x411000_2, .slice Ao26 x411001_2.length co26, .string x411002_2] 66 (0, 0)) (bT BK410.out) k_ hn_)), Or.elim hk_ (fun hs_ => hs_.2) (fun hn_ => (Kd.freshB (g := gb411) (o := .cells #[.int .u64 x412000_2, u412001, .string x412002_2] 66 (0, 0)) (bT BK411.out) k_ hn_))⟩)) (bS bA))
            have n3_ := Ax.mk (bB (bT BK410.out) hb)
            have n4_ := Ax.mk (bB (bT BK411.out) hb)
            have n5_ := Ax.mk (bP bA hb)
            clear HO_411001
            clear HO_412001
            clear BK410
            clear BK411
            clear HB
            have HO_411001 := n0_
            have HO_412001 := n1_
            have HO416 := n2_
            have BK410 := n3_
            have BK411 := n4_
            have HB := n5_
            clear n0_ n1_ n2_ n3_ n4_ n5_
            (try clear hb)
            (try clear hb2)
            (try clear hk)
            (try clear hi)
            (try clear ho0)
            refine hK.out _ _ ⟨(bC BK410.out 0).trans rfl, (bC BK410.out 1).trans rfl, (bC BK410.out 2).trans rfl, ((HB.out.cell (World.block_lt_of_cell? w _ hw412_0)).trans hw412_0)⟩ (fun hHeld => ?_)
            clear hK K
            refine norm_ (a' := ?_) ?_ ?_
            rotate_left
            ·show Act.put _ (some 59) _ = _
             simp only [Act.put, sI, sZ, sS, i64_w, i32_w]
             rfl
            refine pure_ (i := 6) (N := some 53) (v := ?_) (a' := ?_) (TF 7 5) rfl rfl (any_of HT_.out (by kernel_rfl)) (fun _ _ _ h => h) (Or.inl ⟨by rfl, ?_⟩) ?_ ?_
            rotate_left; · intro w'; go_simp; with_reducible rfl
            rotate_left; · simp only [Act.put, sI, sZ, sS, i64_w, i32_w]; rfl
            refine pure_ (i := 7) (N := some 60) (v := ?_) (a' := ?_) (TF 8 4) rfl rfl (any_of HT_.out (by kernel_rfl)) (fun _ _ _ h => h) (Or.inl ⟨by rfl, ?_⟩) ?_ ?_
            rotate_left; · intro w'; go_simp; with_reducible rfl
            rotate_left; · simp only [Act.put, sI, sZ, sS, i64_w, i32_w]; rfl
            refine pure_ (i := 8) (N := some 61) (v := ?_) (a' := ?_) (TF 9 3) rfl rfl (any_of HT_.out (by kernel_rfl)) (fun _ _ _ h => h) (Or.inl ⟨by rfl, ?_⟩) ?_ ?_
            rotate_left; · intro w'; go_simp; with_reducible rfl
            rotate_left; · simp only [Act.put, sI, sZ, sS, i64_w, i32_w]; rfl
            refine one_ (i := 9) (N := some 13) (TF 10 2) rfl rfl (one_of HT_.out (by kernel_rfl)) (by decide) (fun K hK => ?_)
            refine box_step ?hg (N := 13) ?hd (cs := #[.int .u64 0, .slice none 0 0, .string (⟨#[]⟩ : ByteArray)]) (t := 66) ?hr ?_; (case hd => rfl); (case hg => rfl); (case hr => first | (go_simp; done) | (go_simp; rfl))
            intro gb419 hg w29 hbox hb
            have n0_ := Ax.mk (Kd.N_below (Kd.N_elderB (by exact Kd.N_to HO_411001.out) gb419 (Nat.le_of_eq hg.symm)) hb)
            have n1_ := Ax.mk (Kd.N_below (Kd.N_elderB (by exact Kd.N_to HO_412001.out) gb419 (Nat.le_of_eq hg.symm)) hb)
            have n2_ := Ax.mk (Kd.N_below (Kd.N_elderB (by exact Kd.N_to HO416.out) gb419 (Nat.le_of_eq hg.symm)) hb)
            have n3_ := Ax.mk (bB (bT BK410.out) hb)
            have n4_ := Ax.mk (bB (bT BK411.out) hb)
            have n5_ := Ax.mk (bP bA hb)
            have n6_ := Ax.mk (hbox)
            have n7_ := Ax.mk ((ge_new hg : w.heap.size ≤ gb419))
            have n8_ := Ax.mk ((ge_new hg : w.heap.size ≤ gb419))
            have n9_ := Ax.mk ((ne_lt hg BK410.out : gb410 ≠ gb419))
            have n10_ := Ax.mk ((ne_gt hg BK410.out : gb419 ≠ gb410))
            have n11_ := Ax.mk ((ne_lt hg BK411.out : gb411 ≠ gb419))
            have n12_ := Ax.mk ((ne_gt hg BK411.out : gb419 ≠ gb411))
            clear HO_411001
            clear HO_412001
            clear HO416
            clear BK410
            clear BK411
            clear HB
            have HO_411001 := n0_
            have HO_412001 := n1_
            have HO416 := n2_
            have BK410 := n3_
            have BK411 := n4_
            have HB := n5_
            have BK419 := n6_
            have GW419 := n7_
            have GE419 := n8_
            have NB410_419 := n9_
            have NB419_410 := n10_
            have NB411_419 := n11_
            have NB419_411 := n12_
            clear n0_ n1_ n2_ n3_ n4_ n5_ n6_ n7_ n8_ n9_ n10_ n11_ n12_
            clear hb hbox hg
            refine hK.out _ _ ⟨(bC BK410.out 0).trans rfl, (bC BK410.out 1).trans rfl, (bC BK410.out 2).trans rfl, ((HB.out.cell (World.block_lt_of_cell? w _ hw412_0)).trans hw412_0)⟩ (fun hHeld => ?_)
            clear hK K
            refine norm_ (a' := ?_) ?_ ?_
            rotate_left
            ·show Act.put _ (some 13) _ = _
             simp only [Act.put, sI, sZ, sS, i64_w, i32_w]
             rfl
            exact norm_ (by simp only [putAll, Act.put, sI, sZ, sS]) (hCont (v415, gb419) _ ⟨hHeld, (by apply Kd.N_to; exact Kd.N_mono HO416.out (fun _ hk => ⟨hk.1.1, ⟨hk.1.2, hk.2⟩⟩)), (by apply Kd.N_to; exact Kd.N_mono HO_411001.out (fun _ hk => ⟨hk.1.2, ⟨hk.1.1.1, ⟨hk.1.1.2, hk.2⟩⟩⟩)), (by apply Kd.N_to; exact Kd.N_mono HO_412001.out (fun _ hk => ⟨hk.1.2, ⟨hk.1.1.1, ⟨hk.1.1.2, hk.2⟩⟩⟩)), (bT BK410.out), (bT BK411.out), (bT BK419.out), GW419.out, GE419.out, NB410_419.out, NB419_410.out, NB411_419.out, NB419_411.out, bA⟩)
           ·skip
            refine box_step ?hg (N := 13) ?hd (cs := #[.int .u64 0, .slice none 0 0, .string (⟨#[]⟩ : ByteArray)]) (t := 66) ?hr ?_; (case hd => rfl); (case hg => rfl); (case hr => first | (go_simp; done) | (go_simp; rfl))
            intro gb419 hg w28 hbox hb
            have n0_ := Ax.mk (Kd.N_below (Kd.N_elderB (by exact Kd.N_to HO_411001.out) gb419 (Nat.le_of_eq hg.symm)) hb)
            have n1_ := Ax.mk (Kd.N_below (Kd.N_elderB (by exact Kd.N_to HO_412001.out) gb419 (Nat.le_of_eq hg.symm)) hb)
            have n2_ := Ax.mk (bB (bT BK410.out) hb)
            have n3_ := Ax.mk (bB (bT BK411.out) hb)
            have n4_ := Ax.mk (bP bA hb)
            have n5_ := Ax.mk (hbox)
            have n6_ := Ax.mk ((ge_new hg : w.heap.size ≤ gb419))
            have n7_ := Ax.mk ((ge_new hg : w.heap.size ≤ gb419))
            have n8_ := Ax.mk ((ne_lt hg BK410.out : gb410 ≠ gb419))
            have n9_ := Ax.mk ((ne_gt hg BK410.out : gb419 ≠ gb410))
            have n10_ := Ax.mk ((ne_lt hg BK411.out : gb411 ≠ gb419))
            have n11_ := Ax.mk ((ne_gt hg BK411.out : gb419 ≠ gb411))
            clear HO_411001
            clear HO_412001
            clear BK410
            clear BK411
            clear HB
            have HO_411001 := n0_
            have HO_412001 := n1_
            have BK410 := n2_
            have BK411 := n3_
            have HB := n4_
            have BK419 := n5_
            have GW419 := n6_
            have GE419 := n7_
            have NB410_419 := n8_
            have NB419_410 := n9_
            have NB411_419 := n10_
            have NB419_411 := n11_
            clear n0_ n1_ n2_ n3_ n4_ n5_ n6_ n7_ n8_ n9_ n10_ n11_
            clear hb hbox hg
            refine hK.out _ _ ⟨(bC BK410.out 0).trans rfl, (bC BK410.out 1).trans rfl, (bC BK410.out 2).trans rfl, ((HB.out.cell (World.block_lt_of_cell? w _ hw412_0)).trans hw412_0)⟩ (fun hHeld => ?_)
            clear hK K
            refine norm_ (a' := ?_) ?_ ?_
            rotate_left
            ·show Act.put _ (some 13) _ = _
             simp only [Act.put, sI, sZ, sS, i64_w, i32_w]
             rfl
            refine one_ (i := 5) (N := some 59) #[true, true, true, true, true, true, false, false, false, true, false, false] rfl rfl (one_of HT_.out (by kernel_rfl)) (by decide) (fun K hK => ?_)
            refine goes_ Tryd.func39 (by kernel_rfl) rfl #[.agg #[.int .u64 x411000_2, .slice Ao26 x411001_2.length co26, .string x411002_2], .slice A412_0 (rd_L4 l1 x12_2).length c412_0] (by rfl) rfl rfl (by (try simp only [List.map_toArray, List.map_cons, List.map_nil]); first | done | rfl | (simp only [List.length_drop, List.length_take]; rfl) | (rw [wrap_sum2 (by assumption)]; rfl)) ?_
            with_reducible refine (journal_Add.calls k2 x411000_2 (fun k_ => ((k_ ≠ gb410 ∧ k_ ≠ gb411) ∧ k_ ≠ gb419)) _ _ x411001_2 x411002_2 _ _ (rd_L4 l1 x12_2) t413 t414 t417 t418 _ ?side1 ?side2 ?side3 A23.out (HT.below bA)).mono ?_
            (case side1 => exact Kd.N_V (HO_411001.out))
            (case side2 => repeat (first | exact (Kd.C_below HR412_0.out HB.out) | (with_reducible refine Kd.C_alloc ?_ _) | (with_reducible refine Kd.C_drewN ?_ _) | (with_reducible refine Kd.C_drew ?_)))
            (case side3 => exact HC412_0.out)
            rintro e w29 ⟨v415, rfl, ho0, hb⟩
            refine ⟨_, rfl, ?_⟩
            have n0_ := Ax.mk (Kd.N_elder' (by exact Kd.N_to HO_411001.out) (Kd.N_base ho0) hb)
            have n1_ := Ax.mk (Kd.N_elder' (by exact Kd.N_to HO_412001.out) (Kd.N_base ho0) hb)
            have n2_ := Ax.mk (Kd.N_lower (Kd.N_mono (ok' := fun k_ => k_ ≠ gb410 ∧ k_ ≠ gb411 ∧ k_ ≠ gb419) ho0 (fun k_ hk_ => ⟨Or.elim hk_ (fun hs_ => hs_.1.1) (fun hn_ => (Kd.freshB (g := gb410) (o := .cells #[.int .u64 x411000_2, .slice Ao26 x411001_2.length co26, .string x411002_2] 66 (0, 0)) (bT BK410.out) k_ hn_)), Or.elim hk_ (fun hs_ => hs_.1.2) (fun hn_ => (Kd.freshB (g := gb411) (o := .cells #[.int .u64 x412000_2, u412001, .string x412002_2] 66 (0, 0)) (bT BK411.out) k_ hn_)), Or.elim hk_ (fun hs_ => hs_.2) (fun hn_ => (Kd.freshB (g := gb419) (o := .cells #[.int .u64 0, .slice none 0 0, .string (⟨#[]⟩ : ByteArray)] 66 (0, 0)) (bT BK419.out) k_ hn_))⟩)) (bS bA))
            have n3_ := Ax.mk (bB (bT BK410.out) hb)
            have n4_ := Ax.mk (bB (bT BK411.out) hb)
            have n5_ := Ax.mk (bB (bT BK419.out) hb)
            have n6_ := Ax.mk (bP bA hb)
            clear HO_411001
            clear HO_412001
            clear BK410
            clear BK411
            clear BK419
            clear HB
            have HO_411001 := n0_
            have HO_412001 := n1_
            have HO416 := n2_
            have BK410 := n3_
            have BK411 := n4_
            have BK419 := n5_
            have HB := n6_
            clear n0_ n1_ n2_ n3_ n4_ n5_ n6_
            (try clear hb)
            (try clear hb2)
            (try clear hk)
            (try clear hi)
            (try clear ho0)
            refine hK.out _ _ ⟨(bC BK410.out 0).trans rfl, (bC BK410.out 1).trans rfl, (bC BK410.out 2).trans rfl, ((HB.out.cell (World.block_lt_of_cell? w _ hw412_0)).trans hw412_0)⟩ (fun hHeld => ?_)
            clear hK K
            refine norm_ (a' := ?_) ?_ ?_
            rotate_left
            ·show Act.put _ (some 59) _ = _
             simp only [Act.put, sI, sZ, sS, i64_w, i32_w]
             rfl
            refine pure_ (i := 6) (N := some 53) (v := ?_) (a' := ?_) #[true, true, true, true, true, true, true, false, false, true, false, false] rfl rfl (any_of HT_.out (by kernel_rfl)) (fun _ _ _ h => h) (Or.inl ⟨by rfl, ?_⟩) ?_ ?_
            rotate_left; · intro w'; go_simp; with_reducible rfl
            rotate_left; · simp only [Act.put, sI, sZ, sS, i64_w, i32_w]; rfl
            refine pure_ (i := 7) (N := some 60) (v := ?_) (a' := ?_) #[true, true, true, true, true, true, true, true, false, true, false, false] rfl rfl (any_of HT_.out (by kernel_rfl)) (fun _ _ _ h => h) (Or.inl ⟨by rfl, ?_⟩) ?_ ?_
            rotate_left; · intro w'; go_simp; with_reducible rfl
            rotate_left; · simp only [Act.put, sI, sZ, sS, i64_w, i32_w]; rfl
            refine pure_ (i := 8) (N := some 61) (v := ?_) (a' := ?_) (TF 10 2) rfl rfl (any_of HT_.out (by kernel_rfl)) (fun _ _ _ h => h) (Or.inl ⟨by rfl, ?_⟩) ?_ ?_
            rotate_left; · intro w'; go_simp; with_reducible rfl
            rotate_left; · simp only [Act.put, sI, sZ, sS, i64_w, i32_w]; rfl
            exact norm_ (by simp only [putAll, Act.put, sI, sZ, sS]) (hCont (v415, gb419) _ ⟨hHeld, (by exact Kd.N_to HO416.out), (by apply Kd.N_to; exact Kd.N_mono HO_411001.out (fun _ hk => ⟨hk.2, ⟨hk.1.1.1, ⟨hk.1.1.2, hk.1.2⟩⟩⟩)), (by apply Kd.N_to; exact Kd.N_mono HO_412001.out (fun _ hk => ⟨hk.2, ⟨hk.1.1.1, ⟨hk.1.1.2, hk.1.2⟩⟩⟩)), (bT BK410.out), (bT BK411.out), (bT BK419.out), GW419.out, GE419.out, NB410_419.out, NB419_410.out, NB411_419.out, NB419_411.out, bA⟩)
          rintro ⟨v415, gb419⟩ w30 ⟨hS_, h0_, h1_, h2_, h3_, h4_, h5_, h6_, h7_, h8_, h9_, h10_, h11_, h12_⟩
          have n0_ : Ax (Kd.N k44 44 w30 w.heap.size (fun k_ => k_ ≠ gb410 ∧ k_ ≠ gb411 ∧ k_ ≠ gb419) v415 t414) := ⟨h0_⟩
          have n1_ : Ax (Kd.N k44 44 w30 w.heap.size (fun k_ => some k_ ≠ (v415 : Value).ownBlock ∧ k_ ≠ gb410 ∧ k_ ≠ gb411 ∧ k_ ≠ gb419) (.slice Ao26 x411001_2.length co26) x411001_2) := ⟨h1_⟩
          have n2_ : Ax (Kd.N k44 44 w30 w.heap.size (fun k_ => some k_ ≠ (v415 : Value).ownBlock ∧ k_ ≠ gb410 ∧ k_ ≠ gb411 ∧ k_ ≠ gb419) u412001 x412001_2) := ⟨h2_⟩
          have n3_ : Ax (w30.heap[gb410]? = some (.cells #[.int .u64 x411000_2, .slice Ao26 x411001_2.length co26, .string x411002_2] 66 (0, 0))) := ⟨h3_⟩
          have n4_ : Ax (w30.heap[gb411]? = some (.cells #[.int .u64 x412000_2, u412001, .string x412002_2] 66 (0, 0))) := ⟨h4_⟩
          have n5_ : Ax (w30.heap[gb419]? = some (.cells #[.int .u64 0, .slice none 0 0, .string (⟨#[]⟩ : ByteArray)] 66 (0, 0))) := ⟨h5_⟩
          have n6_ : Ax (w.heap.size ≤ gb419) := ⟨h6_⟩
          have n7_ : Ax (w.heap.size ≤ gb419) := ⟨h7_⟩
          have n8_ : Ax (gb410 ≠ gb419) := ⟨h8_⟩
          have n9_ : Ax (gb419 ≠ gb410) := ⟨h9_⟩
          have n10_ : Ax (gb411 ≠ gb419) := ⟨h10_⟩
          have n11_ : Ax (gb419 ≠ gb411) := ⟨h11_⟩
          have n12_ : Ax (Below w.heap.size w w30) := ⟨h12_⟩
          clear HO_411001
          clear HO_412001
          clear BK410
          clear BK411
          clear HB
          clear h0_ h1_ h2_ h3_ h4_ h5_ h6_ h7_ h8_ h9_ h10_ h11_ h12_
          have HO416 := n0_
          have HO_411001 := n1_
          have HO_412001 := n2_
          have BK410 := n3_
          have BK411 := n4_
          have BK419 := n5_
          have GW419 := n6_
          have GE419 := n7_
          have NB410_419 := n8_
          have NB419_410 := n9_
          have NB411_419 := n10_
          have NB419_411 := n11_
          have HB := n12_
          clear n0_ n1_ n2_ n3_ n4_ n5_ n6_ n7_ n8_ n9_ n10_ n11_ n12_
          have hHeld : w30.cell? ⟨gb410, 0, none⟩ = some (.int .u64 x411000_2) ∧ w30.cell? ⟨gb410, 1, none⟩ = some (.slice Ao26 x411001_2.length co26) ∧ w30.cell? ⟨gb410, 2, none⟩ = some (.string x411002_2) ∧ w30.cell? (ad412.add (x12_2).toNat) = some (.slice A412_0 (rd_L4 l1 x12_2).length c412_0) := hS_
          obtain ⟨Ao32, co32, eo32⟩ := Kd.N_slice HO416.out
          (first | subst eo32 | (injection eo32 with f1_ f2_ f3_; have f4_ := f1_.symm; have f5_ := f3_.symm; clear f1_ f2_ f3_; subst f4_; subst f5_))
          refine norm_ (a' := ?_) ?_ ?_
          rotate_left
          ·simp only [putAll, Act.put, sI, sZ, sS]
           rfl
          refine one_ (i := 10) (N := none) (TF 11 1) rfl rfl (one_of HT_.out (by kernel_rfl)) (by decide) (fun K hK => ?_)
          have hs31 : w30.cell? ⟨gb419, 0, none⟩ = some (.int .u64 0) := (bC BK419.out 0).trans rfl
          have hfs31 := bF BK419.out 0
          have hns31_0 := NB410_419.out
          have hns31_1 := NB411_419.out
          have hms31_0 := NB419_410.out
          have hms31_1 := NB419_411.out
          have hs33 : w30.cell? ⟨gb419, 1, none⟩ = some (.slice none 0 0) := (bC BK419.out 1).trans rfl
          have hfs33 := bF BK419.out 1
          have hns33_0 := NB410_419.out
          have hns33_1 := NB411_419.out
          have hms33_0 := NB419_410.out
          have hms33_1 := NB419_411.out
          have hs34 : w30.cell? ⟨gb419, 2, none⟩ = some (.string (⟨#[]⟩ : ByteArray)) := (bC BK419.out 2).trans rfl
          have hfs34 := bF BK419.out 2
          have hns34_0 := NB410_419.out
          have hns34_1 := NB411_419.out
          have hms34_0 := NB419_410.out
          have hms34_1 := NB419_411.out
          refine skip_ (w1 := ?_) (by rfl) rfl ?_ ?_
          rotate_left
          ·go_simp
           rfl
          refine hK.out _ _ ⟨((cell_far (p := ⟨gb419, _, none⟩) NB410_419.out _).trans (((cell_far (p := ⟨gb419, _, none⟩) NB410_419.out _).trans (((cell_far (p := ⟨gb419, _, none⟩) NB410_419.out _).trans (hHeld.1)))))), ((cell_far (p := ⟨gb419, _, none⟩) NB410_419.out _).trans (((cell_far (p := ⟨gb419, _, none⟩) NB410_419.out _).trans (((cell_far (p := ⟨gb419, _, none⟩) NB410_419.out _).trans (hHeld.2.1)))))), ((cell_far (p := ⟨gb419, _, none⟩) NB410_419.out _).trans (((cell_far (p := ⟨gb419, _, none⟩) NB410_419.out _).trans (((cell_far (p := ⟨gb419, _, none⟩) NB410_419.out _).trans (hHeld.2.2.1)))))), ((cell_far (p := ⟨gb419, _, none⟩) (by first | exact Nat.ne_of_lt (Nat.lt_of_lt_of_le (by have := World.block_lt_of_cell? _ _ hw412_0; first | rwa [add_block] at this | exact this) GW419.out) | (rw [add_block]; exact Nat.ne_of_lt (Nat.lt_of_lt_of_le (by have := World.block_lt_of_cell? _ _ hw412_0; first | rwa [add_block] at this | exact this) GW419.out)) | (show (Addr.add _ _).block ≠ _; rw [add_block]; exact Nat.ne_of_lt (Nat.lt_of_lt_of_le (by have := World.block_lt_of_cell? _ _ hw412_0; first | rwa [add_block] at this | exact this) GW419.out)) | (dsimp only; exact Nat.ne_of_lt (Nat.lt_of_lt_of_le (by have := World.block_lt_of_cell? _ _ hw412_0; first | rwa [add_block] at this | exact this) GW419.out))) _).trans (((cell_far (p := ⟨gb419, _, none⟩) (by first | exact Nat.ne_of_lt (Nat.lt_of_lt_of_le (by have := World.block_lt_of_cell? _ _ hw412_0; first | rwa [add_block] at this | exact this) GW419.out) | (rw [add_block]; exact Nat.ne_of_lt (Nat.lt_of_lt_of_le (by have := World.block_lt_of_cell? _ _ hw412_0; first | rwa [add_block] at this | exact this) GW419.out)) | (show (Addr.add _ _).block ≠ _; rw [add_block]; exact Nat.ne_of_lt (Nat.lt_of_lt_of_le (by have := World.block_lt_of_cell? _ _ hw412_0; first | rwa [add_block] at this | exact this) GW419.out)) | (dsimp only; exact Nat.ne_of_lt (Nat.lt_of_lt_of_le (by have := World.block_lt_of_cell? _ _ hw412_0; first | rwa [add_block] at this | exact this) GW419.out))) _).trans (((cell_far (p := ⟨gb419, _, none⟩) (by first | exact Nat.ne_of_lt (Nat.lt_of_lt_of_le (by have := World.block_lt_of_cell? _ _ hw412_0; first | rwa [add_block] at this | exact this) GW419.out) | (rw [add_block]; exact Nat.ne_of_lt (Nat.lt_of_lt_of_le (by have := World.block_lt_of_cell? _ _ hw412_0; first | rwa [add_block] at this | exact this) GW419.out)) | (show (Addr.add _ _).block ≠ _; rw [add_block]; exact Nat.ne_of_lt (Nat.lt_of_lt_of_le (by have := World.block_lt_of_cell? _ _ hw412_0; first | rwa [add_block] at this | exact this) GW419.out)) | (dsimp only; exact Nat.ne_of_lt (Nat.lt_of_lt_of_le (by have := World.block_lt_of_cell? _ _ hw412_0; first | rwa [add_block] at this | exact this) GW419.out))) _).trans (hHeld.2.2.2))))))⟩ (fun hHeld => ?_)
          clear hK K
          refine pure_ (i := 11) (N := some 14) (v := ?_) (a' := ?_) (TF 12 0) rfl rfl (any_of HT_.out (by kernel_rfl)) (fun _ _ _ h => h) (Or.inl ⟨by rfl, ?_⟩) ?_ ?_
          rotate_left; · intro w'; go_simp; with_reducible rfl
          rotate_left; · simp only [Act.put, sI, sZ, sS, i64_w, i32_w]; rfl
          refine done_ (done_of HT_.out (by kernel_rfl)) ?_
          have hnb35 := NB419_410.out
          have hnc35 := NB410_419.out
          have hnb36 := NB419_411.out
          have hnc36 := NB411_419.out
          have hcz37_0 : w30.cell? ⟨gb419, 0, none⟩ = some (.int .u64 0) := (bC BK419.out 0).trans rfl
          have hcz37_1 : w30.cell? ⟨gb419, 1, none⟩ = some (.slice none 0 0) := (bC BK419.out 1).trans rfl
          have hcz37_2 : w30.cell? ⟨gb419, 2, none⟩ = some (.string (⟨#[]⟩ : ByteArray)) := (bC BK419.out 2).trans rfl
          have hfz37_0 := bF BK419.out 0
          have hfz37_1 := bF BK419.out 1
          have hfz37_2 := bF BK419.out 2
          have hnb38 := NB410_411.out
          have hnc38 := NB411_410.out
          have hcz39_0 : w30.cell? ⟨gb410, 0, none⟩ = some (.int .u64 x411000_2) := (bC BK410.out 0).trans rfl
          have hcz39_1 : w30.cell? ⟨gb410, 1, none⟩ = some (.slice Ao26 x411001_2.length co26) := (bC BK410.out 1).trans rfl
          have hcz39_2 : w30.cell? ⟨gb410, 2, none⟩ = some (.string x411002_2) := (bC BK410.out 2).trans rfl
          have hfz39_0 := bF BK410.out 0
          have hfz39_1 := bF BK410.out 1
          have hfz39_2 := bF BK410.out 2
          have hcz40_0 : w30.cell? ⟨gb411, 0, none⟩ = some (.int .u64 x412000_2) := (bC BK411.out 0).trans rfl
          have hcz40_1 : w30.cell? ⟨gb411, 1, none⟩ = some (u412001) := (bC BK411.out 1).trans rfl
          have hcz40_2 : w30.cell? ⟨gb411, 2, none⟩ = some (.string x412002_2) := (bC BK411.out 2).trans rfl
          have hfz40_0 := bF BK411.out 0
          have hfz40_1 := bF BK411.out 1
          have hfz40_2 := bF BK411.out 2
          try go_wp2
          go_roundg k2
          case measure => have := HJ5.out; have := HK2.out; omega
          case rel => exact ⟨(wrap64 (x12_2 + 1)), (t413), (t414), (t417), (t413), (t414), (t417), (.slice Ao32 t414.length co32), (.slice Ao32 t414.length co32), (by first | rfl | (simp; done) | (simp [*]; done)), H', ⟨by have := HJ5.out; have := HK2.out; omega⟩, ⟨by apply Kd.N_to; exact Kd.N_mono (Kd.N_far (p := ⟨gb411, 2, none⟩) (Kd.N_far (p := ⟨gb411, 1, none⟩) (Kd.N_far (p := ⟨gb411, 0, none⟩) (Kd.N_far (p := ⟨gb410, 2, none⟩) (Kd.N_far (p := ⟨gb410, 1, none⟩) (Kd.N_far (p := ⟨gb410, 0, none⟩) (Kd.N_far (p := ⟨gb419, 2, none⟩) (Kd.N_far (p := ⟨gb419, 1, none⟩) (Kd.N_far (p := ⟨gb419, 0, none⟩) (Kd.N_mono (Kd.N_mono (Kd.N_mono HO416.out (fun k_ hk => (⟨hk, hk.2.2⟩ : _ ∧ k_ ≠ gb419))) (fun k_ hk => (⟨hk, hk.1.1⟩ : _ ∧ k_ ≠ gb410))) (fun k_ hk => (⟨hk, hk.1.1.2.1⟩ : _ ∧ k_ ≠ gb411))) (fun _ hk => hk.1.1.2) (.int .u64 t413)) (fun _ hk => hk.1.1.2) (.slice Ao32 t414.length co32)) (fun _ hk => hk.1.1.2) (.string t417)) (fun _ hk => hk.1.2) (.int .u64 t413)) (fun _ hk => hk.1.2) (.slice Ao32 t414.length co32)) (fun _ hk => hk.1.2) (.string t417)) (fun _ hk => hk.2) (.int .u64 t413)) (fun _ hk => hk.2) (.slice Ao32 t414.length co32)) (fun _ hk => hk.2) (.string t417)) (fun _ hk => ⟨hk.1.1.1.1, hk.1.1.1.2.1⟩)⟩, ⟨by apply Kd.N_to; exact Kd.N_mono (Kd.N_far (p := ⟨gb411, 2, none⟩) (Kd.N_far (p := ⟨gb411, 1, none⟩) (Kd.N_far (p := ⟨gb411, 0, none⟩) (Kd.N_far (p := ⟨gb410, 2, none⟩) (Kd.N_far (p := ⟨gb410, 1, none⟩) (Kd.N_far (p := ⟨gb410, 0, none⟩) (Kd.N_far (p := ⟨gb419, 2, none⟩) (Kd.N_far (p := ⟨gb419, 1, none⟩) (Kd.N_far (p := ⟨gb419, 0, none⟩) (Kd.N_mono (Kd.N_mono (Kd.N_mono HO416.out (fun k_ hk => (⟨hk, hk.2.2⟩ : _ ∧ k_ ≠ gb419))) (fun k_ hk => (⟨hk, hk.1.1⟩ : _ ∧ k_ ≠ gb410))) (fun k_ hk => (⟨hk, hk.1.1.2.1⟩ : _ ∧ k_ ≠ gb411))) (fun _ hk => hk.1.1.2) (.int .u64 t413)) (fun _ hk => hk.1.1.2) (.slice Ao32 t414.length co32)) (fun _ hk => hk.1.1.2) (.string t417)) (fun _ hk => hk.1.2) (.int .u64 t413)) (fun _ hk => hk.1.2) (.slice Ao32 t414.length co32)) (fun _ hk => hk.1.2) (.string t417)) (fun _ hk => hk.2) (.int .u64 t413)) (fun _ hk => hk.2) (.slice Ao32 t414.length co32)) (fun _ hk => hk.2) (.string t417)) (fun _ hk => ⟨hk.1.1.1.1, hk.1.1.1.2.1⟩)⟩, ⟨by refine bT ?_; refine bR ?_ NB410_411.out _; refine bT ?_; refine bR ?_ NB410_411.out _; refine bT ?_; refine bR ?_ NB410_411.out _; refine bT ?_; refine bU (cs := #[.int .u64 t413, .slice Ao32 t414.length co32, .string x411002_2]) ?_ 2 _ rfl; refine bT ?_; refine bU (cs := #[.int .u64 t413, .slice Ao26 x411001_2.length co26, .string x411002_2]) ?_ 1 _ rfl; refine bT ?_; refine bU (cs := #[.int .u64 x411000_2, .slice Ao26 x411001_2.length co26, .string x411002_2]) ?_ 0 _ rfl; refine bT ?_; refine bR ?_ NB410_419.out _; refine bT ?_; refine bR ?_ NB410_419.out _; refine bT ?_; refine bR ?_ NB410_419.out _; refine bT ?_; exact BK410.out⟩, ⟨by refine bT ?_; refine bU (cs := #[.int .u64 t413, .slice Ao32 t414.length co32, .string x412002_2]) ?_ 2 _ rfl; refine bT ?_; refine bU (cs := #[.int .u64 t413, u412001, .string x412002_2]) ?_ 1 _ rfl; refine bT ?_; refine bU (cs := #[.int .u64 x412000_2, u412001, .string x412002_2]) ?_ 0 _ rfl; refine bT ?_; refine bR ?_ NB411_410.out _; refine bT ?_; refine bR ?_ NB411_410.out _; refine bT ?_; refine bR ?_ NB411_410.out _; refine bT ?_; refine bR ?_ NB411_419.out _; refine bT ?_; refine bR ?_ NB411_419.out _; refine bT ?_; refine bR ?_ NB411_419.out _; refine bT ?_; exact BK411.out⟩, ⟨bA⟩⟩
         ·rw [if_neg c25] at H
          have c25b0 : ((wrap64 (x12_2 + 1)) == ji13) = false := beq_eq_false_iff_ne.mpr c25
          have c25b1 : ((wrap64 (x12_2 + 1)) != ji13) = true := bne_iff_ne.mpr c25
          have H' := Ax.mk H
          clear H
          obtain ⟨Ao41, co41, eo41⟩ := Kd.N_slice HO_411001.out
          subst eo41
          try go_wp2
          have n0_ := Ax.mk (Kd.N_drew HO_411001.out)
          have n1_ := Ax.mk (Kd.N_drew HO_412001.out)
          have n2_ := Ax.mk (blk_drew BK410.out)
          have n3_ := Ax.mk (blk_drew BK411.out)
          have n4_ := Ax.mk (below_drew1 HB.out)
          clear HO_411001
          clear HO_412001
          clear BK410
          clear BK411
          clear HB
          have HO_411001 := n0_
          have HO_412001 := n1_
          have BK410 := n2_
          have BK411 := n3_
          have HB := n4_
          clear n0_ n1_ n2_ n3_ n4_
          have p412 : 0 ≤ (x12_2 : Int) := of_decide_eq_true (by first | (with_reducible assumption) | assumption)
          have q412 : x12_2 < (l1.length : Int) := of_decide_eq_true (by first | (with_reducible assumption) | assumption)
          obtain ⟨ad412, A412_0, c412_0, e412, hx412_0, hl412_0, hi412_0⟩ := at_L4 HR1.out x12_2 p412 q412
          have hw412_0 := hx412_0
          cases e412
          replace hx412_0 := (HB.out.cell (World.block_lt_of_cell? w _ hx412_0)).trans hx412_0
          have HR412_0 := Ax.mk hi412_0
          have HC412_0 := Ax.mk hl412_0
          clear hi412_0 hl412_0
          replace p412 := eq_true p412
          replace q412 := eq_true q412
          refine start_ (n := 12) (S := fun w' => w'.cell? ⟨gb410, 0, none⟩ = some (.int .u64 x411000_2) ∧ w'.cell? ⟨gb410, 1, none⟩ = some (.slice Ao41 x411001_2.length co41) ∧ w'.cell? ⟨gb410, 2, none⟩ = some (.string x411002_2) ∧ w'.cell? (ad412.add (x12_2).toNat) = some (.slice A412_0 (rd_L4 l1 x12_2).length c412_0)) (ds := []) (TF 0 12) (by kernel_rfl) rfl rfl ⟨(bC BK410.out 0).trans rfl, (bC BK410.out 1).trans rfl, (bC BK410.out 2).trans rfl, ((HB.out.cell (World.block_lt_of_cell? w _ hw412_0)).trans hw412_0)⟩ (fun hHeld => ?_); refine with_tabW l13_JournalOnce.tab11 l13_JournalOnce.bits11 (fun HT_ HW_ => ?_)
          generalize wr.drew = w42 at HO_411001 HO_412001 BK410 BK411 HB HR412_0 hx412_0 hHeld ⊢
          refine pure_ (i := 1) (N := some 55) (v := ?_) (a' := ?_) #[false, true, false, false, false, false, false, false, false, false, false, false] rfl rfl (any_of HT_.out (by kernel_rfl)) (fun _ _ _ h => h) (Or.inl ⟨by rfl, ?_⟩) ?_ ?_
          rotate_left; · intro w'; go_simp; with_reducible rfl
          rotate_left; · simp only [Act.put, sI, sZ, sS, i64_w, i32_w]; rfl
          refine pure_ (i := 2) (N := some 56) (v := ?_) (a' := ?_) #[false, true, true, false, false, false, false, false, false, false, false, false] rfl rfl (any_of HT_.out (by kernel_rfl)) (fun _ _ _ h => h) (Or.inl ⟨by rfl, ?_⟩) ?_ ?_
          rotate_left; · intro w'; go_simp; with_reducible rfl
          rotate_left; · simp only [Act.put, sI, sZ, sS, i64_w, i32_w]; rfl
          refine pure_ (i := 3) (N := some 57) (v := ?_) (a' := ?_) #[false, true, true, true, false, false, false, false, false, false, false, false] rfl rfl (any_of HT_.out (by kernel_rfl)) (fun _ _ _ h => h) (Or.inl ⟨by rfl, ?_⟩) ?_ ?_
          rotate_left; · intro w'; go_simp; with_reducible rfl
          rotate_left; · simp only [Act.put, sI, sZ, sS, i64_w, i32_w]; rfl
          refine take_ (i := 0) (N := some 54) (v := ?_) (a' := ?_) (TF 4 8) rfl rfl (take_ofW HT_.out HW_.out (by kernel_rfl)) (fun _ _ _ h => h) (Or.inl ⟨by rfl, ?_⟩) hHeld ?_ ?_
          rotate_left
          ·rintro w' ⟨s0, s1, s2, s3⟩
           go_simp
           with_reducible rfl
          rotate_left
          ·simp only [Act.put, sI, sZ, sS, i64_w, i32_w]
           rfl
          refine take_ (i := 4) (N := some 58) (v := ?_) (a' := ?_) (TF 5 7) rfl rfl (take_ofW HT_.out HW_.out (by kernel_rfl)) (fun _ _ _ h => h) (Or.inl ⟨by rfl, ?_⟩) hHeld ?_ ?_
          rotate_left
          ·rintro w' ⟨s0, s1, s2, s3⟩
           go_simp
           with_reducible rfl
          rotate_left
          ·simp only [Act.put, sI, sZ, sS, i64_w, i32_w]
           rfl
          refine join_ (σ := Value × Nat) 2 (TF 10 2) (fun s_ => [(59, .tuple #[.agg #[.int .u64 t413, s_.1, .string t417], .int .i64 t418]), (13, .pointer (some ⟨s_.2, 0, none⟩)), (53, .tuple #[.agg #[.int .u64 t413, s_.1, .string t417], .int .i64 t418]), (60, .agg #[.int .u64 t413, s_.1, .string t417]), (61, .int .i64 t418)]) (fun s_ w' => (w'.cell? ⟨gb410, 0, none⟩ = some (.int .u64 x411000_2) ∧ w'.cell? ⟨gb410, 1, none⟩ = some (.slice Ao41 x411001_2.length co41) ∧ w'.cell? ⟨gb410, 2, none⟩ = some (.string x411002_2) ∧ w'.cell? (ad412.add (x12_2).toNat) = some (.slice A412_0 (rd_L4 l1 x12_2).length c412_0)) ∧ (Kd.N k44 44 w' w.heap.size (fun k_ => k_ ≠ gb410 ∧ k_ ≠ gb411 ∧ k_ ≠ s_.2) s_.1 t414) ∧ (Kd.N k44 44 w' w.heap.size (fun k_ => some k_ ≠ (s_.1 : Value).ownBlock ∧ k_ ≠ gb410 ∧ k_ ≠ gb411 ∧ k_ ≠ s_.2) (.slice Ao41 x411001_2.length co41) x411001_2) ∧ (Kd.N k44 44 w' w.heap.size (fun k_ => some k_ ≠ (s_.1 : Value).ownBlock ∧ k_ ≠ gb410 ∧ k_ ≠ gb411 ∧ k_ ≠ s_.2) u412001 x412001_2) ∧ (w'.heap[gb410]? = some (.cells #[.int .u64 x411000_2, .slice Ao41 x411001_2.length co41, .string x411002_2] 66 (0, 0))) ∧ (w'.heap[gb411]? = some (.cells #[.int .u64 x412000_2, u412001, .string x412002_2] 66 (0, 0))) ∧ (w'.heap[s_.2]? = some (.cells #[.int .u64 0, .slice none 0 0, .string (⟨#[]⟩ : ByteArray)] 66 (0, 0))) ∧ (w.heap.size ≤ s_.2) ∧ (w.heap.size ≤ s_.2) ∧ (gb410 ≠ s_.2) ∧ (s_.2 ≠ gb410) ∧ (gb411 ≠ s_.2) ∧ (s_.2 ≠ gb411) ∧ (Below w.heap.size w w')) ?_ ?_
          rotate_left
          ·intro hCont
           refine two_ (i := 5) (j := 9) (Ni := some 59) (Nj := some 13) (TF 6 6) #[true, true, true, true, true, false, false, false, false, true, false, false] rfl rfl rfl rfl (two_of HT_.out (by kernel_rfl)) (by decide) (by decide) (fun K hK => ?_) (fun K hK => ?_)
           ·skip
            refine goes_ Tryd.func39 (by kernel_rfl) rfl #[.agg #[.int .u64 x411000_2, .slice Ao41 x411001_2.length co41, .string x411002_2], .slice A412_0 (rd_L4 l1 x12_2).length c412_0] (by rfl) rfl rfl (by (try simp only [List.map_toArray, List.map_cons, List.map_nil]); first | done | rfl | (simp only [List.length_drop, List.length_take]; rfl) | (rw [wrap_sum2 (by assumption)]; rfl)) ?_
            with_reducible refine (journal_Add.calls k2 x411000_2 (fun k_ => (k_ ≠ gb410 ∧ k_ ≠ gb411)) _ _ x411001_2 x411002_2 _ _ (rd_L4 l1 x12_2) t413 t414 t417 t418 _ ?side1 ?side2 ?side3 A23.out (HT.below bA)).mono ?_
            (case side1 => exact Kd.N_V (HO_411001.out))
            (case side2 => repeat (first | exact (Kd.C_below HR412_0.out HB.out) | (with_reducible refine Kd.C_alloc ?_ _) | (with_reducible refine Kd.C_drewN ?_ _) | (with_reducible refine Kd.C_drew ?_)))
            (case side3 => exact HC412_0.out)
            rintro e w43 ⟨v415, rfl, ho0, hb⟩
            refine ⟨_, rfl, ?_⟩
            have n0_ := Ax.mk (Kd.N_elder' (by exact Kd.N_to HO_411001.out) (Kd.N_base ho0) hb)
            have n1_ := Ax.mk (Kd.N_elder' (by exact Kd.N_to HO_412001.out) (Kd.N_base ho0) hb)
            have n2_ := Ax.mk (Kd.N_lower (Kd.N_mono (ok' := fun k_ => k_ ≠ gb410 ∧ k_ ≠ gb411) ho0 (fun k_ hk_ => ⟨Or.elim hk_ (fun hs_ => hs_.1) (fun hn_ => (Kd.freshB (g := gb410) (o := .cells #[.int .u64 x411000_2, .slice Ao41 x411001_2.length co41, .string x411002_2] 66 (0, 0)) (bT BK410.out) k_ hn_)), Or.elim hk_ (fun hs_ => hs_.2) (fun hn_ => (Kd.freshB (g := gb411) (o := .cells #[.int .u64 x412000_2, u412001, .string x412002_2] 66 (0, 0)) (bT BK411.out) k_ hn_))⟩)) (bS bA))
            have n3_ := Ax.mk (bB (bT BK410.out) hb)
            have n4_ := Ax.mk (bB (bT BK411.out) hb)
            have n5_ := Ax.mk (bP bA hb)
            clear HO_411001
            clear HO_412001
            clear BK410
            clear BK411
            clear HB
            have HO_411001 := n0_
            have HO_412001 := n1_
            have HO416 := n2_
            have BK410 := n3_
            have BK411 := n4_
            have HB := n5_
            clear n0_ n1_ n2_ n3_ n4_ n5_
            (try clear hb)
            (try clear hb2)
            (try clear hk)
            (try clear hi)
            (try clear ho0)
            refine hK.out _ _ ⟨(bC BK410.out 0).trans rfl, (bC BK410.out 1).trans rfl, (bC BK410.out 2).trans rfl, ((HB.out.cell (World.block_lt_of_cell? w _ hw412_0)).trans hw412_0)⟩ (fun hHeld => ?_)
            clear hK K
            refine norm_ (a' := ?_) ?_ ?_
            rotate_left
            ·show Act.put _ (some 59) _ = _
             simp only [Act.put, sI, sZ, sS, i64_w, i32_w]
             rfl
            refine pure_ (i := 6) (N := some 53) (v := ?_) (a' := ?_) (TF 7 5) rfl rfl (any_of HT_.out (by kernel_rfl)) (fun _ _ _ h => h) (Or.inl ⟨by rfl, ?_⟩) ?_ ?_
            rotate_left; · intro w'; go_simp; with_reducible rfl
            rotate_left; · simp only [Act.put, sI, sZ, sS, i64_w, i32_w]; rfl
            refine pure_ (i := 7) (N := some 60) (v := ?_) (a' := ?_) (TF 8 4) rfl rfl (any_of HT_.out (by kernel_rfl)) (fun _ _ _ h => h) (Or.inl ⟨by rfl, ?_⟩) ?_ ?_
            rotate_left; · intro w'; go_simp; with_reducible rfl
            rotate_left; · simp only [Act.put, sI, sZ, sS, i64_w, i32_w]; rfl
            refine pure_ (i := 8) (N := some 61) (v := ?_) (a' := ?_) (TF 9 3) rfl rfl (any_of HT_.out (by kernel_rfl)) (fun _ _ _ h => h) (Or.inl ⟨by rfl, ?_⟩) ?_ ?_
            rotate_left; · intro w'; go_simp; with_reducible rfl
            rotate_left; · simp only [Act.put, sI, sZ, sS, i64_w, i32_w]; rfl
            refine one_ (i := 9) (N := some 13) (TF 10 2) rfl rfl (one_of HT_.out (by kernel_rfl)) (by decide) (fun K hK => ?_)
            refine box_step ?hg (N := 13) ?hd (cs := #[.int .u64 0, .slice none 0 0, .string (⟨#[]⟩ : ByteArray)]) (t := 66) ?hr ?_; (case hd => rfl); (case hg => rfl); (case hr => first | (go_simp; done) | (go_simp; rfl))
            intro gb419 hg w44 hbox hb
            have n0_ := Ax.mk (Kd.N_below (Kd.N_elderB (by exact Kd.N_to HO_411001.out) gb419 (Nat.le_of_eq hg.symm)) hb)
            have n1_ := Ax.mk (Kd.N_below (Kd.N_elderB (by exact Kd.N_to HO_412001.out) gb419 (Nat.le_of_eq hg.symm)) hb)
            have n2_ := Ax.mk (Kd.N_below (Kd.N_elderB (by exact Kd.N_to HO416.out) gb419 (Nat.le_of_eq hg.symm)) hb)
            have n3_ := Ax.mk (bB (bT BK410.out) hb)
            have n4_ := Ax.mk (bB (bT BK411.out) hb)
            have n5_ := Ax.mk (bP bA hb)
            have n6_ := Ax.mk (hbox)
            have n7_ := Ax.mk ((ge_new hg : w.heap.size ≤ gb419))
            have n8_ := Ax.mk ((ge_new hg : w.heap.size ≤ gb419))
            have n9_ := Ax.mk ((ne_lt hg BK410.out : gb410 ≠ gb419))
            have n10_ := Ax.mk ((ne_gt hg BK410.out : gb419 ≠ gb410))
            have n11_ := Ax.mk ((ne_lt hg BK411.out : gb411 ≠ gb419))
            have n12_ := Ax.mk ((ne_gt hg BK411.out : gb419 ≠ gb411))
            clear HO_411001
            clear HO_412001
            clear HO416
            clear BK410
            clear BK411
            clear HB
            have HO_411001 := n0_
            have HO_412001 := n1_
            have HO416 := n2_
            have BK410 := n3_
            have BK411 := n4_
            have HB := n5_
            have BK419 := n6_
            have GW419 := n7_
            have GE419 := n8_
            have NB410_419 := n9_
            have NB419_410 := n10_
            have NB411_419 := n11_
            have NB419_411 := n12_
            clear n0_ n1_ n2_ n3_ n4_ n5_ n6_ n7_ n8_ n9_ n10_ n11_ n12_
            clear hb hbox hg
            refine hK.out _ _ ⟨(bC BK410.out 0).trans rfl, (bC BK410.out 1).trans rfl, (bC BK410.out 2).trans rfl, ((HB.out.cell (World.block_lt_of_cell? w _ hw412_0)).trans hw412_0)⟩ (fun hHeld => ?_)
            clear hK K
            refine norm_ (a' := ?_) ?_ ?_
            rotate_left
            ·show Act.put _ (some 13) _ = _
             simp only [Act.put, sI, sZ, sS, i64_w, i32_w]
             rfl
            exact norm_ (by simp only [putAll, Act.put, sI, sZ, sS]) (hCont (v415, gb419) _ ⟨hHeld, (by apply Kd.N_to; exact Kd.N_mono HO416.out (fun _ hk => ⟨hk.1.1, ⟨hk.1.2, hk.2⟩⟩)), (by apply Kd.N_to; exact Kd.N_mono HO_411001.out (fun _ hk => ⟨hk.1.2, ⟨hk.1.1.1, ⟨hk.1.1.2, hk.2⟩⟩⟩)), (by apply Kd.N_to; exact Kd.N_mono HO_412001.out (fun _ hk => ⟨hk.1.2, ⟨hk.1.1.1, ⟨hk.1.1.2, hk.2⟩⟩⟩)), (bT BK410.out), (bT BK411.out), (bT BK419.out), GW419.out, GE419.out, NB410_419.out, NB419_410.out, NB411_419.out, NB419_411.out, bA⟩)
           ·skip
            refine box_step ?hg (N := 13) ?hd (cs := #[.int .u64 0, .slice none 0 0, .string (⟨#[]⟩ : ByteArray)]) (t := 66) ?hr ?_; (case hd => rfl); (case hg => rfl); (case hr => first | (go_simp; done) | (go_simp; rfl))
            intro gb419 hg w43 hbox hb
            have n0_ := Ax.mk (Kd.N_below (Kd.N_elderB (by exact Kd.N_to HO_411001.out) gb419 (Nat.le_of_eq hg.symm)) hb)
            have n1_ := Ax.mk (Kd.N_below (Kd.N_elderB (by exact Kd.N_to HO_412001.out) gb419 (Nat.le_of_eq hg.symm)) hb)
            have n2_ := Ax.mk (bB (bT BK410.out) hb)
            have n3_ := Ax.mk (bB (bT BK411.out) hb)
            have n4_ := Ax.mk (bP bA hb)
            have n5_ := Ax.mk (hbox)
            have n6_ := Ax.mk ((ge_new hg : w.heap.size ≤ gb419))
            have n7_ := Ax.mk ((ge_new hg : w.heap.size ≤ gb419))
            have n8_ := Ax.mk ((ne_lt hg BK410.out : gb410 ≠ gb419))
            have n9_ := Ax.mk ((ne_gt hg BK410.out : gb419 ≠ gb410))
            have n10_ := Ax.mk ((ne_lt hg BK411.out : gb411 ≠ gb419))
            have n11_ := Ax.mk ((ne_gt hg BK411.out : gb419 ≠ gb411))
            clear HO_411001
            clear HO_412001
            clear BK410
            clear BK411
            clear HB
            have HO_411001 := n0_
            have HO_412001 := n1_
            have BK410 := n2_
            have BK411 := n3_
            have HB := n4_
            have BK419 := n5_
            have GW419 := n6_
            have GE419 := n7_
            have NB410_419 := n8_
            have NB419_410 := n9_
            have NB411_419 := n10_
            have NB419_411 := n11_
            clear n0_ n1_ n2_ n3_ n4_ n5_ n6_ n7_ n8_ n9_ n10_ n11_
            clear hb hbox hg
            refine hK.out _ _ ⟨(bC BK410.out 0).trans rfl, (bC BK410.out 1).trans rfl, (bC BK410.out 2).trans rfl, ((HB.out.cell (World.block_lt_of_cell? w _ hw412_0)).trans hw412_0)⟩ (fun hHeld => ?_)
            clear hK K
            refine norm_ (a' := ?_) ?_ ?_
            rotate_left
            ·show Act.put _ (some 13) _ = _
             simp only [Act.put, sI, sZ, sS, i64_w, i32_w]
             rfl
            refine one_ (i := 5) (N := some 59) #[true, true, true, true, true, true, false, false, false, true, false, false] rfl rfl (one_of HT_.out (by kernel_rfl)) (by decide) (fun K hK => ?_)
            refine goes_ Tryd.func39 (by kernel_rfl) rfl #[.agg #[.int .u64 x411000_2, .slice Ao41 x411001_2.length co41, .string x411002_2], .slice A412_0 (rd_L4 l1 x12_2).length c412_0] (by rfl) rfl rfl (by (try simp only [List.map_toArray, List.map_cons, List.map_nil]); first | done | rfl | (simp only [List.length_drop, List.length_take]; rfl) | (rw [wrap_sum2 (by assumption)]; rfl)) ?_
            with_reducible refine (journal_Add.calls k2 x411000_2 (fun k_ => ((k_ ≠ gb410 ∧ k_ ≠ gb411) ∧ k_ ≠ gb419)) _ _ x411001_2 x411002_2 _ _ (rd_L4 l1 x12_2) t413 t414 t417 t418 _ ?side1 ?side2 ?side3 A23.out (HT.below bA)).mono ?_
            (case side1 => exact Kd.N_V (HO_411001.out))
            (case side2 => repeat (first | exact (Kd.C_below HR412_0.out HB.out) | (with_reducible refine Kd.C_alloc ?_ _) | (with_reducible refine Kd.C_drewN ?_ _) | (with_reducible refine Kd.C_drew ?_)))
            (case side3 => exact HC412_0.out)
            rintro e w44 ⟨v415, rfl, ho0, hb⟩
            refine ⟨_, rfl, ?_⟩
            have n0_ := Ax.mk (Kd.N_elder' (by exact Kd.N_to HO_411001.out) (Kd.N_base ho0) hb)
            have n1_ := Ax.mk (Kd.N_elder' (by exact Kd.N_to HO_412001.out) (Kd.N_base ho0) hb)
            have n2_ := Ax.mk (Kd.N_lower (Kd.N_mono (ok' := fun k_ => k_ ≠ gb410 ∧ k_ ≠ gb411 ∧ k_ ≠ gb419) ho0 (fun k_ hk_ => ⟨Or.elim hk_ (fun hs_ => hs_.1.1) (fun hn_ => (Kd.freshB (g := gb410) (o := .cells #[.int .u64 x411000_2, .slice Ao41 x411001_2.length co41, .string x411002_2] 66 (0, 0)) (bT BK410.out) k_ hn_)), Or.elim hk_ (fun hs_ => hs_.1.2) (fun hn_ => (Kd.freshB (g := gb411) (o := .cells #[.int .u64 x412000_2, u412001, .string x412002_2] 66 (0, 0)) (bT BK411.out) k_ hn_)), Or.elim hk_ (fun hs_ => hs_.2) (fun hn_ => (Kd.freshB (g := gb419) (o := .cells #[.int .u64 0, .slice none 0 0, .string (⟨#[]⟩ : ByteArray)] 66 (0, 0)) (bT BK419.out) k_ hn_))⟩)) (bS bA))
            have n3_ := Ax.mk (bB (bT BK410.out) hb)
            have n4_ := Ax.mk (bB (bT BK411.out) hb)
            have n5_ := Ax.mk (bB (bT BK419.out) hb)
            have n6_ := Ax.mk (bP bA hb)
            clear HO_411001
            clear HO_412001
            clear BK410
            clear BK411
            clear BK419
            clear HB
            have HO_411001 := n0_
            have HO_412001 := n1_
            have HO416 := n2_
            have BK410 := n3_
            have BK411 := n4_
            have BK419 := n5_
            have HB := n6_
            clear n0_ n1_ n2_ n3_ n4_ n5_ n6_
            (try clear hb)
            (try clear hb2)
            (try clear hk)
            (try clear hi)
            (try clear ho0)
            refine hK.out _ _ ⟨(bC BK410.out 0).trans rfl, (bC BK410.out 1).trans rfl, (bC BK410.out 2).trans rfl, ((HB.out.cell (World.block_lt_of_cell? w _ hw412_0)).trans hw412_0)⟩ (fun hHeld => ?_)
            clear hK K
            refine norm_ (a' := ?_) ?_ ?_
            rotate_left
            ·show Act.put _ (some 59) _ = _
             simp only [Act.put, sI, sZ, sS, i64_w, i32_w]
             rfl
            refine pure_ (i := 6) (N := some 53) (v := ?_) (a' := ?_) #[true, true, true, true, true, true, true, false, false, true, false, false] rfl rfl (any_of HT_.out (by kernel_rfl)) (fun _ _ _ h => h) (Or.inl ⟨by rfl, ?_⟩) ?_ ?_
            rotate_left; · intro w'; go_simp; with_reducible rfl
            rotate_left; · simp only [Act.put, sI, sZ, sS, i64_w, i32_w]; rfl
            refine pure_ (i := 7) (N := some 60) (v := ?_) (a' := ?_) #[true, true, true, true, true, true, true, true, false, true, false, false] rfl rfl (any_of HT_.out (by kernel_rfl)) (fun _ _ _ h => h) (Or.inl ⟨by rfl, ?_⟩) ?_ ?_
            rotate_left; · intro w'; go_simp; with_reducible rfl
            rotate_left; · simp only [Act.put, sI, sZ, sS, i64_w, i32_w]; rfl
            refine pure_ (i := 8) (N := some 61) (v := ?_) (a' := ?_) (TF 10 2) rfl rfl (any_of HT_.out (by kernel_rfl)) (fun _ _ _ h => h) (Or.inl ⟨by rfl, ?_⟩) ?_ ?_
            rotate_left; · intro w'; go_simp; with_reducible rfl
            rotate_left; · simp only [Act.put, sI, sZ, sS, i64_w, i32_w]; rfl
            exact norm_ (by simp only [putAll, Act.put, sI, sZ, sS]) (hCont (v415, gb419) _ ⟨hHeld, (by exact Kd.N_to HO416.out), (by apply Kd.N_to; exact Kd.N_mono HO_411001.out (fun _ hk => ⟨hk.2, ⟨hk.1.1.1, ⟨hk.1.1.2, hk.1.2⟩⟩⟩)), (by apply Kd.N_to; exact Kd.N_mono HO_412001.out (fun _ hk => ⟨hk.2, ⟨hk.1.1.1, ⟨hk.1.1.2, hk.1.2⟩⟩⟩)), (bT BK410.out), (bT BK411.out), (bT BK419.out), GW419.out, GE419.out, NB410_419.out, NB419_410.out, NB411_419.out, NB419_411.out, bA⟩)
          rintro ⟨v415, gb419⟩ w45 ⟨hS_, h0_, h1_, h2_, h3_, h4_, h5_, h6_, h7_, h8_, h9_, h10_, h11_, h12_⟩
          have n0_ : Ax (Kd.N k44 44 w45 w.heap.size (fun k_ => k_ ≠ gb410 ∧ k_ ≠ gb411 ∧ k_ ≠ gb419) v415 t414) := ⟨h0_⟩
          have n1_ : Ax (Kd.N k44 44 w45 w.heap.size (fun k_ => some k_ ≠ (v415 : Value).ownBlock ∧ k_ ≠ gb410 ∧ k_ ≠ gb411 ∧ k_ ≠ gb419) (.slice Ao41 x411001_2.length co41) x411001_2) := ⟨h1_⟩
          have n2_ : Ax (Kd.N k44 44 w45 w.heap.size (fun k_ => some k_ ≠ (v415 : Value).ownBlock ∧ k_ ≠ gb410 ∧ k_ ≠ gb411 ∧ k_ ≠ gb419) u412001 x412001_2) := ⟨h2_⟩
          have n3_ : Ax (w45.heap[gb410]? = some (.cells #[.int .u64 x411000_2, .slice Ao41 x411001_2.length co41, .string x411002_2] 66 (0, 0))) := ⟨h3_⟩
          have n4_ : Ax (w45.heap[gb411]? = some (.cells #[.int .u64 x412000_2, u412001, .string x412002_2] 66 (0, 0))) := ⟨h4_⟩
          have n5_ : Ax (w45.heap[gb419]? = some (.cells #[.int .u64 0, .slice none 0 0, .string (⟨#[]⟩ : ByteArray)] 66 (0, 0))) := ⟨h5_⟩
          have n6_ : Ax (w.heap.size ≤ gb419) := ⟨h6_⟩
          have n7_ : Ax (w.heap.size ≤ gb419) := ⟨h7_⟩
          have n8_ : Ax (gb410 ≠ gb419) := ⟨h8_⟩
          have n9_ : Ax (gb419 ≠ gb410) := ⟨h9_⟩
          have n10_ : Ax (gb411 ≠ gb419) := ⟨h10_⟩
          have n11_ : Ax (gb419 ≠ gb411) := ⟨h11_⟩
          have n12_ : Ax (Below w.heap.size w w45) := ⟨h12_⟩
          clear HO_411001
          clear HO_412001
          clear BK410
          clear BK411
          clear HB
          clear h0_ h1_ h2_ h3_ h4_ h5_ h6_ h7_ h8_ h9_ h10_ h11_ h12_
          have HO416 := n0_
          have HO_411001 := n1_
          have HO_412001 := n2_
          have BK410 := n3_
          have BK411 := n4_
          have BK419 := n5_
          have GW419 := n6_
          have GE419 := n7_
          have NB410_419 := n8_
          have NB419_410 := n9_
          have NB411_419 := n10_
          have NB419_411 := n11_
          have HB := n12_
          clear n0_ n1_ n2_ n3_ n4_ n5_ n6_ n7_ n8_ n9_ n10_ n11_ n12_
          have hHeld : w45.cell? ⟨gb410, 0, none⟩ = some (.int .u64 x411000_2) ∧ w45.cell? ⟨gb410, 1, none⟩ = some (.slice Ao41 x411001_2.length co41) ∧ w45.cell? ⟨gb410, 2, none⟩ = some (.string x411002_2) ∧ w45.cell? (ad412.add (x12_2).toNat) = some (.slice A412_0 (rd_L4 l1 x12_2).length c412_0) := hS_
          obtain ⟨Ao47, co47, eo47⟩ := Kd.N_slice HO416.out
          (first | subst eo47 | (injection eo47 with f1_ f2_ f3_; have f4_ := f1_.symm; have f5_ := f3_.symm; clear f1_ f2_ f3_; subst f4_; subst f5_))
          refine norm_ (a' := ?_) ?_ ?_
          rotate_left
          ·simp only [putAll, Act.put, sI, sZ, sS]
           rfl
          refine one_ (i := 10) (N := none) (TF 11 1) rfl rfl (one_of HT_.out (by kernel_rfl)) (by decide) (fun K hK => ?_)
          have hs46 : w45.cell? ⟨gb419, 0, none⟩ = some (.int .u64 0) := (bC BK419.out 0).trans rfl
          have hfs46 := bF BK419.out 0
          have hns46_0 := NB410_419.out
          have hns46_1 := NB411_419.out
          have hms46_0 := NB419_410.out
          have hms46_1 := NB419_411.out
          have hs48 : w45.cell? ⟨gb419, 1, none⟩ = some (.slice none 0 0) := (bC BK419.out 1).trans rfl
          have hfs48 := bF BK419.out 1
          have hns48_0 := NB410_419.out
          have hns48_1 := NB411_419.out
          have hms48_0 := NB419_410.out
          have hms48_1 := NB419_411.out
          have hs49 : w45.cell? ⟨gb419, 2, none⟩ = some (.string (⟨#[]⟩ : ByteArray)) := (bC BK419.out 2).trans rfl
          have hfs49 := bF BK419.out 2
          have hns49_0 := NB410_419.out
          have hns49_1 := NB411_419.out
          have hms49_0 := NB419_410.out
          have hms49_1 := NB419_411.out
          refine skip_ (w1 := ?_) (by rfl) rfl ?_ ?_
          rotate_left
          ·go_simp
           rfl
          refine hK.out _ _ ⟨((cell_far (p := ⟨gb419, _, none⟩) NB410_419.out _).trans (((cell_far (p := ⟨gb419, _, none⟩) NB410_419.out _).trans (((cell_far (p := ⟨gb419, _, none⟩) NB410_419.out _).trans (hHeld.1)))))), ((cell_far (p := ⟨gb419, _, none⟩) NB410_419.out _).trans (((cell_far (p := ⟨gb419, _, none⟩) NB410_419.out _).trans (((cell_far (p := ⟨gb419, _, none⟩) NB410_419.out _).trans (hHeld.2.1)))))), ((cell_far (p := ⟨gb419, _, none⟩) NB410_419.out _).trans (((cell_far (p := ⟨gb419, _, none⟩) NB410_419.out _).trans (((cell_far (p := ⟨gb419, _, none⟩) NB410_419.out _).trans (hHeld.2.2.1)))))), ((cell_far (p := ⟨gb419, _, none⟩) (by first | exact Nat.ne_of_lt (Nat.lt_of_lt_of_le (by have := World.block_lt_of_cell? _ _ hw412_0; first | rwa [add_block] at this | exact this) GW419.out) | (rw [add_block]; exact Nat.ne_of_lt (Nat.lt_of_lt_of_le (by have := World.block_lt_of_cell? _ _ hw412_0; first | rwa [add_block] at this | exact this) GW419.out)) | (show (Addr.add _ _).block ≠ _; rw [add_block]; exact Nat.ne_of_lt (Nat.lt_of_lt_of_le (by have := World.block_lt_of_cell? _ _ hw412_0; first | rwa [add_block] at this | exact this) GW419.out)) | (dsimp only; exact Nat.ne_of_lt (Nat.lt_of_lt_of_le (by have := World.block_lt_of_cell? _ _ hw412_0; first | rwa [add_block] at this | exact this) GW419.out))) _).trans (((cell_far (p := ⟨gb419, _, none⟩) (by first | exact Nat.ne_of_lt (Nat.lt_of_lt_of_le (by have := World.block_lt_of_cell? _ _ hw412_0; first | rwa [add_block] at this | exact this) GW419.out) | (rw [add_block]; exact Nat.ne_of_lt (Nat.lt_of_lt_of_le (by have := World.block_lt_of_cell? _ _ hw412_0; first | rwa [add_block] at this | exact this) GW419.out)) | (show (Addr.add _ _).block ≠ _; rw [add_block]; exact Nat.ne_of_lt (Nat.lt_of_lt_of_le (by have := World.block_lt_of_cell? _ _ hw412_0; first | rwa [add_block] at this | exact this) GW419.out)) | (dsimp only; exact Nat.ne_of_lt (Nat.lt_of_lt_of_le (by have := World.block_lt_of_cell? _ _ hw412_0; first | rwa [add_block] at this | exact this) GW419.out))) _).trans (((cell_far (p := ⟨gb419, _, none⟩) (by first | exact Nat.ne_of_lt (Nat.lt_of_lt_of_le (by have := World.block_lt_of_cell? _ _ hw412_0; first | rwa [add_block] at this | exact this) GW419.out) | (rw [add_block]; exact Nat.ne_of_lt (Nat.lt_of_lt_of_le (by have := World.block_lt_of_cell? _ _ hw412_0; first | rwa [add_block] at this | exact this) GW419.out)) | (show (Addr.add _ _).block ≠ _; rw [add_block]; exact Nat.ne_of_lt (Nat.lt_of_lt_of_le (by have := World.block_lt_of_cell? _ _ hw412_0; first | rwa [add_block] at this | exact this) GW419.out)) | (dsimp only; exact Nat.ne_of_lt (Nat.lt_of_lt_of_le (by have := World.block_lt_of_cell? _ _ hw412_0; first | rwa [add_block] at this | exact this) GW419.out))) _).trans (hHeld.2.2.2))))))⟩ (fun hHeld => ?_)
          clear hK K
          refine pure_ (i := 11) (N := some 14) (v := ?_) (a' := ?_) (TF 12 0) rfl rfl (any_of HT_.out (by kernel_rfl)) (fun _ _ _ h => h) (Or.inl ⟨by rfl, ?_⟩) ?_ ?_
          rotate_left; · intro w'; go_simp; with_reducible rfl
          rotate_left; · simp only [Act.put, sI, sZ, sS, i64_w, i32_w]; rfl
          refine done_ (done_of HT_.out (by kernel_rfl)) ?_
          have hnb50 := NB419_410.out
          have hnc50 := NB410_419.out
          have hnb51 := NB419_411.out
          have hnc51 := NB411_419.out
          have hcz52_0 : w45.cell? ⟨gb419, 0, none⟩ = some (.int .u64 0) := (bC BK419.out 0).trans rfl
          have hcz52_1 : w45.cell? ⟨gb419, 1, none⟩ = some (.slice none 0 0) := (bC BK419.out 1).trans rfl
          have hcz52_2 : w45.cell? ⟨gb419, 2, none⟩ = some (.string (⟨#[]⟩ : ByteArray)) := (bC BK419.out 2).trans rfl
          have hfz52_0 := bF BK419.out 0
          have hfz52_1 := bF BK419.out 1
          have hfz52_2 := bF BK419.out 2
          have hnb53 := NB410_411.out
          have hnc53 := NB411_410.out
          have hcz54_0 : w45.cell? ⟨gb410, 0, none⟩ = some (.int .u64 x411000_2) := (bC BK410.out 0).trans rfl
          have hcz54_1 : w45.cell? ⟨gb410, 1, none⟩ = some (.slice Ao41 x411001_2.length co41) := (bC BK410.out 1).trans rfl
          have hcz54_2 : w45.cell? ⟨gb410, 2, none⟩ = some (.string x411002_2) := (bC BK410.out 2).trans rfl
          have hfz54_0 := bF BK410.out 0
          have hfz54_1 := bF BK410.out 1
          have hfz54_2 := bF BK410.out 2
          try go_wp2
          go_roundg k2
          case measure => have := HJ5.out; have := HK2.out; omega
          case rel => exact ⟨(wrap64 (x12_2 + 1)), (t413), (t414), (t417), (x412000_2), (x412001_2), (x412002_2), (.slice Ao47 t414.length co47), (u412001), (by first | rfl | (simp; done) | (simp [*]; done)), H', ⟨by have := HJ5.out; have := HK2.out; omega⟩, ⟨by apply Kd.N_to; exact Kd.N_mono (Kd.N_far (p := ⟨gb410, 2, none⟩) (Kd.N_far (p := ⟨gb410, 1, none⟩) (Kd.N_far (p := ⟨gb410, 0, none⟩) (Kd.N_far (p := ⟨gb419, 2, none⟩) (Kd.N_far (p := ⟨gb419, 1, none⟩) (Kd.N_far (p := ⟨gb419, 0, none⟩) (Kd.N_mono (Kd.N_mono HO416.out (fun k_ hk => (⟨hk, hk.2.2⟩ : _ ∧ k_ ≠ gb419))) (fun k_ hk => (⟨hk, hk.1.1⟩ : _ ∧ k_ ≠ gb410))) (fun _ hk => hk.1.2) (.int .u64 t413)) (fun _ hk => hk.1.2) (.slice Ao47 t414.length co47)) (fun _ hk => hk.1.2) (.string t417)) (fun _ hk => hk.2) (.int .u64 t413)) (fun _ hk => hk.2) (.slice Ao47 t414.length co47)) (fun _ hk => hk.2) (.string t417)) (fun _ hk => ⟨hk.1.1.1, hk.1.1.2.1⟩)⟩, ⟨by apply Kd.N_to; exact Kd.N_mono (Kd.N_far (p := ⟨gb410, 2, none⟩) (Kd.N_far (p := ⟨gb410, 1, none⟩) (Kd.N_far (p := ⟨gb410, 0, none⟩) (Kd.N_far (p := ⟨gb419, 2, none⟩) (Kd.N_far (p := ⟨gb419, 1, none⟩) (Kd.N_far (p := ⟨gb419, 0, none⟩) (Kd.N_mono (Kd.N_mono HO_412001.out (fun k_ hk => (⟨hk, hk.2.2.2⟩ : _ ∧ k_ ≠ gb419))) (fun k_ hk => (⟨hk, hk.1.2.1⟩ : _ ∧ k_ ≠ gb410))) (fun _ hk => hk.1.2) (.int .u64 t413)) (fun _ hk => hk.1.2) (.slice Ao47 t414.length co47)) (fun _ hk => hk.1.2) (.string t417)) (fun _ hk => hk.2) (.int .u64 t413)) (fun _ hk => hk.2) (.slice Ao47 t414.length co47)) (fun _ hk => hk.2) (.string t417)) (fun _ hk => ⟨hk.1.1.2.1, hk.1.1.2.2.1⟩)⟩, ⟨by refine bT ?_; refine bU (cs := #[.int .u64 t413, .slice Ao47 t414.length co47, .string x411002_2]) ?_ 2 _ rfl; refine bT ?_; refine bU (cs := #[.int .u64 t413, .slice Ao41 x411001_2.length co41, .string x411002_2]) ?_ 1 _ rfl; refine bT ?_; refine bU (cs := #[.int .u64 x411000_2, .slice Ao41 x411001_2.length co41, .string x411002_2]) ?_ 0 _ rfl; refine bT ?_; refine bR ?_ NB410_419.out _; refine bT ?_; refine bR ?_ NB410_419.out _; refine bT ?_; refine bR ?_ NB410_419.out _; refine bT ?_; exact BK410.out⟩, ⟨by refine bT ?_; refine bR ?_ NB411_410.out _; refine bT ?_; refine bR ?_ NB411_410.out _; refine bT ?_; refine bR ?_ NB411_410.out _; refine bT ?_; refine bR ?_ NB411_419.out _; refine bT ?_; refine bR ?_ NB411_419.out _; refine bT ?_; refine bR ?_ NB411_419.out _; refine bT ?_; exact BK411.out⟩, ⟨bA⟩⟩
        ·rw [if_neg c24] at H
         have c24b0 : (t418 == 0) = false := beq_eq_false_iff_ne.mpr c24
         have c24b1 : (t418 != 0) = true := bne_iff_ne.mpr c24
         by_cases c55 : (wrap64 (x12_2 + 1)) = ji13
         ·rw [if_pos c55] at H
          have c55b0 : ((wrap64 (x12_2 + 1)) == ji13) = true := beq_iff_eq.mpr c55
          have c55b1 : ((wrap64 (x12_2 + 1)) != ji13) = false := bne_eq_false_iff_eq.mpr c55
          clear c55
          have H' := Ax.mk H
          clear H
          obtain ⟨Ao56, co56, eo56⟩ := Kd.N_slice HO_411001.out
          subst eo56
          try go_wp2
          have n0_ := Ax.mk (Kd.N_drew HO_411001.out)
          have n1_ := Ax.mk (Kd.N_drew HO_412001.out)
          have n2_ := Ax.mk (blk_drew BK410.out)
          have n3_ := Ax.mk (blk_drew BK411.out)
          have n4_ := Ax.mk (below_drew1 HB.out)
          clear HO_411001
          clear HO_412001
          clear BK410
          clear BK411
          clear HB
          have HO_411001 := n0_
          have HO_412001 := n1_
          have BK410 := n2_
          have BK411 := n3_
          have HB := n4_
          clear n0_ n1_ n2_ n3_ n4_
          have p412 : 0 ≤ (x12_2 : Int) := of_decide_eq_true (by first | (with_reducible assumption) | assumption)
          have q412 : x12_2 < (l1.length : Int) := of_decide_eq_true (by first | (with_reducible assumption) | assumption)
          obtain ⟨ad412, A412_0, c412_0, e412, hx412_0, hl412_0, hi412_0⟩ := at_L4 HR1.out x12_2 p412 q412
          have hw412_0 := hx412_0
          cases e412
          replace hx412_0 := (HB.out.cell (World.block_lt_of_cell? w _ hx412_0)).trans hx412_0
          have HR412_0 := Ax.mk hi412_0
          have HC412_0 := Ax.mk hl412_0
          clear hi412_0 hl412_0
          replace p412 := eq_true p412
          replace q412 := eq_true q412
          refine start_ (n := 12) (S := fun w' => w'.cell? ⟨gb410, 0, none⟩ = some (.int .u64 x411000_2) ∧ w'.cell? ⟨gb410, 1, none⟩ = some (.slice Ao56 x411001_2.length co56) ∧ w'.cell? ⟨gb410, 2, none⟩ = some (.string x411002_2) ∧ w'.cell? (ad412.add (x12_2).toNat) = some (.slice A412_0 (rd_L4 l1 x12_2).length c412_0)) (ds := []) (TF 0 12) (by kernel_rfl) rfl rfl ⟨(bC BK410.out 0).trans rfl, (bC BK410.out 1).trans rfl, (bC BK410.out 2).trans rfl, ((HB.out.cell (World.block_lt_of_cell? w _ hw412_0)).trans hw412_0)⟩ (fun hHeld => ?_); refine with_tabW l13_JournalOnce.tab11 l13_JournalOnce.bits11 (fun HT_ HW_ => ?_)
          generalize wr.drew = w57 at HO_411001 HO_412001 BK410 BK411 HB HR412_0 hx412_0 hHeld ⊢
          refine pure_ (i := 1) (N := some 55) (v := ?_) (a' := ?_) #[false, true, false, false, false, false, false, false, false, false, false, false] rfl rfl (any_of HT_.out (by kernel_rfl)) (fun _ _ _ h => h) (Or.inl ⟨by rfl, ?_⟩) ?_ ?_
          rotate_left; · intro w'; go_simp; with_reducible rfl
          rotate_left; · simp only [Act.put, sI, sZ, sS, i64_w, i32_w]; rfl
          refine pure_ (i := 2) (N := some 56) (v := ?_) (a' := ?_) #[false, true, true, false, false, false, false, false, false, false, false, false] rfl rfl (any_of HT_.out (by kernel_rfl)) (fun _ _ _ h => h) (Or.inl ⟨by rfl, ?_⟩) ?_ ?_
          rotate_left; · intro w'; go_simp; with_reducible rfl
          rotate_left; · simp only [Act.put, sI, sZ, sS, i64_w, i32_w]; rfl
          refine pure_ (i := 3) (N := some 57) (v := ?_) (a' := ?_) #[false, true, true, true, false, false, false, false, false, false, false, false] rfl rfl (any_of HT_.out (by kernel_rfl)) (fun _ _ _ h => h) (Or.inl ⟨by rfl, ?_⟩) ?_ ?_
          rotate_left; · intro w'; go_simp; with_reducible rfl
          rotate_left; · simp only [Act.put, sI, sZ, sS, i64_w, i32_w]; rfl
          refine take_ (i := 0) (N := some 54) (v := ?_) (a' := ?_) (TF 4 8) rfl rfl (take_ofW HT_.out HW_.out (by kernel_rfl)) (fun _ _ _ h => h) (Or.inl ⟨by rfl, ?_⟩) hHeld ?_ ?_
          rotate_left
          ·rintro w' ⟨s0, s1, s2, s3⟩
           go_simp
           with_reducible rfl
          rotate_left
          ·simp only [Act.put, sI, sZ, sS, i64_w, i32_w]
           rfl
          refine take_ (i := 4) (N := some 58) (v := ?_) (a' := ?_) (TF 5 7) rfl rfl (take_ofW HT_.out HW_.out (by kernel_rfl)) (fun _ _ _ h => h) (Or.inl ⟨by rfl, ?_⟩) hHeld ?_ ?_
          rotate_left
          ·rintro w' ⟨s0, s1, s2, s3⟩
           go_simp
           with_reducible rfl
          rotate_left
          ·simp only [Act.put, sI, sZ, sS, i64_w, i32_w]
           rfl
          refine join_ (σ := Value × Nat) 2 (TF 10 2) (fun s_ => [(59, .tuple #[.agg #[.int .u64 t413, s_.1, .string t417], .int .i64 t418]), (13, .pointer (some ⟨s_.2, 0, none⟩)), (53, .tuple #[.agg #[.int .u64 t413, s_.1, .string t417], .int .i64 t418]), (60, .agg #[.int .u64 t413, s_.1, .string t417]), (61, .int .i64 t418)]) (fun s_ w' => (w'.cell? ⟨gb410, 0, none⟩ = some (.int .u64 x411000_2) ∧ w'.cell? ⟨gb410, 1, none⟩ = some (.slice Ao56 x411001_2.length co56) ∧ w'.cell? ⟨gb410, 2, none⟩ = some (.string x411002_2) ∧ w'.cell? (ad412.add (x12_2).toNat) = some (.slice A412_0 (rd_L4 l1 x12_2).length c412_0)) ∧ (Kd.N k44 44 w' w.heap.size (fun k_ => k_ ≠ gb410 ∧ k_ ≠ gb411 ∧ k_ ≠ s_.2) s_.1 t414) ∧ (Kd.N k44 44 w' w.heap.size (fun k_ => some k_ ≠ (s_.1 : Value).ownBlock ∧ k_ ≠ gb410 ∧ k_ ≠ gb411 ∧ k_ ≠ s_.2) (.slice Ao56 x411001_2.length co56) x411001_2) ∧ (Kd.N k44 44 w' w.heap.size (fun k_ => some k_ ≠ (s_.1 : Value).ownBlock ∧ k_ ≠ gb410 ∧ k_ ≠ gb411 ∧ k_ ≠ s_.2) u412001 x412001_2) ∧ (w'.heap[gb410]? = some (.cells #[.int .u64 x411000_2, .slice Ao56 x411001_2.length co56, .string x411002_2] 66 (0, 0))) ∧ (w'.heap[gb411]? = some (.cells #[.int .u64 x412000_2, u412001, .string x412002_2] 66 (0, 0))) ∧ (w'.heap[s_.2]? = some (.cells #[.int .u64 0, .slice none 0 0, .string (⟨#[]⟩ : ByteArray)] 66 (0, 0))) ∧ (w.heap.size ≤ s_.2) ∧ (w.heap.size ≤ s_.2) ∧ (gb410 ≠ s_.2) ∧ (s_.2 ≠ gb410) ∧ (gb411 ≠ s_.2) ∧ (s_.2 ≠ gb411) ∧ (Below w.heap.size w w')) ?_ ?_
          rotate_left
          ·intro hCont
           refine two_ (i := 5) (j := 9) (Ni := some 59) (Nj := some 13) (TF 6 6) #[true, true, true, true, true, false, false, false, false, true, false, false] rfl rfl rfl rfl (two_of HT_.out (by kernel_rfl)) (by decide) (by decide) (fun K hK => ?_) (fun K hK => ?_)
           ·skip
            refine goes_ Tryd.func39 (by kernel_rfl) rfl #[.agg #[.int .u64 x411000_2, .slice Ao56 x411001_2.length co56, .string x411002_2], .slice A412_0 (rd_L4 l1 x12_2).length c412_0] (by rfl) rfl rfl (by (try simp only [List.map_toArray, List.map_cons, List.map_nil]); first | done | rfl | (simp only [List.length_drop, List.length_take]; rfl) | (rw [wrap_sum2 (by assumption)]; rfl)) ?_
            with_reducible refine (journal_Add.calls k2 x411000_2 (fun k_ => (k_ ≠ gb410 ∧ k_ ≠ gb411)) _ _ x411001_2 x411002_2 _ _ (rd_L4 l1 x12_2) t413 t414 t417 t418 _ ?side1 ?side2 ?side3 A23.out (HT.below bA)).mono ?_
            (case side1 => exact Kd.N_V (HO_411001.out))
            (case side2 => repeat (first | exact (Kd.C_below HR412_0.out HB.out) | (with_reducible refine Kd.C_alloc ?_ _) | (with_reducible refine Kd.C_drewN ?_ _) | (with_reducible refine Kd.C_drew ?_)))
            (case side3 => exact HC412_0.out)
            rintro e w58 ⟨v415, rfl, ho0, hb⟩
            refine ⟨_, rfl, ?_⟩
            have n0_ := Ax.mk (Kd.N_elder' (by exact Kd.N_to HO_411001.out) (Kd.N_base ho0) hb)
            have n1_ := Ax.mk (Kd.N_elder' (by exact Kd.N_to HO_412001.out) (Kd.N_base ho0) hb)
            have n2_ := Ax.mk (Kd.N_lower (Kd.N_mono (ok' := fun k_ => k_ ≠ gb410 ∧ k_ ≠ gb411) ho0 (fun k_ hk_ => ⟨Or.elim hk_ (fun hs_ => hs_.1) (fun hn_ => (Kd.freshB (g := gb410) (o := .cells #[.int .u64 x411000_2, .slice Ao56 x411001_2.length co56, .string x411002_2] 66 (0, 0)) (bT BK410.out) k_ hn_)), Or.elim hk_ (fun hs_ => hs_.2) (fun hn_ => (Kd.freshB (g := gb411) (o := .cells #[.int .u64 x412000_2, u412001, .string x412002_2] 66 (0, 0)) (bT BK411.out) k_ hn_))⟩)) (bS bA))
            have n3_ := Ax.mk (bB (bT BK410.out) hb)
            have n4_ := Ax.mk (bB (bT BK411.out) hb)
            have n5_ := Ax.mk (bP bA hb)
            clear HO_411001
            clear HO_412001
            clear BK410
            clear BK411
            clear HB
            have HO_411001 := n0_
            have HO_412001 := n1_
            have HO416 := n2_
            have BK410 := n3_
            have BK411 := n4_
            have HB := n5_
            clear n0_ n1_ n2_ n3_ n4_ n5_
            (try clear hb)
            (try clear hb2)
            (try clear hk)
            (try clear hi)
            (try clear ho0)
            refine hK.out _ _ ⟨(bC BK410.out 0).trans rfl, (bC BK410.out 1).trans rfl, (bC BK410.out 2).trans rfl, ((HB.out.cell (World.block_lt_of_cell? w _ hw412_0)).trans hw412_0)⟩ (fun hHeld => ?_)
            clear hK K
            refine norm_ (a' := ?_) ?_ ?_
            rotate_left
            ·show Act.put _ (some 59) _ = _
             simp only [Act.put, sI, sZ, sS, i64_w, i32_w]
             rfl
            refine pure_ (i := 6) (N := some 53) (v := ?_) (a' := ?_) (TF 7 5) rfl rfl (any_of HT_.out (by kernel_rfl)) (fun _ _ _ h => h) (Or.inl ⟨by rfl, ?_⟩) ?_ ?_
            rotate_left; · intro w'; go_simp; with_reducible rfl
            rotate_left; · simp only [Act.put, sI, sZ, sS, i64_w, i32_w]; rfl
            refine pure_ (i := 7) (N := some 60) (v := ?_) (a' := ?_) (TF 8 4) rfl rfl (any_of HT_.out (by kernel_rfl)) (fun _ _ _ h => h) (Or.inl ⟨by rfl, ?_⟩) ?_ ?_
            rotate_left; · intro w'; go_simp; with_reducible rfl
            rotate_left; · simp only [Act.put, sI, sZ, sS, i64_w, i32_w]; rfl
            refine pure_ (i := 8) (N := some 61) (v := ?_) (a' := ?_) (TF 9 3) rfl rfl (any_of HT_.out (by kernel_rfl)) (fun _ _ _ h => h) (Or.inl ⟨by rfl, ?_⟩) ?_ ?_
            rotate_left; · intro w'; go_simp; with_reducible rfl
            rotate_left; · simp only [Act.put, sI, sZ, sS, i64_w, i32_w]; rfl
            refine one_ (i := 9) (N := some 13) (TF 10 2) rfl rfl (one_of HT_.out (by kernel_rfl)) (by decide) (fun K hK => ?_)
            refine box_step ?hg (N := 13) ?hd (cs := #[.int .u64 0, .slice none 0 0, .string (⟨#[]⟩ : ByteArray)]) (t := 66) ?hr ?_; (case hd => rfl); (case hg => rfl); (case hr => first | (go_simp; done) | (go_simp; rfl))
            intro gb419 hg w59 hbox hb
            have n0_ := Ax.mk (Kd.N_below (Kd.N_elderB (by exact Kd.N_to HO_411001.out) gb419 (Nat.le_of_eq hg.symm)) hb)
            have n1_ := Ax.mk (Kd.N_below (Kd.N_elderB (by exact Kd.N_to HO_412001.out) gb419 (Nat.le_of_eq hg.symm)) hb)
            have n2_ := Ax.mk (Kd.N_below (Kd.N_elderB (by exact Kd.N_to HO416.out) gb419 (Nat.le_of_eq hg.symm)) hb)
            have n3_ := Ax.mk (bB (bT BK410.out) hb)
            have n4_ := Ax.mk (bB (bT BK411.out) hb)
            have n5_ := Ax.mk (bP bA hb)
            have n6_ := Ax.mk (hbox)
            have n7_ := Ax.mk ((ge_new hg : w.heap.size ≤ gb419))
            have n8_ := Ax.mk ((ge_new hg : w.heap.size ≤ gb419))
            have n9_ := Ax.mk ((ne_lt hg BK410.out : gb410 ≠ gb419))
            have n10_ := Ax.mk ((ne_gt hg BK410.out : gb419 ≠ gb410))
            have n11_ := Ax.mk ((ne_lt hg BK411.out : gb411 ≠ gb419))
            have n12_ := Ax.mk ((ne_gt hg BK411.out : gb419 ≠ gb411))
            clear HO_411001
            clear HO_412001
            clear HO416
            clear BK410
            clear BK411
            clear HB
            have HO_411001 := n0_
            have HO_412001 := n1_
            have HO416 := n2_
            have BK410 := n3_
            have BK411 := n4_
            have HB := n5_
            have BK419 := n6_
            have GW419 := n7_
            have GE419 := n8_
            have NB410_419 := n9_
            have NB419_410 := n10_
            have NB411_419 := n11_
            have NB419_411 := n12_
            clear n0_ n1_ n2_ n3_ n4_ n5_ n6_ n7_ n8_ n9_ n10_ n11_ n12_
            clear hb hbox hg
            refine hK.out _ _ ⟨(bC BK410.out 0).trans rfl, (bC BK410.out 1).trans rfl, (bC BK410.out 2).trans rfl, ((HB.out.cell (World.block_lt_of_cell? w _ hw412_0)).trans hw412_0)⟩ (fun hHeld => ?_)
            clear hK K
            refine norm_ (a' := ?_) ?_ ?_
            rotate_left
            ·show Act.put _ (some 13) _ = _
             simp only [Act.put, sI, sZ, sS, i64_w, i32_w]
             rfl
            exact norm_ (by simp only [putAll, Act.put, sI, sZ, sS]) (hCont (v415, gb419) _ ⟨hHeld, (by apply Kd.N_to; exact Kd.N_mono HO416.out (fun _ hk => ⟨hk.1.1, ⟨hk.1.2, hk.2⟩⟩)), (by apply Kd.N_to; exact Kd.N_mono HO_411001.out (fun _ hk => ⟨hk.1.2, ⟨hk.1.1.1, ⟨hk.1.1.2, hk.2⟩⟩⟩)), (by apply Kd.N_to; exact Kd.N_mono HO_412001.out (fun _ hk => ⟨hk.1.2, ⟨hk.1.1.1, ⟨hk.1.1.2, hk.2⟩⟩⟩)), (bT BK410.out), (bT BK411.out), (bT BK419.out), GW419.out, GE419.out, NB410_419.out, NB419_410.out, NB411_419.out, NB419_411.out, bA⟩)
           ·skip
            refine box_step ?hg (N := 13) ?hd (cs := #[.int .u64 0, .slice none 0 0, .string (⟨#[]⟩ : ByteArray)]) (t := 66) ?hr ?_; (case hd => rfl); (case hg => rfl); (case hr => first | (go_simp; done) | (go_simp; rfl))
            intro gb419 hg w58 hbox hb
            have n0_ := Ax.mk (Kd.N_below (Kd.N_elderB (by exact Kd.N_to HO_411001.out) gb419 (Nat.le_of_eq hg.symm)) hb)
            have n1_ := Ax.mk (Kd.N_below (Kd.N_elderB (by exact Kd.N_to HO_412001.out) gb419 (Nat.le_of_eq hg.symm)) hb)
            have n2_ := Ax.mk (bB (bT BK410.out) hb)
            have n3_ := Ax.mk (bB (bT BK411.out) hb)
            have n4_ := Ax.mk (bP bA hb)
            have n5_ := Ax.mk (hbox)
            have n6_ := Ax.mk ((ge_new hg : w.heap.size ≤ gb419))
            have n7_ := Ax.mk ((ge_new hg : w.heap.size ≤ gb419))
            have n8_ := Ax.mk ((ne_lt hg BK410.out : gb410 ≠ gb419))
            have n9_ := Ax.mk ((ne_gt hg BK410.out : gb419 ≠ gb410))
            have n10_ := Ax.mk ((ne_lt hg BK411.out : gb411 ≠ gb419))
            have n11_ := Ax.mk ((ne_gt hg BK411.out : gb419 ≠ gb411))
            clear HO_411001
            clear HO_412001
            clear BK410
            clear BK411
            clear HB
            have HO_411001 := n0_
            have HO_412001 := n1_
            have BK410 := n2_
            have BK411 := n3_
            have HB := n4_
            have BK419 := n5_
            have GW419 := n6_
            have GE419 := n7_
            have NB410_419 := n8_
            have NB419_410 := n9_
            have NB411_419 := n10_
            have NB419_411 := n11_
            clear n0_ n1_ n2_ n3_ n4_ n5_ n6_ n7_ n8_ n9_ n10_ n11_
            clear hb hbox hg
            refine hK.out _ _ ⟨(bC BK410.out 0).trans rfl, (bC BK410.out 1).trans rfl, (bC BK410.out 2).trans rfl, ((HB.out.cell (World.block_lt_of_cell? w _ hw412_0)).trans hw412_0)⟩ (fun hHeld => ?_)
            clear hK K
            refine norm_ (a' := ?_) ?_ ?_
            rotate_left
            ·show Act.put _ (some 13) _ = _
             simp only [Act.put, sI, sZ, sS, i64_w, i32_w]
             rfl
            refine one_ (i := 5) (N := some 59) #[true, true, true, true, true, true, false, false, false, true, false, false] rfl rfl (one_of HT_.out (by kernel_rfl)) (by decide) (fun K hK => ?_)
            refine goes_ Tryd.func39 (by kernel_rfl) rfl #[.agg #[.int .u64 x411000_2, .slice Ao56 x411001_2.length co56, .string x411002_2], .slice A412_0 (rd_L4 l1 x12_2).length c412_0] (by rfl) rfl rfl (by (try simp only [List.map_toArray, List.map_cons, List.map_nil]); first | done | rfl | (simp only [List.length_drop, List.length_take]; rfl) | (rw [wrap_sum2 (by assumption)]; rfl)) ?_
            with_reducible refine (journal_Add.calls k2 x411000_2 (fun k_ => ((k_ ≠ gb410 ∧ k_ ≠ gb411) ∧ k_ ≠ gb419)) _ _ x411001_2 x411002_2 _ _ (rd_L4 l1 x12_2) t413 t414 t417 t418 _ ?side1 ?side2 ?side3 A23.out (HT.below bA)).mono ?_
            (case side1 => exact Kd.N_V (HO_411001.out))
            (case side2 => repeat (first | exact (Kd.C_below HR412_0.out HB.out) | (with_reducible refine Kd.C_alloc ?_ _) | (with_reducible refine Kd.C_drewN ?_ _) | (with_reducible refine Kd.C_drew ?_)))
            (case side3 => exact HC412_0.out)
            rintro e w59 ⟨v415, rfl, ho0, hb⟩
            refine ⟨_, rfl, ?_⟩
            have n0_ := Ax.mk (Kd.N_elder' (by exact Kd.N_to HO_411001.out) (Kd.N_base ho0) hb)
            have n1_ := Ax.mk (Kd.N_elder' (by exact Kd.N_to HO_412001.out) (Kd.N_base ho0) hb)
            have n2_ := Ax.mk (Kd.N_lower (Kd.N_mono (ok' := fun k_ => k_ ≠ gb410 ∧ k_ ≠ gb411 ∧ k_ ≠ gb419) ho0 (fun k_ hk_ => ⟨Or.elim hk_ (fun hs_ => hs_.1.1) (fun hn_ => (Kd.freshB (g := gb410) (o := .cells #[.int .u64 x411000_2, .slice Ao56 x411001_2.length co56, .string x411002_2] 66 (0, 0)) (bT BK410.out) k_ hn_)), Or.elim hk_ (fun hs_ => hs_.1.2) (fun hn_ => (Kd.freshB (g := gb411) (o := .cells #[.int .u64 x412000_2, u412001, .string x412002_2] 66 (0, 0)) (bT BK411.out) k_ hn_)), Or.elim hk_ (fun hs_ => hs_.2) (fun hn_ => (Kd.freshB (g := gb419) (o := .cells #[.int .u64 0, .slice none 0 0, .string (⟨#[]⟩ : ByteArray)] 66 (0, 0)) (bT BK419.out) k_ hn_))⟩)) (bS bA))
            have n3_ := Ax.mk (bB (bT BK410.out) hb)
            have n4_ := Ax.mk (bB (bT BK411.out) hb)
            have n5_ := Ax.mk (bB (bT BK419.out) hb)
            have n6_ := Ax.mk (bP bA hb)
            clear HO_411001
            clear HO_412001
            clear BK410
            clear BK411
            clear BK419
            clear HB
            have HO_411001 := n0_
            have HO_412001 := n1_
            have HO416 := n2_
            have BK410 := n3_
            have BK411 := n4_
            have BK419 := n5_
            have HB := n6_
            clear n0_ n1_ n2_ n3_ n4_ n5_ n6_
            (try clear hb)
            (try clear hb2)
            (try clear hk)
            (try clear hi)
            (try clear ho0)
            refine hK.out _ _ ⟨(bC BK410.out 0).trans rfl, (bC BK410.out 1).trans rfl, (bC BK410.out 2).trans rfl, ((HB.out.cell (World.block_lt_of_cell? w _ hw412_0)).trans hw412_0)⟩ (fun hHeld => ?_)
            clear hK K
            refine norm_ (a' := ?_) ?_ ?_
            rotate_left
            ·show Act.put _ (some 59) _ = _
             simp only [Act.put, sI, sZ, sS, i64_w, i32_w]
             rfl
            refine pure_ (i := 6) (N := some 53) (v := ?_) (a' := ?_) #[true, true, true, true, true, true, true, false, false, true, false, false] rfl rfl (any_of HT_.out (by kernel_rfl)) (fun _ _ _ h => h) (Or.inl ⟨by rfl, ?_⟩) ?_ ?_
            rotate_left; · intro w'; go_simp; with_reducible rfl
            rotate_left; · simp only [Act.put, sI, sZ, sS, i64_w, i32_w]; rfl
            refine pure_ (i := 7) (N := some 60) (v := ?_) (a' := ?_) #[true, true, true, true, true, true, true, true, false, true, false, false] rfl rfl (any_of HT_.out (by kernel_rfl)) (fun _ _ _ h => h) (Or.inl ⟨by rfl, ?_⟩) ?_ ?_
            rotate_left; · intro w'; go_simp; with_reducible rfl
            rotate_left; · simp only [Act.put, sI, sZ, sS, i64_w, i32_w]; rfl
            refine pure_ (i := 8) (N := some 61) (v := ?_) (a' := ?_) (TF 10 2) rfl rfl (any_of HT_.out (by kernel_rfl)) (fun _ _ _ h => h) (Or.inl ⟨by rfl, ?_⟩) ?_ ?_
            rotate_left; · intro w'; go_simp; with_reducible rfl
            rotate_left; · simp only [Act.put, sI, sZ, sS, i64_w, i32_w]; rfl
            exact norm_ (by simp only [putAll, Act.put, sI, sZ, sS]) (hCont (v415, gb419) _ ⟨hHeld, (by exact Kd.N_to HO416.out), (by apply Kd.N_to; exact Kd.N_mono HO_411001.out (fun _ hk => ⟨hk.2, ⟨hk.1.1.1, ⟨hk.1.1.2, hk.1.2⟩⟩⟩)), (by apply Kd.N_to; exact Kd.N_mono HO_412001.out (fun _ hk => ⟨hk.2, ⟨hk.1.1.1, ⟨hk.1.1.2, hk.1.2⟩⟩⟩)), (bT BK410.out), (bT BK411.out), (bT BK419.out), GW419.out, GE419.out, NB410_419.out, NB419_410.out, NB411_419.out, NB419_411.out, bA⟩)
          rintro ⟨v415, gb419⟩ w60 ⟨hS_, h0_, h1_, h2_, h3_, h4_, h5_, h6_, h7_, h8_, h9_, h10_, h11_, h12_⟩
          have n0_ : Ax (Kd.N k44 44 w60 w.heap.size (fun k_ => k_ ≠ gb410 ∧ k_ ≠ gb411 ∧ k_ ≠ gb419) v415 t414) := ⟨h0_⟩
          have n1_ : Ax (Kd.N k44 44 w60 w.heap.size (fun k_ => some k_ ≠ (v415 : Value).ownBlock ∧ k_ ≠ gb410 ∧ k_ ≠ gb411 ∧ k_ ≠ gb419) (.slice Ao56 x411001_2.length co56) x411001_2) := ⟨h1_⟩
          have n2_ : Ax (Kd.N k44 44 w60 w.heap.size (fun k_ => some k_ ≠ (v415 : Value).ownBlock ∧ k_ ≠ gb410 ∧ k_ ≠ gb411 ∧ k_ ≠ gb419) u412001 x412001_2) := ⟨h2_⟩
          have n3_ : Ax (w60.heap[gb410]? = some (.cells #[.int .u64 x411000_2, .slice Ao56 x411001_2.length co56, .string x411002_2] 66 (0, 0))) := ⟨h3_⟩
          have n4_ : Ax (w60.heap[gb411]? = some (.cells #[.int .u64 x412000_2, u412001, .string x412002_2] 66 (0, 0))) := ⟨h4_⟩
          have n5_ : Ax (w60.heap[gb419]? = some (.cells #[.int .u64 0, .slice none 0 0, .string (⟨#[]⟩ : ByteArray)] 66 (0, 0))) := ⟨h5_⟩
          have n6_ : Ax (w.heap.size ≤ gb419) := ⟨h6_⟩
          have n7_ : Ax (w.heap.size ≤ gb419) := ⟨h7_⟩
          have n8_ : Ax (gb410 ≠ gb419) := ⟨h8_⟩
          have n9_ : Ax (gb419 ≠ gb410) := ⟨h9_⟩
          have n10_ : Ax (gb411 ≠ gb419) := ⟨h10_⟩
          have n11_ : Ax (gb419 ≠ gb411) := ⟨h11_⟩
          have n12_ : Ax (Below w.heap.size w w60) := ⟨h12_⟩
          clear HO_411001
          clear HO_412001
          clear BK410
          clear BK411
          clear HB
          clear h0_ h1_ h2_ h3_ h4_ h5_ h6_ h7_ h8_ h9_ h10_ h11_ h12_
          have HO416 := n0_
          have HO_411001 := n1_
          have HO_412001 := n2_
          have BK410 := n3_
          have BK411 := n4_
          have BK419 := n5_
          have GW419 := n6_
          have GE419 := n7_
          have NB410_419 := n8_
          have NB419_410 := n9_
          have NB411_419 := n10_
          have NB419_411 := n11_
          have HB := n12_
          clear n0_ n1_ n2_ n3_ n4_ n5_ n6_ n7_ n8_ n9_ n10_ n11_ n12_
          have hHeld : w60.cell? ⟨gb410, 0, none⟩ = some (.int .u64 x411000_2) ∧ w60.cell? ⟨gb410, 1, none⟩ = some (.slice Ao56 x411001_2.length co56) ∧ w60.cell? ⟨gb410, 2, none⟩ = some (.string x411002_2) ∧ w60.cell? (ad412.add (x12_2).toNat) = some (.slice A412_0 (rd_L4 l1 x12_2).length c412_0) := hS_
          obtain ⟨Ao62, co62, eo62⟩ := Kd.N_slice HO416.out
          (first | subst eo62 | (injection eo62 with f1_ f2_ f3_; have f4_ := f1_.symm; have f5_ := f3_.symm; clear f1_ f2_ f3_; subst f4_; subst f5_))
          refine norm_ (a' := ?_) ?_ ?_
          rotate_left
          ·simp only [putAll, Act.put, sI, sZ, sS]
           rfl
          refine one_ (i := 10) (N := none) (TF 11 1) rfl rfl (one_of HT_.out (by kernel_rfl)) (by decide) (fun K hK => ?_)
          have hs61 : w60.cell? ⟨gb419, 0, none⟩ = some (.int .u64 0) := (bC BK419.out 0).trans rfl
          have hfs61 := bF BK419.out 0
          have hns61_0 := NB410_419.out
          have hns61_1 := NB411_419.out
          have hms61_0 := NB419_410.out
          have hms61_1 := NB419_411.out
          have hs63 : w60.cell? ⟨gb419, 1, none⟩ = some (.slice none 0 0) := (bC BK419.out 1).trans rfl
          have hfs63 := bF BK419.out 1
          have hns63_0 := NB410_419.out
          have hns63_1 := NB411_419.out
          have hms63_0 := NB419_410.out
          have hms63_1 := NB419_411.out
          have hs64 : w60.cell? ⟨gb419, 2, none⟩ = some (.string (⟨#[]⟩ : ByteArray)) := (bC BK419.out 2).trans rfl
          have hfs64 := bF BK419.out 2
          have hns64_0 := NB410_419.out
          have hns64_1 := NB411_419.out
          have hms64_0 := NB419_410.out
          have hms64_1 := NB419_411.out
          refine skip_ (w1 := ?_) (by rfl) rfl ?_ ?_
          rotate_left
          ·go_simp
           rfl
          refine hK.out _ _ ⟨((cell_far (p := ⟨gb419, _, none⟩) NB410_419.out _).trans (((cell_far (p := ⟨gb419, _, none⟩) NB410_419.out _).trans (((cell_far (p := ⟨gb419, _, none⟩) NB410_419.out _).trans (hHeld.1)))))), ((cell_far (p := ⟨gb419, _, none⟩) NB410_419.out _).trans (((cell_far (p := ⟨gb419, _, none⟩) NB410_419.out _).trans (((cell_far (p := ⟨gb419, _, none⟩) NB410_419.out _).trans (hHeld.2.1)))))), ((cell_far (p := ⟨gb419, _, none⟩) NB410_419.out _).trans (((cell_far (p := ⟨gb419, _, none⟩) NB410_419.out _).trans (((cell_far (p := ⟨gb419, _, none⟩) NB410_419.out _).trans (hHeld.2.2.1)))))), ((cell_far (p := ⟨gb419, _, none⟩) (by first | exact Nat.ne_of_lt (Nat.lt_of_lt_of_le (by have := World.block_lt_of_cell? _ _ hw412_0; first | rwa [add_block] at this | exact this) GW419.out) | (rw [add_block]; exact Nat.ne_of_lt (Nat.lt_of_lt_of_le (by have := World.block_lt_of_cell? _ _ hw412_0; first | rwa [add_block] at this | exact this) GW419.out)) | (show (Addr.add _ _).block ≠ _; rw [add_block]; exact Nat.ne_of_lt (Nat.lt_of_lt_of_le (by have := World.block_lt_of_cell? _ _ hw412_0; first | rwa [add_block] at this | exact this) GW419.out)) | (dsimp only; exact Nat.ne_of_lt (Nat.lt_of_lt_of_le (by have := World.block_lt_of_cell? _ _ hw412_0; first | rwa [add_block] at this | exact this) GW419.out))) _).trans (((cell_far (p := ⟨gb419, _, none⟩) (by first | exact Nat.ne_of_lt (Nat.lt_of_lt_of_le (by have := World.block_lt_of_cell? _ _ hw412_0; first | rwa [add_block] at this | exact this) GW419.out) | (rw [add_block]; exact Nat.ne_of_lt (Nat.lt_of_lt_of_le (by have := World.block_lt_of_cell? _ _ hw412_0; first | rwa [add_block] at this | exact this) GW419.out)) | (show (Addr.add _ _).block ≠ _; rw [add_block]; exact Nat.ne_of_lt (Nat.lt_of_lt_of_le (by have := World.block_lt_of_cell? _ _ hw412_0; first | rwa [add_block] at this | exact this) GW419.out)) | (dsimp only; exact Nat.ne_of_lt (Nat.lt_of_lt_of_le (by have := World.block_lt_of_cell? _ _ hw412_0; first | rwa [add_block] at this | exact this) GW419.out))) _).trans (((cell_far (p := ⟨gb419, _, none⟩) (by first | exact Nat.ne_of_lt (Nat.lt_of_lt_of_le (by have := World.block_lt_of_cell? _ _ hw412_0; first | rwa [add_block] at this | exact this) GW419.out) | (rw [add_block]; exact Nat.ne_of_lt (Nat.lt_of_lt_of_le (by have := World.block_lt_of_cell? _ _ hw412_0; first | rwa [add_block] at this | exact this) GW419.out)) | (show (Addr.add _ _).block ≠ _; rw [add_block]; exact Nat.ne_of_lt (Nat.lt_of_lt_of_le (by have := World.block_lt_of_cell? _ _ hw412_0; first | rwa [add_block] at this | exact this) GW419.out)) | (dsimp only; exact Nat.ne_of_lt (Nat.lt_of_lt_of_le (by have := World.block_lt_of_cell? _ _ hw412_0; first | rwa [add_block] at this | exact this) GW419.out))) _).trans (hHeld.2.2.2))))))⟩ (fun hHeld => ?_)
          clear hK K
          refine pure_ (i := 11) (N := some 14) (v := ?_) (a' := ?_) (TF 12 0) rfl rfl (any_of HT_.out (by kernel_rfl)) (fun _ _ _ h => h) (Or.inl ⟨by rfl, ?_⟩) ?_ ?_
          rotate_left; · intro w'; go_simp; with_reducible rfl
          rotate_left; · simp only [Act.put, sI, sZ, sS, i64_w, i32_w]; rfl
          refine done_ (done_of HT_.out (by kernel_rfl)) ?_
          have hnb65 := NB410_411.out
          have hnc65 := NB411_410.out
          have hnb66 := NB410_419.out
          have hnc66 := NB419_410.out
          have hcz67_0 : w60.cell? ⟨gb410, 0, none⟩ = some (.int .u64 x411000_2) := (bC BK410.out 0).trans rfl
          have hcz67_1 : w60.cell? ⟨gb410, 1, none⟩ = some (.slice Ao56 x411001_2.length co56) := (bC BK410.out 1).trans rfl
          have hcz67_2 : w60.cell? ⟨gb410, 2, none⟩ = some (.string x411002_2) := (bC BK410.out 2).trans rfl
          have hfz67_0 := bF BK410.out 0
          have hfz67_1 := bF BK410.out 1
          have hfz67_2 := bF BK410.out 2
          have hnb68 := NB411_419.out
          have hnc68 := NB419_411.out
          have hcz69_0 : w60.cell? ⟨gb411, 0, none⟩ = some (.int .u64 x412000_2) := (bC BK411.out 0).trans rfl
          have hcz69_1 : w60.cell? ⟨gb411, 1, none⟩ = some (u412001) := (bC BK411.out 1).trans rfl
          have hcz69_2 : w60.cell? ⟨gb411, 2, none⟩ = some (.string x412002_2) := (bC BK411.out 2).trans rfl
          have hfz69_0 := bF BK411.out 0
          have hfz69_1 := bF BK411.out 1
          have hfz69_2 := bF BK411.out 2
          try go_wp2
          go_roundg k2
          case measure => have := HJ5.out; have := HK2.out; omega
          case rel => exact ⟨(wrap64 (x12_2 + 1)), (x411000_2), (x411001_2), (x411002_2), (x411000_2), (x411001_2), (x411002_2), (.slice Ao56 x411001_2.length co56), (.slice Ao56 x411001_2.length co56), (by first | rfl | (simp; done) | (simp [*]; done)), H', ⟨by have := HJ5.out; have := HK2.out; omega⟩, ⟨by apply Kd.N_to; exact Kd.N_mono (Kd.N_far (p := ⟨gb411, 2, none⟩) (Kd.N_far (p := ⟨gb411, 1, none⟩) (Kd.N_far (p := ⟨gb411, 0, none⟩) (Kd.N_far (p := ⟨gb419, 2, none⟩) (Kd.N_far (p := ⟨gb419, 1, none⟩) (Kd.N_far (p := ⟨gb419, 0, none⟩) (Kd.N_mono (Kd.N_mono HO_411001.out (fun k_ hk => (⟨hk, hk.2.2.2⟩ : _ ∧ k_ ≠ gb419))) (fun k_ hk => (⟨hk, hk.1.2.2.1⟩ : _ ∧ k_ ≠ gb411))) (fun _ hk => hk.1.2) (.int .u64 t413)) (fun _ hk => hk.1.2) (.slice Ao62 t414.length co62)) (fun _ hk => hk.1.2) (.string t417)) (fun _ hk => hk.2) (.int .u64 x411000_2)) (fun _ hk => hk.2) (.slice Ao56 x411001_2.length co56)) (fun _ hk => hk.2) (.string x411002_2)) (fun _ hk => ⟨hk.1.1.2.1, hk.1.1.2.2.1⟩)⟩, ⟨by apply Kd.N_to; exact Kd.N_mono (Kd.N_far (p := ⟨gb411, 2, none⟩) (Kd.N_far (p := ⟨gb411, 1, none⟩) (Kd.N_far (p := ⟨gb411, 0, none⟩) (Kd.N_far (p := ⟨gb419, 2, none⟩) (Kd.N_far (p := ⟨gb419, 1, none⟩) (Kd.N_far (p := ⟨gb419, 0, none⟩) (Kd.N_mono (Kd.N_mono HO_411001.out (fun k_ hk => (⟨hk, hk.2.2.2⟩ : _ ∧ k_ ≠ gb419))) (fun k_ hk => (⟨hk, hk.1.2.2.1⟩ : _ ∧ k_ ≠ gb411))) (fun _ hk => hk.1.2) (.int .u64 t413)) (fun _ hk => hk.1.2) (.slice Ao62 t414.length co62)) (fun _ hk => hk.1.2) (.string t417)) (fun _ hk => hk.2) (.int .u64 x411000_2)) (fun _ hk => hk.2) (.slice Ao56 x411001_2.length co56)) (fun _ hk => hk.2) (.string x411002_2)) (fun _ hk => ⟨hk.1.1.2.1, hk.1.1.2.2.1⟩)⟩, ⟨by refine bT ?_; refine bR ?_ NB410_411.out _; refine bT ?_; refine bR ?_ NB410_411.out _; refine bT ?_; refine bR ?_ NB410_411.out _; refine bT ?_; refine bR ?_ NB410_419.out _; refine bT ?_; refine bR ?_ NB410_419.out _; refine bT ?_; refine bR ?_ NB410_419.out _; refine bT ?_; exact BK410.out⟩, ⟨by refine bT ?_; refine bU (cs := #[.int .u64 x411000_2, .slice Ao56 x411001_2.length co56, .string x412002_2]) ?_ 2 _ rfl; refine bT ?_; refine bU (cs := #[.int .u64 x411000_2, u412001, .string x412002_2]) ?_ 1 _ rfl; refine bT ?_; refine bU (cs := #[.int .u64 x412000_2, u412001, .string x412002_2]) ?_ 0 _ rfl; refine bT ?_; refine bR ?_ NB411_419.out _; refine bT ?_; refine bR ?_ NB411_419.out _; refine bT ?_; refine bR ?_ NB411_419.out _; refine bT ?_; exact BK411.out⟩, ⟨bA⟩⟩
         ·rw [if_neg c55] at H
          have c55b0 : ((wrap64 (x12_2 + 1)) == ji13) = false := beq_eq_false_iff_ne.mpr c55
          have c55b1 : ((wrap64 (x12_2 + 1)) != ji13) = true := bne_iff_ne.mpr c55
          have H' := Ax.mk H
          clear H
          obtain ⟨Ao70, co70, eo70⟩ := Kd.N_slice HO_411001.out
          subst eo70
          try go_wp2
          have n0_ := Ax.mk (Kd.N_drew HO_411001.out)
          have n1_ := Ax.mk (Kd.N_drew HO_412001.out)
          have n2_ := Ax.mk (blk_drew BK410.out)
          have n3_ := Ax.mk (blk_drew BK411.out)
          have n4_ := Ax.mk (below_drew1 HB.out)
          clear HO_411001
          clear HO_412001
          clear BK410
          clear BK411
          clear HB
          have HO_411001 := n0_
          have HO_412001 := n1_
          have BK410 := n2_
          have BK411 := n3_
          have HB := n4_
          clear n0_ n1_ n2_ n3_ n4_
          have p412 : 0 ≤ (x12_2 : Int) := of_decide_eq_true (by first | (with_reducible assumption) | assumption)
          have q412 : x12_2 < (l1.length : Int) := of_decide_eq_true (by first | (with_reducible assumption) | assumption)
          obtain ⟨ad412, A412_0, c412_0, e412, hx412_0, hl412_0, hi412_0⟩ := at_L4 HR1.out x12_2 p412 q412
          have hw412_0 := hx412_0
          cases e412
          replace hx412_0 := (HB.out.cell (World.block_lt_of_cell? w _ hx412_0)).trans hx412_0
          have HR412_0 := Ax.mk hi412_0
          have HC412_0 := Ax.mk hl412_0
          clear hi412_0 hl412_0
          replace p412 := eq_true p412
          replace q412 := eq_true q412
          refine start_ (n := 12) (S := fun w' => w'.cell? ⟨gb410, 0, none⟩ = some (.int .u64 x411000_2) ∧ w'.cell? ⟨gb410, 1, none⟩ = some (.slice Ao70 x411001_2.length co70) ∧ w'.cell? ⟨gb410, 2, none⟩ = some (.string x411002_2) ∧ w'.cell? (ad412.add (x12_2).toNat) = some (.slice A412_0 (rd_L4 l1 x12_2).length c412_0)) (ds := []) (TF 0 12) (by kernel_rfl) rfl rfl ⟨(bC BK410.out 0).trans rfl, (bC BK410.out 1).trans rfl, (bC BK410.out 2).trans rfl, ((HB.out.cell (World.block_lt_of_cell? w _ hw412_0)).trans hw412_0)⟩ (fun hHeld => ?_); refine with_tabW l13_JournalOnce.tab11 l13_JournalOnce.bits11 (fun HT_ HW_ => ?_)
          generalize wr.drew = w71 at HO_411001 HO_412001 BK410 BK411 HB HR412_0 hx412_0 hHeld ⊢
          refine pure_ (i := 1) (N := some 55) (v := ?_) (a' := ?_) #[false, true, false, false, false, false, false, false, false, false, false, false] rfl rfl (any_of HT_.out (by kernel_rfl)) (fun _ _ _ h => h) (Or.inl ⟨by rfl, ?_⟩) ?_ ?_
          rotate_left; · intro w'; go_simp; with_reducible rfl
          rotate_left; · simp only [Act.put, sI, sZ, sS, i64_w, i32_w]; rfl
          refine pure_ (i := 2) (N := some 56) (v := ?_) (a' := ?_) #[false, true, true, false, false, false, false, false, false, false, false, false] rfl rfl (any_of HT_.out (by kernel_rfl)) (fun _ _ _ h => h) (Or.inl ⟨by rfl, ?_⟩) ?_ ?_
          rotate_left; · intro w'; go_simp; with_reducible rfl
          rotate_left; · simp only [Act.put, sI, sZ, sS, i64_w, i32_w]; rfl
          refine pure_ (i := 3) (N := some 57) (v := ?_) (a' := ?_) #[false, true, true, true, false, false, false, false, false, false, false, false] rfl rfl (any_of HT_.out (by kernel_rfl)) (fun _ _ _ h => h) (Or.inl ⟨by rfl, ?_⟩) ?_ ?_
          rotate_left; · intro w'; go_simp; with_reducible rfl
          rotate_left; · simp only [Act.put, sI, sZ, sS, i64_w, i32_w]; rfl
          refine take_ (i := 0) (N := some 54) (v := ?_) (a' := ?_) (TF 4 8) rfl rfl (take_ofW HT_.out HW_.out (by kernel_rfl)) (fun _ _ _ h => h) (Or.inl ⟨by rfl, ?_⟩) hHeld ?_ ?_
          rotate_left
          ·rintro w' ⟨s0, s1, s2, s3⟩
           go_simp
           with_reducible rfl
          rotate_left
          ·simp only [Act.put, sI, sZ, sS, i64_w, i32_w]
           rfl
          refine take_ (i := 4) (N := some 58) (v := ?_) (a' := ?_) (TF 5 7) rfl rfl (take_ofW HT_.out HW_.out (by kernel_rfl)) (fun _ _ _ h => h) (Or.inl ⟨by rfl, ?_⟩) hHeld ?_ ?_
          rotate_left
          ·rintro w' ⟨s0, s1, s2, s3⟩
           go_simp
           with_reducible rfl
          rotate_left
          ·simp only [Act.put, sI, sZ, sS, i64_w, i32_w]
           rfl
          refine join_ (σ := Value × Nat) 2 (TF 10 2) (fun s_ => [(59, .tuple #[.agg #[.int .u64 t413, s_.1, .string t417], .int .i64 t418]), (13, .pointer (some ⟨s_.2, 0, none⟩)), (53, .tuple #[.agg #[.int .u64 t413, s_.1, .string t417], .int .i64 t418]), (60, .agg #[.int .u64 t413, s_.1, .string t417]), (61, .int .i64 t418)]) (fun s_ w' => (w'.cell? ⟨gb410, 0, none⟩ = some (.int .u64 x411000_2) ∧ w'.cell? ⟨gb410, 1, none⟩ = some (.slice Ao70 x411001_2.length co70) ∧ w'.cell? ⟨gb410, 2, none⟩ = some (.string x411002_2) ∧ w'.cell? (ad412.add (x12_2).toNat) = some (.slice A412_0 (rd_L4 l1 x12_2).length c412_0)) ∧ (Kd.N k44 44 w' w.heap.size (fun k_ => k_ ≠ gb410 ∧ k_ ≠ gb411 ∧ k_ ≠ s_.2) s_.1 t414) ∧ (Kd.N k44 44 w' w.heap.size (fun k_ => some k_ ≠ (s_.1 : Value).ownBlock ∧ k_ ≠ gb410 ∧ k_ ≠ gb411 ∧ k_ ≠ s_.2) (.slice Ao70 x411001_2.length co70) x411001_2) ∧ (Kd.N k44 44 w' w.heap.size (fun k_ => some k_ ≠ (s_.1 : Value).ownBlock ∧ k_ ≠ gb410 ∧ k_ ≠ gb411 ∧ k_ ≠ s_.2) u412001 x412001_2) ∧ (w'.heap[gb410]? = some (.cells #[.int .u64 x411000_2, .slice Ao70 x411001_2.length co70, .string x411002_2] 66 (0, 0))) ∧ (w'.heap[gb411]? = some (.cells #[.int .u64 x412000_2, u412001, .string x412002_2] 66 (0, 0))) ∧ (w'.heap[s_.2]? = some (.cells #[.int .u64 0, .slice none 0 0, .string (⟨#[]⟩ : ByteArray)] 66 (0, 0))) ∧ (w.heap.size ≤ s_.2) ∧ (w.heap.size ≤ s_.2) ∧ (gb410 ≠ s_.2) ∧ (s_.2 ≠ gb410) ∧ (gb411 ≠ s_.2) ∧ (s_.2 ≠ gb411) ∧ (Below w.heap.size w w')) ?_ ?_
          rotate_left
          ·intro hCont
           refine two_ (i := 5) (j := 9) (Ni := some 59) (Nj := some 13) (TF 6 6) #[true, true, true, true, true, false, false, false, false, true, false, false] rfl rfl rfl rfl (two_of HT_.out (by kernel_rfl)) (by decide) (by decide) (fun K hK => ?_) (fun K hK => ?_)
           ·skip
            refine goes_ Tryd.func39 (by kernel_rfl) rfl #[.agg #[.int .u64 x411000_2, .slice Ao70 x411001_2.length co70, .string x411002_2], .slice A412_0 (rd_L4 l1 x12_2).length c412_0] (by rfl) rfl rfl (by (try simp only [List.map_toArray, List.map_cons, List.map_nil]); first | done | rfl | (simp only [List.length_drop, List.length_take]; rfl) | (rw [wrap_sum2 (by assumption)]; rfl)) ?_
            with_reducible refine (journal_Add.calls k2 x411000_2 (fun k_ => (k_ ≠ gb410 ∧ k_ ≠ gb411)) _ _ x411001_2 x411002_2 _ _ (rd_L4 l1 x12_2) t413 t414 t417 t418 _ ?side1 ?side2 ?side3 A23.out (HT.below bA)).mono ?_
            (case side1 => exact Kd.N_V (HO_411001.out))
            (case side2 => repeat (first | exact (Kd.C_below HR412_0.out HB.out) | (with_reducible refine Kd.C_alloc ?_ _) | (with_reducible refine Kd.C_drewN ?_ _) | (with_reducible refine Kd.C_drew ?_)))
            (case side3 => exact HC412_0.out)
            rintro e w72 ⟨v415, rfl, ho0, hb⟩
            refine ⟨_, rfl, ?_⟩
            have n0_ := Ax.mk (Kd.N_elder' (by exact Kd.N_to HO_411001.out) (Kd.N_base ho0) hb)
            have n1_ := Ax.mk (Kd.N_elder' (by exact Kd.N_to HO_412001.out) (Kd.N_base ho0) hb)
            have n2_ := Ax.mk (Kd.N_lower (Kd.N_mono (ok' := fun k_ => k_ ≠ gb410 ∧ k_ ≠ gb411) ho0 (fun k_ hk_ => ⟨Or.elim hk_ (fun hs_ => hs_.1) (fun hn_ => (Kd.freshB (g := gb410) (o := .cells #[.int .u64 x411000_2, .slice Ao70 x411001_2.length co70, .string x411002_2] 66 (0, 0)) (bT BK410.out) k_ hn_)), Or.elim hk_ (fun hs_ => hs_.2) (fun hn_ => (Kd.freshB (g := gb411) (o := .cells #[.int .u64 x412000_2, u412001, .string x412002_2] 66 (0, 0)) (bT BK411.out) k_ hn_))⟩)) (bS bA))
            have n3_ := Ax.mk (bB (bT BK410.out) hb)
            have n4_ := Ax.mk (bB (bT BK411.out) hb)
            have n5_ := Ax.mk (bP bA hb)
            clear HO_411001
            clear HO_412001
            clear BK410
            clear BK411
            clear HB
            have HO_411001 := n0_
            have HO_412001 := n1_
            have HO416 := n2_
            have BK410 := n3_
            have BK411 := n4_
            have HB := n5_
            clear n0_ n1_ n2_ n3_ n4_ n5_
            (try clear hb)
            (try clear hb2)
            (try clear hk)
            (try clear hi)
            (try clear ho0)
            refine hK.out _ _ ⟨(bC BK410.out 0).trans rfl, (bC BK410.out 1).trans rfl, (bC BK410.out 2).trans rfl, ((HB.out.cell (World.block_lt_of_cell? w _ hw412_0)).trans hw412_0)⟩ (fun hHeld => ?_)
            clear hK K
            refine norm_ (a' := ?_) ?_ ?_
            rotate_left
            ·show Act.put _ (some 59) _ = _
             simp only [Act.put, sI, sZ, sS, i64_w, i32_w]
             rfl
            refine pure_ (i := 6) (N := some 53) (v := ?_) (a' := ?_) (TF 7 5) rfl rfl (any_of HT_.out (by kernel_rfl)) (fun _ _ _ h => h) (Or.inl ⟨by rfl, ?_⟩) ?_ ?_
            rotate_left; · intro w'; go_simp; with_reducible rfl
            rotate_left; · simp only [Act.put, sI, sZ, sS, i64_w, i32_w]; rfl
            refine pure_ (i := 7) (N := some 60) (v := ?_) (a' := ?_) (TF 8 4) rfl rfl (any_of HT_.out (by kernel_rfl)) (fun _ _ _ h => h) (Or.inl ⟨by rfl, ?_⟩) ?_ ?_
            rotate_left; · intro w'; go_simp; with_reducible rfl
            rotate_left; · simp only [Act.put, sI, sZ, sS, i64_w, i32_w]; rfl
            refine pure_ (i := 8) (N := some 61) (v := ?_) (a' := ?_) (TF 9 3) rfl rfl (any_of HT_.out (by kernel_rfl)) (fun _ _ _ h => h) (Or.inl ⟨by rfl, ?_⟩) ?_ ?_
            rotate_left; · intro w'; go_simp; with_reducible rfl
            rotate_left; · simp only [Act.put, sI, sZ, sS, i64_w, i32_w]; rfl
            refine one_ (i := 9) (N := some 13) (TF 10 2) rfl rfl (one_of HT_.out (by kernel_rfl)) (by decide) (fun K hK => ?_)
            refine box_step ?hg (N := 13) ?hd (cs := #[.int .u64 0, .slice none 0 0, .string (⟨#[]⟩ : ByteArray)]) (t := 66) ?hr ?_; (case hd => rfl); (case hg => rfl); (case hr => first | (go_simp; done) | (go_simp; rfl))
            intro gb419 hg w73 hbox hb
            have n0_ := Ax.mk (Kd.N_below (Kd.N_elderB (by exact Kd.N_to HO_411001.out) gb419 (Nat.le_of_eq hg.symm)) hb)
            have n1_ := Ax.mk (Kd.N_below (Kd.N_elderB (by exact Kd.N_to HO_412001.out) gb419 (Nat.le_of_eq hg.symm)) hb)
            have n2_ := Ax.mk (Kd.N_below (Kd.N_elderB (by exact Kd.N_to HO416.out) gb419 (Nat.le_of_eq hg.symm)) hb)
            have n3_ := Ax.mk (bB (bT BK410.out) hb)
            have n4_ := Ax.mk (bB (bT BK411.out) hb)
            have n5_ := Ax.mk (bP bA hb)
            have n6_ := Ax.mk (hbox)
            have n7_ := Ax.mk ((ge_new hg : w.heap.size ≤ gb419))
            have n8_ := Ax.mk ((ge_new hg : w.heap.size ≤ gb419))
            have n9_ := Ax.mk ((ne_lt hg BK410.out : gb410 ≠ gb419))
            have n10_ := Ax.mk ((ne_gt hg BK410.out : gb419 ≠ gb410))
            have n11_ := Ax.mk ((ne_lt hg BK411.out : gb411 ≠ gb419))
            have n12_ := Ax.mk ((ne_gt hg BK411.out : gb419 ≠ gb411))
            clear HO_411001
            clear HO_412001
            clear HO416
            clear BK410
            clear BK411
            clear HB
            have HO_411001 := n0_
            have HO_412001 := n1_
            have HO416 := n2_
            have BK410 := n3_
            have BK411 := n4_
            have HB := n5_
            have BK419 := n6_
            have GW419 := n7_
            have GE419 := n8_
            have NB410_419 := n9_
            have NB419_410 := n10_
            have NB411_419 := n11_
            have NB419_411 := n12_
            clear n0_ n1_ n2_ n3_ n4_ n5_ n6_ n7_ n8_ n9_ n10_ n11_ n12_
            clear hb hbox hg
            refine hK.out _ _ ⟨(bC BK410.out 0).trans rfl, (bC BK410.out 1).trans rfl, (bC BK410.out 2).trans rfl, ((HB.out.cell (World.block_lt_of_cell? w _ hw412_0)).trans hw412_0)⟩ (fun hHeld => ?_)
            clear hK K
            refine norm_ (a' := ?_) ?_ ?_
            rotate_left
            ·show Act.put _ (some 13) _ = _
             simp only [Act.put, sI, sZ, sS, i64_w, i32_w]
             rfl
            exact norm_ (by simp only [putAll, Act.put, sI, sZ, sS]) (hCont (v415, gb419) _ ⟨hHeld, (by apply Kd.N_to; exact Kd.N_mono HO416.out (fun _ hk => ⟨hk.1.1, ⟨hk.1.2, hk.2⟩⟩)), (by apply Kd.N_to; exact Kd.N_mono HO_411001.out (fun _ hk => ⟨hk.1.2, ⟨hk.1.1.1, ⟨hk.1.1.2, hk.2⟩⟩⟩)), (by apply Kd.N_to; exact Kd.N_mono HO_412001.out (fun _ hk => ⟨hk.1.2, ⟨hk.1.1.1, ⟨hk.1.1.2, hk.2⟩⟩⟩)), (bT BK410.out), (bT BK411.out), (bT BK419.out), GW419.out, GE419.out, NB410_419.out, NB419_410.out, NB411_419.out, NB419_411.out, bA⟩)
           ·skip
            refine box_step ?hg (N := 13) ?hd (cs := #[.int .u64 0, .slice none 0 0, .string (⟨#[]⟩ : ByteArray)]) (t := 66) ?hr ?_; (case hd => rfl); (case hg => rfl); (case hr => first | (go_simp; done) | (go_simp; rfl))
            intro gb419 hg w72 hbox hb
            have n0_ := Ax.mk (Kd.N_below (Kd.N_elderB (by exact Kd.N_to HO_411001.out) gb419 (Nat.le_of_eq hg.symm)) hb)
            have n1_ := Ax.mk (Kd.N_below (Kd.N_elderB (by exact Kd.N_to HO_412001.out) gb419 (Nat.le_of_eq hg.symm)) hb)
            have n2_ := Ax.mk (bB (bT BK410.out) hb)
            have n3_ := Ax.mk (bB (bT BK411.out) hb)
            have n4_ := Ax.mk (bP bA hb)
            have n5_ := Ax.mk (hbox)
            have n6_ := Ax.mk ((ge_new hg : w.heap.size ≤ gb419))
            have n7_ := Ax.mk ((ge_new hg : w.heap.size ≤ gb419))
            have n8_ := Ax.mk ((ne_lt hg BK410.out : gb410 ≠ gb419))
            have n9_ := Ax.mk ((ne_gt hg BK410.out : gb419 ≠ gb410))
            have n10_ := Ax.mk ((ne_lt hg BK411.out : gb411 ≠ gb419))
            have n11_ := Ax.mk ((ne_gt hg BK411.out : gb419 ≠ gb411))
            clear HO_411001
            clear HO_412001
            clear BK410
            clear BK411
            clear HB
            have HO_411001 := n0_
            have HO_412001 := n1_
            have BK410 := n2_
            have BK411 := n3_
            have HB := n4_
            have BK419 := n5_
            have GW419 := n6_
            have GE419 := n7_
            have NB410_419 := n8_
            have NB419_410 := n9_
            have NB411_419 := n10_
            have NB419_411 := n11_
            clear n0_ n1_ n2_ n3_ n4_ n5_ n6_ n7_ n8_ n9_ n10_ n11_
            clear hb hbox hg
            refine hK.out _ _ ⟨(bC BK410.out 0).trans rfl, (bC BK410.out 1).trans rfl, (bC BK410.out 2).trans rfl, ((HB.out.cell (World.block_lt_of_cell? w _ hw412_0)).trans hw412_0)⟩ (fun hHeld => ?_)
            clear hK K
            refine norm_ (a' := ?_) ?_ ?_
            rotate_left
            ·show Act.put _ (some 13) _ = _
             simp only [Act.put, sI, sZ, sS, i64_w, i32_w]
             rfl
            refine one_ (i := 5) (N := some 59) #[true, true, true, true, true, true, false, false, false, true, false, false] rfl rfl (one_of HT_.out (by kernel_rfl)) (by decide) (fun K hK => ?_)
            refine goes_ Tryd.func39 (by kernel_rfl) rfl #[.agg #[.int .u64 x411000_2, .slice Ao70 x411001_2.length co70, .string x411002_2], .slice A412_0 (rd_L4 l1 x12_2).length c412_0] (by rfl) rfl rfl (by (try simp only [List.map_toArray, List.map_cons, List.map_nil]); first | done | rfl | (simp only [List.length_drop, List.length_take]; rfl) | (rw [wrap_sum2 (by assumption)]; rfl)) ?_
            with_reducible refine (journal_Add.calls k2 x411000_2 (fun k_ => ((k_ ≠ gb410 ∧ k_ ≠ gb411) ∧ k_ ≠ gb419)) _ _ x411001_2 x411002_2 _ _ (rd_L4 l1 x12_2) t413 t414 t417 t418 _ ?side1 ?side2 ?side3 A23.out (HT.below bA)).mono ?_
            (case side1 => exact Kd.N_V (HO_411001.out))
            (case side2 => repeat (first | exact (Kd.C_below HR412_0.out HB.out) | (with_reducible refine Kd.C_alloc ?_ _) | (with_reducible refine Kd.C_drewN ?_ _) | (with_reducible refine Kd.C_drew ?_)))
            (case side3 => exact HC412_0.out)
            rintro e w73 ⟨v415, rfl, ho0, hb⟩
            refine ⟨_, rfl, ?_⟩
            have n0_ := Ax.mk (Kd.N_elder' (by exact Kd.N_to HO_411001.out) (Kd.N_base ho0) hb)
            have n1_ := Ax.mk (Kd.N_elder' (by exact Kd.N_to HO_412001.out) (Kd.N_base ho0) hb)
            have n2_ := Ax.mk (Kd.N_lower (Kd.N_mono (ok' := fun k_ => k_ ≠ gb410 ∧ k_ ≠ gb411 ∧ k_ ≠ gb419) ho0 (fun k_ hk_ => ⟨Or.elim hk_ (fun hs_ => hs_.1.1) (fun hn_ => (Kd.freshB (g := gb410) (o := .cells #[.int .u64 x411000_2, .slice Ao70 x411001_2.length co70, .string x411002_2] 66 (0, 0)) (bT BK410.out) k_ hn_)), Or.elim hk_ (fun hs_ => hs_.1.2) (fun hn_ => (Kd.freshB (g := gb411) (o := .cells #[.int .u64 x412000_2, u412001, .string x412002_2] 66 (0, 0)) (bT BK411.out) k_ hn_)), Or.elim hk_ (fun hs_ => hs_.2) (fun hn_ => (Kd.freshB (g := gb419) (o := .cells #[.int .u64 0, .slice none 0 0, .string (⟨#[]⟩ : ByteArray)] 66 (0, 0)) (bT BK419.out) k_ hn_))⟩)) (bS bA))
            have n3_ := Ax.mk (bB (bT BK410.out) hb)
            have n4_ := Ax.mk (bB (bT BK411.out) hb)
            have n5_ := Ax.mk (bB (bT BK419.out) hb)
            have n6_ := Ax.mk (bP bA hb)
            clear HO_411001
            clear HO_412001
            clear BK410
            clear BK411
            clear BK419
            clear HB
            have HO_411001 := n0_
            have HO_412001 := n1_
            have HO416 := n2_
            have BK410 := n3_
            have BK411 := n4_
            have BK419 := n5_
            have HB := n6_
            clear n0_ n1_ n2_ n3_ n4_ n5_ n6_
            (try clear hb)
            (try clear hb2)
            (try clear hk)
            (try clear hi)
            (try clear ho0)
            refine hK.out _ _ ⟨(bC BK410.out 0).trans rfl, (bC BK410.out 1).trans rfl, (bC BK410.out 2).trans rfl, ((HB.out.cell (World.block_lt_of_cell? w _ hw412_0)).trans hw412_0)⟩ (fun hHeld => ?_)
            clear hK K
            refine norm_ (a' := ?_) ?_ ?_
            rotate_left
            ·show Act.put _ (some 59) _ = _
             simp only [Act.put, sI, sZ, sS, i64_w, i32_w]
             rfl
            refine pure_ (i := 6) (N := some 53) (v := ?_) (a' := ?_) #[true, true, true, true, true, true, true, false, false, true, false, false] rfl rfl (any_of HT_.out (by kernel_rfl)) (fun _ _ _ h => h) (Or.inl ⟨by rfl, ?_⟩) ?_ ?_
            rotate_left; · intro w'; go_simp; with_reducible rfl
            rotate_left; · simp only [Act.put, sI, sZ, sS, i64_w, i32_w]; rfl
            refine pure_ (i := 7) (N := some 60) (v := ?_) (a' := ?_) #[true, true, true, true, true, true, true, true, false, true, false, false] rfl rfl (any_of HT_.out (by kernel_rfl)) (fun _ _ _ h => h) (Or.inl ⟨by rfl, ?_⟩) ?_ ?_
            rotate_left; · intro w'; go_simp; with_reducible rfl
            rotate_left; · simp only [Act.put, sI, sZ, sS, i64_w, i32_w]; rfl
            refine pure_ (i := 8) (N := some 61) (v := ?_) (a' := ?_) (TF 10 2) rfl rfl (any_of HT_.out (by kernel_rfl)) (fun _ _ _ h => h) (Or.inl ⟨by rfl, ?_⟩) ?_ ?_
            rotate_left; · intro w'; go_simp; with_reducible rfl
            rotate_left; · simp only [Act.put, sI, sZ, sS, i64_w, i32_w]; rfl
            exact norm_ (by simp only [putAll, Act.put, sI, sZ, sS]) (hCont (v415, gb419) _ ⟨hHeld, (by exact Kd.N_to HO416.out), (by apply Kd.N_to; exact Kd.N_mono HO_411001.out (fun _ hk => ⟨hk.2, ⟨hk.1.1.1, ⟨hk.1.1.2, hk.1.2⟩⟩⟩)), (by apply Kd.N_to; exact Kd.N_mono HO_412001.out (fun _ hk => ⟨hk.2, ⟨hk.1.1.1, ⟨hk.1.1.2, hk.1.2⟩⟩⟩)), (bT BK410.out), (bT BK411.out), (bT BK419.out), GW419.out, GE419.out, NB410_419.out, NB419_410.out, NB411_419.out, NB419_411.out, bA⟩)
          rintro ⟨v415, gb419⟩ w74 ⟨hS_, h0_, h1_, h2_, h3_, h4_, h5_, h6_, h7_, h8_, h9_, h10_, h11_, h12_⟩
          have n0_ : Ax (Kd.N k44 44 w74 w.heap.size (fun k_ => k_ ≠ gb410 ∧ k_ ≠ gb411 ∧ k_ ≠ gb419) v415 t414) := ⟨h0_⟩
          have n1_ : Ax (Kd.N k44 44 w74 w.heap.size (fun k_ => some k_ ≠ (v415 : Value).ownBlock ∧ k_ ≠ gb410 ∧ k_ ≠ gb411 ∧ k_ ≠ gb419) (.slice Ao70 x411001_2.length co70) x411001_2) := ⟨h1_⟩
          have n2_ : Ax (Kd.N k44 44 w74 w.heap.size (fun k_ => some k_ ≠ (v415 : Value).ownBlock ∧ k_ ≠ gb410 ∧ k_ ≠ gb411 ∧ k_ ≠ gb419) u412001 x412001_2) := ⟨h2_⟩
          have n3_ : Ax (w74.heap[gb410]? = some (.cells #[.int .u64 x411000_2, .slice Ao70 x411001_2.length co70, .string x411002_2] 66 (0, 0))) := ⟨h3_⟩
          have n4_ : Ax (w74.heap[gb411]? = some (.cells #[.int .u64 x412000_2, u412001, .string x412002_2] 66 (0, 0))) := ⟨h4_⟩
          have n5_ : Ax (w74.heap[gb419]? = some (.cells #[.int .u64 0, .slice none 0 0, .string (⟨#[]⟩ : ByteArray)] 66 (0, 0))) := ⟨h5_⟩
          have n6_ : Ax (w.heap.size ≤ gb419) := ⟨h6_⟩
          have n7_ : Ax (w.heap.size ≤ gb419) := ⟨h7_⟩
          have n8_ : Ax (gb410 ≠ gb419) := ⟨h8_⟩
          have n9_ : Ax (gb419 ≠ gb410) := ⟨h9_⟩
          have n10_ : Ax (gb411 ≠ gb419) := ⟨h10_⟩
          have n11_ : Ax (gb419 ≠ gb411) := ⟨h11_⟩
          have n12_ : Ax (Below w.heap.size w w74) := ⟨h12_⟩
          clear HO_411001
          clear HO_412001
          clear BK410
          clear BK411
          clear HB
          clear h0_ h1_ h2_ h3_ h4_ h5_ h6_ h7_ h8_ h9_ h10_ h11_ h12_
          have HO416 := n0_
          have HO_411001 := n1_
          have HO_412001 := n2_
          have BK410 := n3_
          have BK411 := n4_
          have BK419 := n5_
          have GW419 := n6_
          have GE419 := n7_
          have NB410_419 := n8_
          have NB419_410 := n9_
          have NB411_419 := n10_
          have NB419_411 := n11_
          have HB := n12_
          clear n0_ n1_ n2_ n3_ n4_ n5_ n6_ n7_ n8_ n9_ n10_ n11_ n12_
          have hHeld : w74.cell? ⟨gb410, 0, none⟩ = some (.int .u64 x411000_2) ∧ w74.cell? ⟨gb410, 1, none⟩ = some (.slice Ao70 x411001_2.length co70) ∧ w74.cell? ⟨gb410, 2, none⟩ = some (.string x411002_2) ∧ w74.cell? (ad412.add (x12_2).toNat) = some (.slice A412_0 (rd_L4 l1 x12_2).length c412_0) := hS_
          obtain ⟨Ao76, co76, eo76⟩ := Kd.N_slice HO416.out
          (first | subst eo76 | (injection eo76 with f1_ f2_ f3_; have f4_ := f1_.symm; have f5_ := f3_.symm; clear f1_ f2_ f3_; subst f4_; subst f5_))
          refine norm_ (a' := ?_) ?_ ?_
          rotate_left
          ·simp only [putAll, Act.put, sI, sZ, sS]
           rfl
          refine one_ (i := 10) (N := none) (TF 11 1) rfl rfl (one_of HT_.out (by kernel_rfl)) (by decide) (fun K hK => ?_)
          have hs75 : w74.cell? ⟨gb419, 0, none⟩ = some (.int .u64 0) := (bC BK419.out 0).trans rfl
          have hfs75 := bF BK419.out 0
          have hns75_0 := NB410_419.out
          have hns75_1 := NB411_419.out
          have hms75_0 := NB419_410.out
          have hms75_1 := NB419_411.out
          have hs77 : w74.cell? ⟨gb419, 1, none⟩ = some (.slice none 0 0) := (bC BK419.out 1).trans rfl
          have hfs77 := bF BK419.out 1
          have hns77_0 := NB410_419.out
          have hns77_1 := NB411_419.out
          have hms77_0 := NB419_410.out
          have hms77_1 := NB419_411.out
          have hs78 : w74.cell? ⟨gb419, 2, none⟩ = some (.string (⟨#[]⟩ : ByteArray)) := (bC BK419.out 2).trans rfl
          have hfs78 := bF BK419.out 2
          have hns78_0 := NB410_419.out
          have hns78_1 := NB411_419.out
          have hms78_0 := NB419_410.out
          have hms78_1 := NB419_411.out
          refine skip_ (w1 := ?_) (by rfl) rfl ?_ ?_
          rotate_left
          ·go_simp
           rfl
          refine hK.out _ _ ⟨((cell_far (p := ⟨gb419, _, none⟩) NB410_419.out _).trans (((cell_far (p := ⟨gb419, _, none⟩) NB410_419.out _).trans (((cell_far (p := ⟨gb419, _, none⟩) NB410_419.out _).trans (hHeld.1)))))), ((cell_far (p := ⟨gb419, _, none⟩) NB410_419.out _).trans (((cell_far (p := ⟨gb419, _, none⟩) NB410_419.out _).trans (((cell_far (p := ⟨gb419, _, none⟩) NB410_419.out _).trans (hHeld.2.1)))))), ((cell_far (p := ⟨gb419, _, none⟩) NB410_419.out _).trans (((cell_far (p := ⟨gb419, _, none⟩) NB410_419.out _).trans (((cell_far (p := ⟨gb419, _, none⟩) NB410_419.out _).trans (hHeld.2.2.1)))))), ((cell_far (p := ⟨gb419, _, none⟩) (by first | exact Nat.ne_of_lt (Nat.lt_of_lt_of_le (by have := World.block_lt_of_cell? _ _ hw412_0; first | rwa [add_block] at this | exact this) GW419.out) | (rw [add_block]; exact Nat.ne_of_lt (Nat.lt_of_lt_of_le (by have := World.block_lt_of_cell? _ _ hw412_0; first | rwa [add_block] at this | exact this) GW419.out)) | (show (Addr.add _ _).block ≠ _; rw [add_block]; exact Nat.ne_of_lt (Nat.lt_of_lt_of_le (by have := World.block_lt_of_cell? _ _ hw412_0; first | rwa [add_block] at this | exact this) GW419.out)) | (dsimp only; exact Nat.ne_of_lt (Nat.lt_of_lt_of_le (by have := World.block_lt_of_cell? _ _ hw412_0; first | rwa [add_block] at this | exact this) GW419.out))) _).trans (((cell_far (p := ⟨gb419, _, none⟩) (by first | exact Nat.ne_of_lt (Nat.lt_of_lt_of_le (by have := World.block_lt_of_cell? _ _ hw412_0; first | rwa [add_block] at this | exact this) GW419.out) | (rw [add_block]; exact Nat.ne_of_lt (Nat.lt_of_lt_of_le (by have := World.block_lt_of_cell? _ _ hw412_0; first | rwa [add_block] at this | exact this) GW419.out)) | (show (Addr.add _ _).block ≠ _; rw [add_block]; exact Nat.ne_of_lt (Nat.lt_of_lt_of_le (by have := World.block_lt_of_cell? _ _ hw412_0; first | rwa [add_block] at this | exact this) GW419.out)) | (dsimp only; exact Nat.ne_of_lt (Nat.lt_of_lt_of_le (by have := World.block_lt_of_cell? _ _ hw412_0; first | rwa [add_block] at this | exact this) GW419.out))) _).trans (((cell_far (p := ⟨gb419, _, none⟩) (by first | exact Nat.ne_of_lt (Nat.lt_of_lt_of_le (by have := World.block_lt_of_cell? _ _ hw412_0; first | rwa [add_block] at this | exact this) GW419.out) | (rw [add_block]; exact Nat.ne_of_lt (Nat.lt_of_lt_of_le (by have := World.block_lt_of_cell? _ _ hw412_0; first | rwa [add_block] at this | exact this) GW419.out)) | (show (Addr.add _ _).block ≠ _; rw [add_block]; exact Nat.ne_of_lt (Nat.lt_of_lt_of_le (by have := World.block_lt_of_cell? _ _ hw412_0; first | rwa [add_block] at this | exact this) GW419.out)) | (dsimp only; exact Nat.ne_of_lt (Nat.lt_of_lt_of_le (by have := World.block_lt_of_cell? _ _ hw412_0; first | rwa [add_block] at this | exact this) GW419.out))) _).trans (hHeld.2.2.2))))))⟩ (fun hHeld => ?_)
          clear hK K
          refine pure_ (i := 11) (N := some 14) (v := ?_) (a' := ?_) (TF 12 0) rfl rfl (any_of HT_.out (by kernel_rfl)) (fun _ _ _ h => h) (Or.inl ⟨by rfl, ?_⟩) ?_ ?_
          rotate_left; · intro w'; go_simp; with_reducible rfl
          rotate_left; · simp only [Act.put, sI, sZ, sS, i64_w, i32_w]; rfl
          refine done_ (done_of HT_.out (by kernel_rfl)) ?_
          try go_wp2
          go_roundg k2
          case measure => have := HJ5.out; have := HK2.out; omega
          case rel => exact ⟨(wrap64 (x12_2 + 1)), (x411000_2), (x411001_2), (x411002_2), (x412000_2), (x412001_2), (x412002_2), (.slice Ao70 x411001_2.length co70), (u412001), (by first | rfl | (simp; done) | (simp [*]; done)), H', ⟨by have := HJ5.out; have := HK2.out; omega⟩, ⟨by apply Kd.N_to; exact Kd.N_mono (Kd.N_far (p := ⟨gb419, 2, none⟩) (Kd.N_far (p := ⟨gb419, 1, none⟩) (Kd.N_far (p := ⟨gb419, 0, none⟩) (Kd.N_mono HO_411001.out (fun k_ hk => (⟨hk, hk.2.2.2⟩ : _ ∧ k_ ≠ gb419))) (fun _ hk => hk.2) (.int .u64 t413)) (fun _ hk => hk.2) (.slice Ao76 t414.length co76)) (fun _ hk => hk.2) (.string t417)) (fun _ hk => ⟨hk.1.2.1, hk.1.2.2.1⟩)⟩, ⟨by apply Kd.N_to; exact Kd.N_mono (Kd.N_far (p := ⟨gb419, 2, none⟩) (Kd.N_far (p := ⟨gb419, 1, none⟩) (Kd.N_far (p := ⟨gb419, 0, none⟩) (Kd.N_mono HO_412001.out (fun k_ hk => (⟨hk, hk.2.2.2⟩ : _ ∧ k_ ≠ gb419))) (fun _ hk => hk.2) (.int .u64 t413)) (fun _ hk => hk.2) (.slice Ao76 t414.length co76)) (fun _ hk => hk.2) (.string t417)) (fun _ hk => ⟨hk.1.2.1, hk.1.2.2.1⟩)⟩, ⟨by refine bT ?_; refine bR ?_ NB410_419.out _; refine bT ?_; refine bR ?_ NB410_419.out _; refine bT ?_; refine bR ?_ NB410_419.out _; refine bT ?_; exact BK410.out⟩, ⟨by refine bT ?_; refine bR ?_ NB411_419.out _; refine bT ?_; refine bR ?_ NB411_419.out _; refine bT ?_; refine bR ?_ NB411_419.out _; refine bT ?_; exact BK411.out⟩, ⟨bA⟩⟩
       ·rw [if_neg c22] at H
        exact absurd H (by simp)
      ·rw [if_neg c21] at H
       have c21b0 : decide (x12_2 < (l1.length : Int)) = false := decide_eq_false c21
       clear c21
       replace H := Option.bind_eq_some_iff.mp H
       obtain ⟨⟨t420, t423, t424⟩, A790, H⟩ := H
       replace H : ((journal_After.f k2 x411000_2 x411001_2 x411002_2 0).bind fun t425 => (if a0 = 0 then ((some (([] : List (S24)) : List (S24))).bind fun y428 => (if y428.length + t425.length < 2932031007402 then (l13_JournalOnce.j2 k2 a0 t420 t423 t424 (y428 ++ t425) x411000_2 x411001_2 x411002_2) else (none))) else (l13_JournalOnce.j2 k2 a0 t420 t423 t424 t425 x411000_2 x411001_2 x411002_2))) = some r := H
       have A79 := Ax.mk A790
       clear A790
       replace H := Option.bind_eq_some_iff.mp H
       obtain ⟨t425, A800, H⟩ := H
       replace H : (if a0 = 0 then ((some (([] : List (S24)) : List (S24))).bind fun y428 => (if y428.length + t425.length < 2932031007402 then (l13_JournalOnce.j2 k2 a0 t420 t423 t424 (y428 ++ t425) x411000_2 x411001_2 x411002_2) else (none))) else (l13_JournalOnce.j2 k2 a0 t420 t423 t424 t425 x411000_2 x411001_2 x411002_2)) = some r := H
       have A80 := Ax.mk A800
       clear A800
       have HC81 := Ax.mk H
       clear H
       have hnb82 := NB411_410.out
       have hnc82 := NB410_411.out
       have hcz83_0 : wr.cell? ⟨gb411, 0, none⟩ = some (.int .u64 x412000_2) := (bC BK411.out 0).trans rfl
       have hcz83_1 : wr.cell? ⟨gb411, 1, none⟩ = some (u412001) := (bC BK411.out 1).trans rfl
       have hcz83_2 : wr.cell? ⟨gb411, 2, none⟩ = some (.string x412002_2) := (bC BK411.out 2).trans rfl
       have hfz83_0 := bF BK411.out 0
       have hfz83_1 := bF BK411.out 1
       have hfz83_2 := bF BK411.out 2
       have hcz84_0 : wr.cell? ⟨gb410, 0, none⟩ = some (.int .u64 x411000_2) := (bC BK410.out 0).trans rfl
       have hcz84_1 : wr.cell? ⟨gb410, 1, none⟩ = some (u411001) := (bC BK410.out 1).trans rfl
       have hcz84_2 : wr.cell? ⟨gb410, 2, none⟩ = some (.string x411002_2) := (bC BK410.out 2).trans rfl
       have hfz84_0 := bF BK410.out 0
       have hfz84_1 := bF BK410.out 1
       have hfz84_2 := bF BK410.out 2
       obtain ⟨Ao85, co85, eo85⟩ := Kd.N_slice HO_412001.out
       subst eo85
       obtain ⟨Ao86, co86, eo86⟩ := Kd.N_slice HO_411001.out
       subst eo86
       go_upto_if 80 with (first | ((with_reducible refine gate_callee (f := 42) rfl ?_); refine goesL_ (some 73) rfl rfl Tryd.func42 (by kernel_rfl) rfl #[.agg #[.int .u64 x412000_2, .slice Ao85 x412001_2.length co85, .string x412002_2], .agg #[.int .u64 x411000_2, .slice Ao86 x411001_2.length co86, .string x411002_2]] rfl (by (try simp only [List.map_toArray, List.map_cons, List.map_nil]); first | done | rfl | (simp only [List.length_drop, List.length_take]; rfl) | (rw [wrap_sum2 (by assumption)]; rfl)) ?_; (with_reducible refine (journal_Join.calls k2 x412000_2 _ _ x412001_2 x412002_2 x411000_2 _ _ x411001_2 x411002_2 t420 t423 t424 _ ?side1 ?side2 ?side3 ?side4 A79.out).mono ?_); (case side1 => repeat (first | exact (Kd.N_reads' HO_412001.out).2.2 | (with_reducible refine Kd.C_alloc ?_ _) | (with_reducible refine Kd.C_drewN ?_ _) | (with_reducible refine Kd.C_drew ?_))); (case side2 => exact (Kd.N_reads' HO_412001.out).2.1); (case side3 => repeat (first | exact (Kd.N_reads' HO_411001.out).2.2 | (with_reducible refine Kd.C_alloc ?_ _) | (with_reducible refine Kd.C_drewN ?_ _) | (with_reducible refine Kd.C_drew ?_))); (case side4 => exact (Kd.N_reads' HO_411001.out).2.1); rintro e w87 ⟨v421, rfl, ho0, hb⟩; refine ⟨_, rfl, ?_⟩; have n0_ := Ax.mk (Kd.N_elder' (by exact Kd.N_to HO_411001.out) (Kd.R_base ho0) hb); have n1_ := Ax.mk (Kd.N_elder' (by exact Kd.N_to HO_412001.out) (Kd.R_base ho0) hb); have n2_ := Ax.mk (Kd.R_lower ho0 (bS bA)); have n3_ := Ax.mk (bB (bT BK410.out) hb); have n4_ := Ax.mk (bB (bT BK411.out) hb); have n5_ := Ax.mk (bP bA hb); clear HO_411001; clear HO_412001; clear BK410; clear BK411; clear HB; have HO_411001 := n0_; have HO_412001 := n1_; have HO422 := n2_; have BK410 := n3_; have BK411 := n4_; have HB := n5_; clear n0_ n1_ n2_ n3_ n4_ n5_; (try clear hb); (try clear hb2); (try clear hk); (try clear hi); (try clear ho0); have hcz88_0 : w87.cell? ⟨gb410, 0, none⟩ = some (.int .u64 x411000_2) := (bC BK410.out 0).trans rfl; have hcz88_1 : w87.cell? ⟨gb410, 1, none⟩ = some (.slice Ao86 x411001_2.length co86) := (bC BK410.out 1).trans rfl; have hcz88_2 : w87.cell? ⟨gb410, 2, none⟩ = some (.string x411002_2) := (bC BK410.out 2).trans rfl; have hfz88_0 := bF BK410.out 0; have hfz88_1 := bF BK410.out 1; have hfz88_2 := bF BK410.out 2) | ((with_reducible refine gate_callee (f := 36) rfl ?_); refine goesL_ (some 78) rfl rfl Tryd.func36 (by kernel_rfl) rfl #[.agg #[.int .u64 x411000_2, .slice Ao86 x411001_2.length co86, .string x411002_2], .int .u64 0] rfl (by (try simp only [List.map_toArray, List.map_cons, List.map_nil]); first | done | rfl | (simp only [List.length_drop, List.length_take]; rfl) | (rw [wrap_sum2 (by assumption)]; rfl)) ?_; (with_reducible refine (journal_After.calls k2 x411000_2 _ _ x411001_2 x411002_2 0 t425 _ ?side1 ?side2 A80.out).mono ?_); (case side1 => repeat (first | exact (Kd.N_reads' HO_411001.out).2.2 | (with_reducible refine Kd.C_alloc ?_ _) | (with_reducible refine Kd.C_drewN ?_ _) | (with_reducible refine Kd.C_drew ?_))); (case side2 => exact (Kd.N_reads' HO_411001.out).2.1); rintro e w89 ⟨v426, rfl, ho0, hb⟩; refine ⟨_, rfl, ?_⟩; have n0_ := Ax.mk (Kd.N_elder' (by exact Kd.N_to HO_411001.out) (Kd.R_base ho0) hb); have n1_ := Ax.mk (Kd.N_elder' (by exact Kd.N_to HO_412001.out) (Kd.R_base ho0) hb); have n2_ := Ax.mk (Kd.R_elder' (by exact Kd.R_to HO422.out) (Kd.R_base ho0) hb); have n3_ := Ax.mk (Kd.R_lower (Kd.R_new' ho0 (Kd.R_lt (by exact Kd.R_to HO422.out))) (bS bA)); have n4_ := Ax.mk (bB (bT BK410.out) hb); have n5_ := Ax.mk (bB (bT BK411.out) hb); have n6_ := Ax.mk (bP bA hb); clear HO_411001; clear HO_412001; clear HO422; clear BK410; clear BK411; clear HB; have HO_411001 := n0_; have HO_412001 := n1_; have HO422 := n2_; have HO427 := n3_; have BK410 := n4_; have BK411 := n5_; have HB := n6_; clear n0_ n1_ n2_ n3_ n4_ n5_ n6_; (try clear hb); (try clear hb2); (try clear hk); (try clear hi); (try clear ho0)))
       (try simp only [Act.put, sI, sZ, sS])
       go_cut [18] (fun v18 wc => ∃ (kq : Nat) (x18_80 : List (S24)), Ax (l13_JournalOnce.j2 kq a0 t420 t423 t424 x18_80 x411000_2 x411001_2 x411002_2 = some r) ∧ Ax (kq ≤ k2) ∧ Ax (Kd.R k24 24 wc w.heap.size (fun k_ => some k_ ≠ (v18 : Value).ownBlock) v421 t420) ∧ Ax (Kd.R k24 24 wc w.heap.size (fun k_ => some k_ ≠ (v421 : Value).ownBlock) v18 x18_80) ∧ Ax (Kd.N k44 44 wc w.heap.size (fun k_ => some k_ ≠ (v421 : Value).ownBlock ∧ some k_ ≠ (v18 : Value).ownBlock ∧ k_ ≠ gb410 ∧ k_ ≠ gb411) (.slice Ao86 x411001_2.length co86) x411001_2) ∧ Ax (Kd.N k44 44 wc w.heap.size (fun k_ => some k_ ≠ (v421 : Value).ownBlock ∧ some k_ ≠ (v18 : Value).ownBlock ∧ k_ ≠ gb410 ∧ k_ ≠ gb411) (.slice Ao85 x412001_2.length co85) x412001_2) ∧ Ax (wc.heap[gb410]? = some (.cells #[.int .u64 x411000_2, (.slice Ao86 x411001_2.length co86), .string x411002_2] 66 (0, 0))) ∧ Ax (wc.heap[gb411]? = some (.cells #[.int .u64 x412000_2, (.slice Ao85 x412001_2.length co85), .string x412002_2] 66 (0, 0))) ∧ Ax (Below w.heap.size w wc))
       case first =>
        have H := HC81.out
        clear HC81
        by_cases c90 : a0 = 0
        ·rw [if_pos c90] at H
         have c90b0 : (a0 == 0) = true := beq_iff_eq.mpr c90
         have c90b1 : (a0 != 0) = false := bne_eq_false_iff_eq.mpr c90
         clear c90
         (first | rw [c90b0] | (simp only [i64_w, i32_w]; rw [c90b0]) | skip)
         obtain ⟨y428, hy428⟩ : ∃ y_ : List (S24), y_ = (([] : List (S24))) := ⟨_, rfl⟩
         replace H : (if y428.length + t425.length < 2932031007402 then (l13_JournalOnce.j2 k2 a0 t420 t423 t424 (y428 ++ t425) x411000_2 x411001_2 x411002_2) else (none)) = some r := by first | (rw [hy428]; with_reducible exact H) | (have H2_ := (Option.bind_some _ _).symm.trans H; rw [hy428]; with_reducible exact H2_) | (have H2_ := (Option.bind_some _ _).symm.trans H; with_reducible exact H2_) | with_reducible exact H | (rw [hy428]; exact H) | exact H
         have Ny428 := Ax.mk hy428
         clear hy428
         by_cases c91 : y428.length + t425.length < 2932031007402
         ·rw [if_pos c91] at H
          have LMc91 := Ax.mk c91
          clear c91
          obtain ⟨y431, hy431⟩ : ∃ y_ : List (S24), y_ = (y428 ++ t425) := ⟨_, rfl⟩
          replace H : (l13_JournalOnce.j2 k2 a0 t420 t423 t424 y431 x411000_2 x411001_2 x411002_2) = some r := by first | (rw [hy431]; with_reducible exact H) | (have H2_ := (Option.bind_some _ _).symm.trans H; rw [hy431]; with_reducible exact H2_) | (have H2_ := (Option.bind_some _ _).symm.trans H; with_reducible exact H2_) | with_reducible exact H | (rw [hy431]; exact H) | exact H
          have Ny431 := Ax.mk hy431
          clear hy431
          have H' := Ax.mk H
          clear H
          go_wp2_with (first | ((with_reducible refine gate_dst (N := 81) rfl ?_); refine Kd.R_lit k24 _ 24 ?hg (N := 81) ?hd (xs := ([] : List (S24))) (inner := []) (ok := fun _ => True) (okp := fun _ => True) ?hr ?hp (fun _ hk => hk) trivial (Below.refl _ _) (Nat.le_refl _) (by simp) ?_; (case hd => rfl); (case hg => rfl); (case hr => first | (go_simp; done) | (go_simp; rfl)); (case hp => exact (Reps.none _ _)); intro v429 w92 ho93 hb hg_ hnew_; clear hg_ hnew_; (first | rw [← Ny428.out] at ho93 | (simp only [Int.reduceToNat] at ho93; rw [← Ny428.out] at ho93)); have n0_ := Ax.mk (Kd.N_elder' (by exact Kd.N_to HO_411001.out) (Kd.R_base ho93) hb); have n1_ := Ax.mk (Kd.N_elder' (by exact Kd.N_to HO_412001.out) (Kd.R_base ho93) hb); have n2_ := Ax.mk (Kd.R_elder' (by exact Kd.R_to HO422.out) (Kd.R_base ho93) hb); have n3_ := Ax.mk (Kd.R_elder' (by exact Kd.R_to HO427.out) (Kd.R_base ho93) hb); have n4_ := Ax.mk (Kd.R_lower (Kd.R_new' (Kd.R_new' ho93 (Kd.R_lt (by exact Kd.R_to HO422.out))) (Kd.R_lt (by exact Kd.R_to HO427.out))) (bS bA)); have n5_ := Ax.mk (bB (bT BK410.out) hb); have n6_ := Ax.mk (bB (bT BK411.out) hb); have n7_ := Ax.mk (bP bA hb); clear HO_411001; clear HO_412001; clear HO422; clear HO427; clear BK410; clear BK411; clear HB; have HO_411001 := n0_; have HO_412001 := n1_; have HO422 := n2_; have HO427 := n3_; have HO430 := n4_; have BK410 := n5_; have BK411 := n6_; have HB := n7_; clear n0_ n1_ n2_ n3_ n4_ n5_ n6_ n7_; clear hb ho93; obtain ⟨Ao95, co95, eo95⟩ := Kd.R_slice HO427.out; subst eo95) | ((with_reducible refine gate_builtin (b := .append) (xs := #[.tmp 81, .tmp 82]) rfl ?_); at_builtin; refine Kd.R_append_rows k24 (w0 := w) w.heap.size rfl (.tmp 81) (.tmp 82) 29 24 (.agg #[(.int .i64 0), (.int .i64 0), (.int .i64 0), (.int .u64 0), (.string ⟨#[]⟩)]) 48 rfl Tryd.underlying29 info24 rfl (by decide) (by omega) v429 y428 t425 _ _ _ (fun k_ => some k_ ≠ (v421 : Value).ownBlock ∧ some k_ ≠ (.slice Ao95 t425.length co95 : Value).ownBlock) (fun _ => False) rfl rfl ?aO ?aR (fun _ _ h => h) (fun _ h => h.elim) ?aF ?aB ?aS ?aL ?_; (case aR => repeat (first | exact (Kd.R_reads' HO427.out).2.2 | (with_reducible refine Kd.C_alloc ?_ _) | (with_reducible refine Kd.C_drewN ?_ _) | (with_reducible refine Kd.C_drew ?_))); (case aB => exact bA); (case aF => exact (fun k_ hk => ⟨Kd.fresh' (Kd.R_lt (by exact Kd.R_to HO422.out)) k_ hk, Kd.fresh' (Kd.R_lt (by exact Kd.R_to HO427.out)) k_ hk⟩)); (case aO => exact (by apply Kd.R_to; exact Kd.R_mono HO430.out (fun _ hk => ⟨hk.1.2, hk.2⟩))); (case aS => exact (bS bA)); (case aL => have := LMc91.out; omega); intro v432 w94 ho hb hg hat; rw [← Ny431.out] at ho; have n0_ := Ax.mk (Kd.N_afterv (ok := (fun k_ => some k_ ≠ (v421 : Value).ownBlock ∧ some k_ ≠ (.slice Ao95 t425.length co95 : Value).ownBlock ∧ k_ ≠ gb410 ∧ k_ ≠ gb411)) (by apply Kd.N_to; exact Kd.N_mono HO_411001.out (fun _ hk => ⟨⟨hk.1.1.2, ⟨hk.1.2, ⟨hk.1.1.1.1, hk.1.1.1.2⟩⟩⟩, hk.2⟩)) hg hat); have n1_ := Ax.mk (Kd.N_afterv (ok := (fun k_ => some k_ ≠ (v421 : Value).ownBlock ∧ some k_ ≠ (.slice Ao95 t425.length co95 : Value).ownBlock ∧ k_ ≠ gb410 ∧ k_ ≠ gb411)) (by apply Kd.N_to; exact Kd.N_mono HO_412001.out (fun _ hk => ⟨⟨hk.1.1.2, ⟨hk.1.2, ⟨hk.1.1.1.1, hk.1.1.1.2⟩⟩⟩, hk.2⟩)) hg hat); have n2_ := Ax.mk (blk_grown (g := gb410) (o := .cells #[.int .u64 x411000_2, .slice Ao86 x411001_2.length co86, .string x411002_2] 66 (0, 0)) (bT BK410.out) hg (Kd.R_ne HO430.out BK410.out (by decide))); have n3_ := Ax.mk (blk_grown (g := gb411) (o := .cells #[.int .u64 x412000_2, .slice Ao85 x412001_2.length co85, .string x412002_2] 66 (0, 0)) (bT BK411.out) hg (Kd.R_ne HO430.out BK411.out (by decide))); have n4_ := Ax.mk (Kd.R_after (ok := (fun k_ => some k_ ≠ (.slice Ao95 t425.length co95 : Value).ownBlock)) (by apply Kd.R_to; exact Kd.R_mono HO422.out (fun _ hk => ⟨hk.1.2, hk.2⟩)) hg hat); have n5_ := Ax.mk (Kd.R_after (ok := (fun k_ => some k_ ≠ (v421 : Value).ownBlock)) (by apply Kd.R_to; exact Kd.R_mono HO427.out (fun _ hk => ⟨hk.1.2, hk.2⟩)) hg hat); have n6_ := Ax.mk (hb); have n7_ := Ax.mk (ho); clear HO_411001; clear HO_412001; clear BK410; clear BK411; clear HO422; clear HO427; clear HB; clear HO430; have HO_411001 := n0_; have HO_412001 := n1_; have BK410 := n2_; have BK411 := n3_; have HO422 := n4_; have HO427 := n5_; have HB := n6_; have HO433 := n7_; clear n0_ n1_ n2_ n3_ n4_ n5_ n6_ n7_; clear ho hb hg hat))
          go_meet
          case rel => exact ⟨_, (y431), H', ⟨by have := HJ5.out; have := HK2.out; first | omega | exact Nat.le_refl _⟩, ⟨by apply Kd.R_to; exact Kd.R_mono HO422.out (fun _ hk => hk.2)⟩, ⟨by apply Kd.R_to; exact Kd.R_mono HO433.out (fun _ hk => hk.1)⟩, ⟨by apply Kd.N_to; exact Kd.N_mono HO_411001.out (fun _ hk => ⟨hk.1.1, ⟨hk.2, ⟨hk.1.2.2.1, hk.1.2.2.2⟩⟩⟩)⟩, ⟨by apply Kd.N_to; exact Kd.N_mono HO_412001.out (fun _ hk => ⟨hk.1.1, ⟨hk.2, ⟨hk.1.2.2.1, hk.1.2.2.2⟩⟩⟩)⟩, ⟨by refine bT ?_; exact BK410.out⟩, ⟨by refine bT ?_; exact BK411.out⟩, ⟨bA⟩⟩
         ·rw [if_neg c91] at H
          exact absurd H (by simp)
        ·rw [if_neg c90] at H
         have c90b0 : (a0 == 0) = false := beq_eq_false_iff_ne.mpr c90
         have c90b1 : (a0 != 0) = true := bne_iff_ne.mpr c90
         (first | rw [c90b0] | (simp only [i64_w, i32_w]; rw [c90b0]) | skip)
         have H' := Ax.mk H
         clear H
         go_wp2
         go_meet
         case rel => exact ⟨_, (t425), H', ⟨by have := HJ5.out; have := HK2.out; first | omega | exact Nat.le_refl _⟩, ⟨by apply Kd.R_to; exact Kd.R_mono HO422.out (fun _ hk => hk.2)⟩, ⟨by apply Kd.R_to; exact Kd.R_mono HO427.out (fun _ hk => hk.2)⟩, ⟨by apply Kd.N_to; exact Kd.N_mono HO_411001.out (fun _ hk => ⟨hk.1.2, ⟨hk.2, ⟨hk.1.1.1, hk.1.1.2⟩⟩⟩)⟩, ⟨by apply Kd.N_to; exact Kd.N_mono HO_412001.out (fun _ hk => ⟨hk.1.2, ⟨hk.2, ⟨hk.1.1.1, hk.1.1.2⟩⟩⟩)⟩, ⟨by refine bT ?_; exact BK410.out⟩, ⟨by refine bT ?_; exact BK411.out⟩, ⟨bA⟩⟩
       case rest =>
        clear HC81
        try clear c2
        try clear p2
        try clear c3
        try clear c4
        try clear p4
        try clear q4
        try clear hx4
        try clear c5
        try clear c6
        try clear p6
        try clear c8
        try clear c9
        try clear c21
        try clear c21b0
        try clear c22
        try clear c36
        try clear c39
        try clear c41
        try clear p41
        try clear q41
        try clear hx41
        try clear c42
        try clear c55
        try clear c55b0
        try clear c55b1
        try clear p64
        try clear c65
        try clear c66
        try clear c68
        try clear c82
        try clear c90
        try clear c90b0
        try clear c90b1
        try clear c91
        try clear hcz67_0
        try clear hcz67_1
        try clear hcz67_2
        try clear hcz69_0
        try clear hcz69_1
        try clear hcz69_2
        try clear hcz83_0
        try clear hcz83_1
        try clear hcz83_2
        try clear hcz84_0
        try clear hcz84_1
        try clear hcz84_2
        try clear hcz88_0
        try clear hcz88_1
        try clear hcz88_2
        try clear hfz67_0
        try clear hfz67_1
        try clear hfz67_2
        try clear hfz69_0
        try clear hfz69_1
        try clear hfz69_2
        try clear hfz83_0
        try clear hfz83_1
        try clear hfz83_2
        try clear hfz84_0
        try clear hfz84_1
        try clear hfz84_2
        try clear hfz88_0
        try clear hfz88_1
        try clear hfz88_2
        try clear hx412_0
        try clear p412
        try clear q412
        obtain ⟨kq, x18_80, HA, HJ80, HO_15, HO_18, HO_411001, HO_412001, BK410, BK411, HB⟩ := hcut
        cases kq with
        | zero => exact absurd HA.out (by simp [l13_JournalOnce.j2])
        | succ kj80 =>
         have H := HA.out
         clear HA
         simp only [l13_JournalOnce.j2] at H
         replace H := Option.bind_eq_some_iff.mp H
         obtain ⟨⟨t434, t437, t438⟩, A960, H⟩ := H
         replace H : (if t424 = 0 then (if t438 = 0 then (if t423 = x411000_2 then (if t437 = x411000_2 then ((l13_steps.f kj80 t434).bind fun t439 => ((l13_sameSteps.f kj80 t420 t439).bind fun t442 => (if t442 = true then (if a0 = 0 then (some true) else ((l13_steps.f kj80 x18_80).bind fun t443 => ((l13_sameSteps.f kj80 t420 t443).bind fun t446 => (some t446)))) else (none)))) else (none)) else (none)) else (none)) else (none)) = some r := H
         have A96 := Ax.mk A960
         clear A960
         by_cases c97 : t424 = 0
         ·rw [if_pos c97] at H
          have c97b0 : (t424 == 0) = true := beq_iff_eq.mpr c97
          have c97b1 : (t424 != 0) = false := bne_eq_false_iff_eq.mpr c97
          clear c97
          by_cases c98 : t438 = 0
          ·rw [if_pos c98] at H
           have c98b0 : (t438 == 0) = true := beq_iff_eq.mpr c98
           have c98b1 : (t438 != 0) = false := bne_eq_false_iff_eq.mpr c98
           clear c98
           by_cases c99 : t423 = x411000_2
           ·rw [if_pos c99] at H
            have c99b0 : (t423 == x411000_2) = true := beq_iff_eq.mpr c99
            have c99b1 : (t423 != x411000_2) = false := bne_eq_false_iff_eq.mpr c99
            clear c99
            by_cases c100 : t437 = x411000_2
            ·rw [if_pos c100] at H
             have c100b0 : (t437 == x411000_2) = true := beq_iff_eq.mpr c100
             have c100b1 : (t437 != x411000_2) = false := bne_eq_false_iff_eq.mpr c100
             clear c100
             replace H := Option.bind_eq_some_iff.mp H
             obtain ⟨t439, A1010, H⟩ := H
             replace H : ((l13_sameSteps.f kj80 t420 t439).bind fun t442 => (if t442 = true then (if a0 = 0 then (some true) else ((l13_steps.f kj80 x18_80).bind fun t443 => ((l13_sameSteps.f kj80 t420 t443).bind fun t446 => (some t446)))) else (none))) = some r := H
             have A101 := Ax.mk A1010
             clear A1010
             replace H := Option.bind_eq_some_iff.mp H
             obtain ⟨t442, A1020, H⟩ := H
             replace H : (if t442 = true then (if a0 = 0 then (some true) else ((l13_steps.f kj80 x18_80).bind fun t443 => ((l13_sameSteps.f kj80 t420 t443).bind fun t446 => (some t446)))) else (none)) = some r := H
             have A102 := Ax.mk A1020
             clear A1020
             by_cases c103 : t442 = true
             ·subst c103
              have H1 : (if a0 = 0 then (some true) else ((l13_steps.f kj80 x18_80).bind fun t443 => ((l13_sameSteps.f kj80 t420 t443).bind fun t446 => (some t446)))) = some r := by rw [if_pos rfl] at H; exact H
              clear H
              have H := H1
              clear H1
              by_cases c104 : a0 = 0
              ·rw [if_pos c104] at H
               have c104b0 : (a0 == 0) = true := beq_iff_eq.mpr c104
               have c104b1 : (a0 != 0) = false := bne_eq_false_iff_eq.mpr c104
               clear c104
               obtain rfl := Option.some.inj H
               have hnb105 := NB410_411.out
               have hnc105 := NB411_410.out
               have hcz106_0 : wc.cell? ⟨gb410, 0, none⟩ = some (.int .u64 x411000_2) := (bC BK410.out 0).trans rfl
               have hcz106_1 : wc.cell? ⟨gb410, 1, none⟩ = some (.slice Ao86 x411001_2.length co86) := (bC BK410.out 1).trans rfl
               have hcz106_2 : wc.cell? ⟨gb410, 2, none⟩ = some (.string x411002_2) := (bC BK410.out 2).trans rfl
               have hfz106_0 := bF BK410.out 0
               have hfz106_1 := bF BK410.out 1
               have hfz106_2 := bF BK410.out 2
               go_wp2_with (first | ((with_reducible refine gate_callee (f := 42) rfl ?_); refine goesL_ (some 87) rfl rfl Tryd.func42 (by kernel_rfl) rfl #[.agg #[.int .u64 x411000_2, .slice Ao86 x411001_2.length co86, .string x411002_2], .agg #[.int .u64 x411000_2, .slice Ao86 x411001_2.length co86, .string x411002_2]] rfl (by (try simp only [List.map_toArray, List.map_cons, List.map_nil]); first | done | rfl | (simp only [List.length_drop, List.length_take]; rfl) | (rw [wrap_sum2 (by assumption)]; rfl)) ?_; (with_reducible refine (journal_Join.calls kj80 x411000_2 _ _ x411001_2 x411002_2 x411000_2 _ _ x411001_2 x411002_2 t434 t437 t438 _ ?side1 ?side2 ?side3 ?side4 A96.out).mono ?_); (case side1 => repeat (first | exact (Kd.N_reads' HO_411001.out).2.2 | (with_reducible refine Kd.C_alloc ?_ _) | (with_reducible refine Kd.C_drewN ?_ _) | (with_reducible refine Kd.C_drew ?_))); (case side2 => exact (Kd.N_reads' HO_411001.out).2.1); (case side3 => repeat (first | exact (Kd.N_reads' HO_411001.out).2.2 | (with_reducible refine Kd.C_alloc ?_ _) | (with_reducible refine Kd.C_drewN ?_ _) | (with_reducible refine Kd.C_drew ?_))); (case side4 => exact (Kd.N_reads' HO_411001.out).2.1); rintro e w107 ⟨v435, rfl, ho0, hb⟩; refine ⟨_, rfl, ?_⟩; have n0_ := Ax.mk (Kd.R_elder' (by exact Kd.R_to HO_15.out) (Kd.R_base ho0) hb); have n1_ := Ax.mk (Kd.R_elder' (by exact Kd.R_to HO_18.out) (Kd.R_base ho0) hb); have n2_ := Ax.mk (Kd.N_elder' (by exact Kd.N_to HO_411001.out) (Kd.R_base ho0) hb); have n3_ := Ax.mk (Kd.N_elder' (by exact Kd.N_to HO_412001.out) (Kd.R_base ho0) hb); have n4_ := Ax.mk (Kd.R_lower (Kd.R_new' (Kd.R_new' ho0 (Kd.R_lt (by exact Kd.R_to HO_15.out))) (Kd.R_lt (by exact Kd.R_to HO_18.out))) (bS bA)); have n5_ := Ax.mk (bB (bT BK410.out) hb); have n6_ := Ax.mk (bB (bT BK411.out) hb); have n7_ := Ax.mk (bP bA hb); clear HO_15; clear HO_18; clear HO_411001; clear HO_412001; clear BK410; clear BK411; clear HB; have HO_15 := n0_; have HO_18 := n1_; have HO_411001 := n2_; have HO_412001 := n3_; have HO436 := n4_; have BK410 := n5_; have BK411 := n6_; have HB := n7_; clear n0_ n1_ n2_ n3_ n4_ n5_ n6_ n7_; (try clear hb); (try clear hb2); (try clear hk); (try clear hi); (try clear ho0); have hcz108_0 : w107.cell? ⟨gb410, 0, none⟩ = some (.int .u64 x411000_2) := (bC BK410.out 0).trans rfl; have hcz108_1 : w107.cell? ⟨gb410, 1, none⟩ = some (.slice Ao86 x411001_2.length co86) := (bC BK410.out 1).trans rfl; have hcz108_2 : w107.cell? ⟨gb410, 2, none⟩ = some (.string x411002_2) := (bC BK410.out 2).trans rfl; have hfz108_0 := bF BK410.out 0; have hfz108_1 := bF BK410.out 1; have hfz108_2 := bF BK410.out 2; obtain ⟨Ao109, co109, eo109⟩ := Kd.R_slice HO436.out; subst eo109) | (go_at_call 40; (with_reducible refine (l13_steps.calls kj80 _ _ t434 t439 _ ?side1 ?side2 A101.out).mono ?_); (case side1 => repeat (first | exact (Kd.R_reads' HO436.out).2.2 | (with_reducible refine Kd.C_alloc ?_ _) | (with_reducible refine Kd.C_drewN ?_ _) | (with_reducible refine Kd.C_drew ?_))); (case side2 => exact (Kd.R_reads' HO436.out).2.1); rintro e w110 ⟨v440, rfl, ho0, hb⟩; have n0_ := Ax.mk (Kd.R_below (by exact Kd.R_to HO_15.out) hb); have n1_ := Ax.mk (Kd.R_below (by exact Kd.R_to HO_18.out) hb); have n2_ := Ax.mk (Kd.N_elder' (by exact Kd.N_to HO_411001.out) (Kd.R_base ho0) hb); have n3_ := Ax.mk (Kd.N_elder' (by exact Kd.N_to HO_412001.out) (Kd.R_base ho0) hb); have n4_ := Ax.mk (Kd.R_below (by exact Kd.R_to HO436.out) hb); have n5_ := Ax.mk (Kd.R_lower ho0 (bS bA)); have n6_ := Ax.mk (bB (bT BK410.out) hb); have n7_ := Ax.mk (bB (bT BK411.out) hb); have n8_ := Ax.mk (bP bA hb); clear HO_15; clear HO_18; clear HO_411001; clear HO_412001; clear HO436; clear BK410; clear BK411; clear HB; have HO_15 := n0_; have HO_18 := n1_; have HO_411001 := n2_; have HO_412001 := n3_; have HO436 := n4_; have HO441 := n5_; have BK410 := n6_; have BK411 := n7_; have HB := n8_; clear n0_ n1_ n2_ n3_ n4_ n5_ n6_ n7_ n8_; (try clear hb); (try clear hb2); (try clear hk); (try clear hi); (try clear ho0); obtain ⟨Ao111, co111, eo111⟩ := Kd.R_slice HO_15.out; subst eo111; obtain ⟨Ao112, co112, eo112⟩ := Kd.R_slice HO441.out; subst eo112) | (go_at_call 35; (with_reducible refine (l13_sameSteps.calls kj80 _ _ t420 _ _ t439 true _ ?side1 ?side2 ?side3 ?side4 A102.out).mono ?_); (case side1 => repeat (first | exact (Kd.R_reads' HO_15.out).2.2 | (with_reducible refine Kd.C_alloc ?_ _) | (with_reducible refine Kd.C_drewN ?_ _) | (with_reducible refine Kd.C_drew ?_))); (case side2 => exact (Kd.R_reads' HO_15.out).2.1); (case side3 => repeat (first | exact (Kd.R_reads' HO441.out).2.2 | (with_reducible refine Kd.C_alloc ?_ _) | (with_reducible refine Kd.C_drewN ?_ _) | (with_reducible refine Kd.C_drew ?_))); (case side4 => exact (Kd.R_reads' HO441.out).2.1); rintro e w113 ⟨rfl, hb⟩; have n0_ := Ax.mk (Kd.R_below (by exact Kd.R_to HO_15.out) hb); have n1_ := Ax.mk (Kd.R_below (by exact Kd.R_to HO_18.out) hb); have n2_ := Ax.mk (Kd.N_below (by exact Kd.N_to HO_411001.out) hb); have n3_ := Ax.mk (Kd.N_below (by exact Kd.N_to HO_412001.out) hb); have n4_ := Ax.mk (Kd.R_below (by exact Kd.R_to HO436.out) hb); have n5_ := Ax.mk (Kd.R_below (by exact Kd.R_to HO441.out) hb); have n6_ := Ax.mk (bB (bT BK410.out) hb); have n7_ := Ax.mk (bB (bT BK411.out) hb); have n8_ := Ax.mk (bP bA hb); clear HO_15; clear HO_18; clear HO_411001; clear HO_412001; clear HO436; clear HO441; clear BK410; clear BK411; clear HB; have HO_15 := n0_; have HO_18 := n1_; have HO_411001 := n2_; have HO_412001 := n3_; have HO436 := n4_; have HO441 := n5_; have BK410 := n6_; have BK411 := n7_; have HB := n8_; clear n0_ n1_ n2_ n3_ n4_ n5_ n6_ n7_ n8_; (try clear hb); (try clear hb2); (try clear hk); (try clear hi)))
               go_ret
               exact ⟨by first | rfl | (simp [errW_none, errW_some] <;> rfl) | (simp only [← hji12, ← hji13]; first | rfl | (simp [errW_none, errW_some] <;> rfl)) | (simp [*, errW_none, errW_some] <;> rfl), bA⟩
              ·rw [if_neg c104] at H
               have c104b0 : (a0 == 0) = false := beq_eq_false_iff_ne.mpr c104
               have c104b1 : (a0 != 0) = true := bne_iff_ne.mpr c104
               replace H := Option.bind_eq_some_iff.mp H
               obtain ⟨t443, A1140, H⟩ := H
               replace H : ((l13_sameSteps.f kj80 t420 t443).bind fun t446 => (some t446)) = some r := H
               have A114 := Ax.mk A1140
               clear A1140
               replace H := Option.bind_eq_some_iff.mp H
               obtain ⟨t446, A1150, H⟩ := H
               replace H : (some t446) = some r := H
               have A115 := Ax.mk A1150
               clear A1150
               obtain rfl := Option.some.inj H
               have hnb116 := NB410_411.out
               have hnc116 := NB411_410.out
               have hcz117_0 : wc.cell? ⟨gb410, 0, none⟩ = some (.int .u64 x411000_2) := (bC BK410.out 0).trans rfl
               have hcz117_1 : wc.cell? ⟨gb410, 1, none⟩ = some (.slice Ao86 x411001_2.length co86) := (bC BK410.out 1).trans rfl
               have hcz117_2 : wc.cell? ⟨gb410, 2, none⟩ = some (.string x411002_2) := (bC BK410.out 2).trans rfl
               have hfz117_0 := bF BK410.out 0
               have hfz117_1 := bF BK410.out 1
               have hfz117_2 := bF BK410.out 2
               go_wp2_with (first | ((with_reducible refine gate_callee (f := 42) rfl ?_); refine goesL_ (some 87) rfl rfl Tryd.func42 (by kernel_rfl) rfl #[.agg #[.int .u64 x411000_2, .slice Ao86 x411001_2.length co86, .string x411002_2], .agg #[.int .u64 x411000_2, .slice Ao86 x411001_2.length co86, .string x411002_2]] rfl (by (try simp only [List.map_toArray, List.map_cons, List.map_nil]); first | done | rfl | (simp only [List.length_drop, List.length_take]; rfl) | (rw [wrap_sum2 (by assumption)]; rfl)) ?_; (with_reducible refine (journal_Join.calls kj80 x411000_2 _ _ x411001_2 x411002_2 x411000_2 _ _ x411001_2 x411002_2 t434 t437 t438 _ ?side1 ?side2 ?side3 ?side4 A96.out).mono ?_); (case side1 => repeat (first | exact (Kd.N_reads' HO_411001.out).2.2 | (with_reducible refine Kd.C_alloc ?_ _) | (with_reducible refine Kd.C_drewN ?_ _) | (with_reducible refine Kd.C_drew ?_))); (case side2 => exact (Kd.N_reads' HO_411001.out).2.1); (case side3 => repeat (first | exact (Kd.N_reads' HO_411001.out).2.2 | (with_reducible refine Kd.C_alloc ?_ _) | (with_reducible refine Kd.C_drewN ?_ _) | (with_reducible refine Kd.C_drew ?_))); (case side4 => exact (Kd.N_reads' HO_411001.out).2.1); rintro e w118 ⟨v435, rfl, ho0, hb⟩; refine ⟨_, rfl, ?_⟩; have n0_ := Ax.mk (Kd.R_elder' (by exact Kd.R_to HO_15.out) (Kd.R_base ho0) hb); have n1_ := Ax.mk (Kd.R_elder' (by exact Kd.R_to HO_18.out) (Kd.R_base ho0) hb); have n2_ := Ax.mk (Kd.N_elder' (by exact Kd.N_to HO_411001.out) (Kd.R_base ho0) hb); have n3_ := Ax.mk (Kd.N_elder' (by exact Kd.N_to HO_412001.out) (Kd.R_base ho0) hb); have n4_ := Ax.mk (Kd.R_lower (Kd.R_new' (Kd.R_new' ho0 (Kd.R_lt (by exact Kd.R_to HO_15.out))) (Kd.R_lt (by exact Kd.R_to HO_18.out))) (bS bA)); have n5_ := Ax.mk (bB (bT BK410.out) hb); have n6_ := Ax.mk (bB (bT BK411.out) hb); have n7_ := Ax.mk (bP bA hb); clear HO_15; clear HO_18; clear HO_411001; clear HO_412001; clear BK410; clear BK411; clear HB; have HO_15 := n0_; have HO_18 := n1_; have HO_411001 := n2_; have HO_412001 := n3_; have HO436 := n4_; have BK410 := n5_; have BK411 := n6_; have HB := n7_; clear n0_ n1_ n2_ n3_ n4_ n5_ n6_ n7_; (try clear hb); (try clear hb2); (try clear hk); (try clear hi); (try clear ho0); have hcz119_0 : w118.cell? ⟨gb410, 0, none⟩ = some (.int .u64 x411000_2) := (bC BK410.out 0).trans rfl; have hcz119_1 : w118.cell? ⟨gb410, 1, none⟩ = some (.slice Ao86 x411001_2.length co86) := (bC BK410.out 1).trans rfl; have hcz119_2 : w118.cell? ⟨gb410, 2, none⟩ = some (.string x411002_2) := (bC BK410.out 2).trans rfl; have hfz119_0 := bF BK410.out 0; have hfz119_1 := bF BK410.out 1; have hfz119_2 := bF BK410.out 2; obtain ⟨Ao120, co120, eo120⟩ := Kd.R_slice HO436.out; subst eo120) | (go_at_call 40; (with_reducible refine (l13_steps.calls kj80 _ _ t434 t439 _ ?side1 ?side2 A101.out).mono ?_); (case side1 => repeat (first | exact (Kd.R_reads' HO436.out).2.2 | (with_reducible refine Kd.C_alloc ?_ _) | (with_reducible refine Kd.C_drewN ?_ _) | (with_reducible refine Kd.C_drew ?_))); (case side2 => exact (Kd.R_reads' HO436.out).2.1); rintro e w121 ⟨v440, rfl, ho0, hb⟩; have n0_ := Ax.mk (Kd.R_below (by exact Kd.R_to HO_15.out) hb); have n1_ := Ax.mk (Kd.R_below (by exact Kd.R_to HO_18.out) hb); have n2_ := Ax.mk (Kd.N_elder' (by exact Kd.N_to HO_411001.out) (Kd.R_base ho0) hb); have n3_ := Ax.mk (Kd.N_elder' (by exact Kd.N_to HO_412001.out) (Kd.R_base ho0) hb); have n4_ := Ax.mk (Kd.R_below (by exact Kd.R_to HO436.out) hb); have n5_ := Ax.mk (Kd.R_lower ho0 (bS bA)); have n6_ := Ax.mk (bB (bT BK410.out) hb); have n7_ := Ax.mk (bB (bT BK411.out) hb); have n8_ := Ax.mk (bP bA hb); clear HO_15; clear HO_18; clear HO_411001; clear HO_412001; clear HO436; clear BK410; clear BK411; clear HB; have HO_15 := n0_; have HO_18 := n1_; have HO_411001 := n2_; have HO_412001 := n3_; have HO436 := n4_; have HO441 := n5_; have BK410 := n6_; have BK411 := n7_; have HB := n8_; clear n0_ n1_ n2_ n3_ n4_ n5_ n6_ n7_ n8_; (try clear hb); (try clear hb2); (try clear hk); (try clear hi); (try clear ho0); obtain ⟨Ao122, co122, eo122⟩ := Kd.R_slice HO_15.out; subst eo122; obtain ⟨Ao123, co123, eo123⟩ := Kd.R_slice HO441.out; subst eo123) | (go_at_call 35; (with_reducible refine (l13_sameSteps.calls kj80 _ _ t420 _ _ t439 true _ ?side1 ?side2 ?side3 ?side4 A102.out).mono ?_); (case side1 => repeat (first | exact (Kd.R_reads' HO_15.out).2.2 | (with_reducible refine Kd.C_alloc ?_ _) | (with_reducible refine Kd.C_drewN ?_ _) | (with_reducible refine Kd.C_drew ?_))); (case side2 => exact (Kd.R_reads' HO_15.out).2.1); (case side3 => repeat (first | exact (Kd.R_reads' HO441.out).2.2 | (with_reducible refine Kd.C_alloc ?_ _) | (with_reducible refine Kd.C_drewN ?_ _) | (with_reducible refine Kd.C_drew ?_))); (case side4 => exact (Kd.R_reads' HO441.out).2.1); rintro e w124 ⟨rfl, hb⟩; have n0_ := Ax.mk (Kd.R_below (by exact Kd.R_to HO_15.out) hb); have n1_ := Ax.mk (Kd.R_below (by exact Kd.R_to HO_18.out) hb); have n2_ := Ax.mk (Kd.N_below (by exact Kd.N_to HO_411001.out) hb); have n3_ := Ax.mk (Kd.N_below (by exact Kd.N_to HO_412001.out) hb); have n4_ := Ax.mk (Kd.R_below (by exact Kd.R_to HO436.out) hb); have n5_ := Ax.mk (Kd.R_below (by exact Kd.R_to HO441.out) hb); have n6_ := Ax.mk (bB (bT BK410.out) hb); have n7_ := Ax.mk (bB (bT BK411.out) hb); have n8_ := Ax.mk (bP bA hb); clear HO_15; clear HO_18; clear HO_411001; clear HO_412001; clear HO436; clear HO441; clear BK410; clear BK411; clear HB; have HO_15 := n0_; have HO_18 := n1_; have HO_411001 := n2_; have HO_412001 := n3_; have HO436 := n4_; have HO441 := n5_; have BK410 := n6_; have BK411 := n7_; have HB := n8_; clear n0_ n1_ n2_ n3_ n4_ n5_ n6_ n7_ n8_; (try clear hb); (try clear hb2); (try clear hk); (try clear hi); obtain ⟨Ao125, co125, eo125⟩ := Kd.R_slice HO_18.out; subst eo125) | (go_at_call 40; (with_reducible refine (l13_steps.calls kj80 _ _ x18_80 t443 _ ?side1 ?side2 A114.out).mono ?_); (case side1 => repeat (first | exact (Kd.R_reads' HO_18.out).2.2 | (with_reducible refine Kd.C_alloc ?_ _) | (with_reducible refine Kd.C_drewN ?_ _) | (with_reducible refine Kd.C_drew ?_))); (case side2 => exact (Kd.R_reads' HO_18.out).2.1); rintro e w126 ⟨v444, rfl, ho0, hb⟩; have n0_ := Ax.mk (Kd.R_below (by exact Kd.R_to HO_15.out) hb); have n1_ := Ax.mk (Kd.R_below (by exact Kd.R_to HO_18.out) hb); have n2_ := Ax.mk (Kd.N_elder' (by exact Kd.N_to HO_411001.out) (Kd.R_base ho0) hb); have n3_ := Ax.mk (Kd.N_elder' (by exact Kd.N_to HO_412001.out) (Kd.R_base ho0) hb); have n4_ := Ax.mk (Kd.R_below (by exact Kd.R_to HO436.out) hb); have n5_ := Ax.mk (Kd.R_elder' (by exact Kd.R_to HO441.out) (Kd.R_base ho0) hb); have n6_ := Ax.mk (Kd.R_lower (Kd.R_new' ho0 (Kd.R_lt (by exact Kd.R_to HO441.out))) (bS bA)); have n7_ := Ax.mk (bB (bT BK410.out) hb); have n8_ := Ax.mk (bB (bT BK411.out) hb); have n9_ := Ax.mk (bP bA hb); clear HO_15; clear HO_18; clear HO_411001; clear HO_412001; clear HO436; clear HO441; clear BK410; clear BK411; clear HB; have HO_15 := n0_; have HO_18 := n1_; have HO_411001 := n2_; have HO_412001 := n3_; have HO436 := n4_; have HO441 := n5_; have HO445 := n6_; have BK410 := n7_; have BK411 := n8_; have HB := n9_; clear n0_ n1_ n2_ n3_ n4_ n5_ n6_ n7_ n8_ n9_; (try clear hb); (try clear hb2); (try clear hk); (try clear hi); (try clear ho0); obtain ⟨Ao127, co127, eo127⟩ := Kd.R_slice HO445.out; subst eo127) | (go_at_call 35; (with_reducible refine (l13_sameSteps.calls kj80 _ _ t420 _ _ t443 t446 _ ?side1 ?side2 ?side3 ?side4 A115.out).mono ?_); (case side1 => repeat (first | exact (Kd.R_reads' HO_15.out).2.2 | (with_reducible refine Kd.C_alloc ?_ _) | (with_reducible refine Kd.C_drewN ?_ _) | (with_reducible refine Kd.C_drew ?_))); (case side2 => exact (Kd.R_reads' HO_15.out).2.1); (case side3 => repeat (first | exact (Kd.R_reads' HO445.out).2.2 | (with_reducible refine Kd.C_alloc ?_ _) | (with_reducible refine Kd.C_drewN ?_ _) | (with_reducible refine Kd.C_drew ?_))); (case side4 => exact (Kd.R_reads' HO445.out).2.1); rintro e w128 ⟨rfl, hb⟩; have n0_ := Ax.mk (Kd.R_below (by exact Kd.R_to HO_15.out) hb); have n1_ := Ax.mk (Kd.R_below (by exact Kd.R_to HO_18.out) hb); have n2_ := Ax.mk (Kd.N_below (by exact Kd.N_to HO_411001.out) hb); have n3_ := Ax.mk (Kd.N_below (by exact Kd.N_to HO_412001.out) hb); have n4_ := Ax.mk (Kd.R_below (by exact Kd.R_to HO436.out) hb); have n5_ := Ax.mk (Kd.R_below (by exact Kd.R_to HO441.out) hb); have n6_ := Ax.mk (Kd.R_below (by exact Kd.R_to HO445.out) hb); have n7_ := Ax.mk (bB (bT BK410.out) hb); have n8_ := Ax.mk (bB (bT BK411.out) hb); have n9_ := Ax.mk (bP bA hb); clear HO_15; clear HO_18; clear HO_411001; clear HO_412001; clear HO436; clear HO441; clear HO445; clear BK410; clear BK411; clear HB; have HO_15 := n0_; have HO_18 := n1_; have HO_411001 := n2_; have HO_412001 := n3_; have HO436 := n4_; have HO441 := n5_; have HO445 := n6_; have BK410 := n7_; have BK411 := n8_; have HB := n9_; clear n0_ n1_ n2_ n3_ n4_ n5_ n6_ n7_ n8_ n9_; (try clear hb); (try clear hb2); (try clear hk); (try clear hi)))
               go_ret
               exact ⟨by first | rfl | (simp [errW_none, errW_some] <;> rfl) | (simp only [← hji12, ← hji13]; first | rfl | (simp [errW_none, errW_some] <;> rfl)) | (simp [*, errW_none, errW_some] <;> rfl), bA⟩
             ·replace c103 := Bool.eq_false_iff.mpr c103
              subst c103
              have H1 : (none) = some r := by rw [if_neg (show ¬ (false = true) by decide)] at H; exact H
              clear H
              have H := H1
              clear H1
              exact absurd H (by simp)
            ·rw [if_neg c100] at H
             exact absurd H (by simp)
           ·rw [if_neg c99] at H
            exact absurd H (by simp)
          ·rw [if_neg c98] at H
           exact absurd H (by simp)
         ·rw [if_neg c97] at H
          exact absurd H (by simp)
end Go.Proofs.YtboommbclbjlnaaDoor.Fn
end
