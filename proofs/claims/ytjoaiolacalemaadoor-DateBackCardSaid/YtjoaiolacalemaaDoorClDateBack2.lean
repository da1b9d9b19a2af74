-- Packed by pack.py, a program of this session, out of texts of this claim.
import Derived.Test.YtjoaiolacalemaaDoorPlCal2
import Derived.Test.YtjoaiolacalemaaDoorClDateBack1
import Derived.Test.YtjoaiolacalemaaDoorClDateBack0
import Derived.Test.YtjoaiolacalemaaDoorPlDig
import Derived.Test.YtjoaiolacalemaaDoorClDateBackLfPad
import Derived.Test.YtjoaiolacalemaaDoorRows
import Derived.Lib.LaidU8T
import Derived.Lib.LaidTab
import Derived.Lib.LaidU8
import Derived.PinnedBridge
import Derived.WalkKit
import Derived.ProofKit
import Derived.OpenShut
import Derived.ChangeOld
import Derived.Below
import Derived.SizedLaws
import Derived.Carry
import Derived.Deep.DeepHandedRow
import Derived.Deep.DeepWitnessRowRef
import Derived.Deep.Fields
import Derived.Deep.DeepLaidRun
import Derived.Lib.TrailingZeros
import Derived.Stop.LaidErr
import Derived.Shelf.Vars
import Derived.ChangeShapes
import Derived.Lib.SmallJoins
section
/- date.Civil in plain words. -/


namespace Go.Proofs.YtjoaiolacalemaaDoor.Pu
open Go Go.Lib Go.RowKit Go.Proofs.YtjoaiolacalemaaDoor.Pl Go.Proofs.YtjoaiolacalemaaDoor.Fn Go.Proofs.YtjoaiolacalemaaDoorW.PrintWords
theorem w64 (x : Int) (h0 : -9223372036854775808 ≤ x) (h1 : x < 9223372036854775808) : wrap64 x = x := by unfold wrap64; omega
theorem wN (n : Nat) (h : n < 9223372036854775808) : wrap64 (n : Int) = (n : Int) := w64 _ (by omega) (by omega)
theorem td (a b : Nat) : Int.tdiv (a : Int) (b : Int) = ((a / b : Nat) : Int) := (Int.ofNat_tdiv a b).symm
theorem tm (a b : Nat) : Int.tmod (a : Int) (b : Int) = ((a % b : Nat) : Int) := (Int.ofNat_tmod a b).symm
theorem wd (a b : Nat) (h : a < 9223372036854775808) : wrap64 (Int.tdiv (a : Int) (b : Int)) = ((a / b : Nat) : Int) := by
  rw [td]
  exact wN _ (Nat.lt_of_le_of_lt (Nat.div_le_self a b) h)
theorem wa (a b : Nat) (h : a + b < 9223372036854775808) : wrap64 ((a : Int) + (b : Int)) = ((a + b : Nat) : Int) := by
  rw [w64 _ (by omega) (by omega)]; omega
theorem ws (a b : Nat) (h : b ≤ a) (h2 : a < 9223372036854775808) : wrap64 ((a : Int) - (b : Int)) = ((a - b : Nat) : Int) := by
  rw [w64 _ (by omega) (by omega)]; omega
theorem wm (a b : Nat) (h : a * b < 9223372036854775808) : wrap64 ((a : Int) * (b : Int)) = ((a * b : Nat) : Int) := by
  rw [← Int.natCast_mul]; exact wN _ h
set_option maxRecDepth 20000 in
theorem civil_j (k n : Nat) (h : n ≤ 281474976710656) : date_Civil.j0 (k + 1) (n : Int) false = some (((civN (n + 719468)).1 : Int), ((civN (n + 719468)).2.1 : Int), ((civN (n + 719468)).2.2 : Int)) := by
  have hr : (n + 719468) % 146097 < 146097 := Nat.mod_lt _ (by omega)
  obtain ⟨y1, y2, y3⟩ := yN_is _ hr
  have e0 : wrap64 ((n : Int) + 719468) = ((n + 719468 : Nat) : Int) := wa n 719468 (by omega)
  simp only [date_Civil.j0]
  rw [if_neg (by decide), e0]
  unfold civN civO civY
  have hq : (n + 719468) / 146097 ≤ 2000000000 := by omega
  generalize ht : n + 719468 = t at *
  have e1 : Int.tmod (t : Int) 146097 = ((t % 146097 : Nat) : Int) := tm t 146097
  have e2 : wrap64 (Int.tdiv (t : Int) 146097) = ((t / 146097 : Nat) : Int) := wd t 146097 (by omega)
  rw [e1, e2]
  generalize t % 146097 = r at *
  generalize t / 146097 = q at *
  have hg : gN r = r - r / 1460 + r / 36524 - r / 146096 := rfl
  have f1 : wrap64 (Int.tdiv (r : Int) 1460) = ((r / 1460 : Nat) : Int) := wd r 1460 (by omega)
  have f2 : wrap64 (Int.tdiv (r : Int) 36524) = ((r / 36524 : Nat) : Int) := wd r 36524 (by omega)
  have f3 : wrap64 (Int.tdiv (r : Int) 146096) = ((r / 146096 : Nat) : Int) := wd r 146096 (by omega)
  have f4 : wrap64 ((r : Int) - ((r / 1460 : Nat) : Int)) = ((r - r / 1460 : Nat) : Int) := ws _ _ (Nat.div_le_self _ _) (by omega)
  have b1 : r / 1460 ≤ r := Nat.div_le_self r 1460
  have b2 : r / 36524 ≤ r := Nat.div_le_self r 36524
  have b3 : r / 146096 ≤ r / 36524 := Nat.div_le_div_left (by decide) (by decide)
  have f5 : wrap64 (((r - r / 1460 : Nat) : Int) + ((r / 36524 : Nat) : Int)) = ((r - r / 1460 + r / 36524 : Nat) : Int) := by
    apply wa
    clear f1 f2 f3 f4 hg e0 e1 e2 y2 y3
    generalize r / 1460 = a at *
    generalize r / 36524 = b at *
    omega
  have f6 : wrap64 (((r - r / 1460 + r / 36524 : Nat) : Int) - ((r / 146096 : Nat) : Int)) = ((gN r : Nat) : Int) := by
    rw [hg]
    clear f1 f2 f3 f4 f5 hg e0 e1 e2 y2 y3
    generalize r / 1460 = a at *
    generalize r / 36524 = b at *
    generalize r / 146096 = c at *
    exact ws _ _ (by omega) (by omega)
  have hgr : gN r ≤ 2 * r := by
    rw [hg]
    clear f1 f2 f3 f4 f5 f6 hg e0 e1 e2 y2 y3
    generalize r / 1460 = a at *
    generalize r / 36524 = b at *
    generalize r / 146096 = c at *
    omega
  rw [f1, f2, f3, f4, f5, f6]
  have f7 : wrap64 (Int.tdiv ((gN r : Nat) : Int) 365) = ((yN r : Nat) : Int) := wd (gN r) 365 (by clear f1 f2 f3 f4 f5 f6 hg b1 b2 b3 y2 y3; omega)
  rw [f7]
  clear f1 f2 f3 f4 f5 f6 f7 hg hgr b1 b2 b3 e0 e1 e2
  generalize yN r = y at *
  have hs : stN y = 365 * y + y / 4 - y / 100 := by unfold stN; rw [Nat.div_eq_of_lt (show y < 400 by omega), Nat.add_zero]
  have f8 : wrap64 (365 * (y : Int)) = ((365 * y : Nat) : Int) := wm 365 y (by omega)
  have f9 : wrap64 (Int.tdiv (y : Int) 4) = ((y / 4 : Nat) : Int) := wd y 4 (by omega)
  have f10 : wrap64 (Int.tdiv (y : Int) 100) = ((y / 100 : Nat) : Int) := wd y 100 (by omega)
  have d4 : y / 4 ≤ y := Nat.div_le_self y 4
  have d100 : y / 100 ≤ y := Nat.div_le_self y 100
  have f11 : wrap64 (((365 * y : Nat) : Int) + ((y / 4 : Nat) : Int)) = ((365 * y + y / 4 : Nat) : Int) := by
    apply wa
    clear f8 f9 f10 hs y2 y3
    generalize y / 4 = a at *
    omega
  have f12 : wrap64 (((365 * y + y / 4 : Nat) : Int) - ((y / 100 : Nat) : Int)) = ((stN y : Nat) : Int) := by
    rw [hs]
    clear f8 f9 f10 f11 hs y2 y3
    generalize y / 4 = a at *
    generalize y / 100 = b at *
    exact ws _ _ (by omega) (by omega)
  rw [f8, f9, f10, f11, f12]
  clear f8 f9 f10 f11 f12 hs d4 d100
  have f13 : wrap64 ((r : Int) - ((stN y : Nat) : Int)) = ((r - stN y : Nat) : Int) := ws _ _ y2 (by omega)
  rw [f13]
  have ho : r - stN y < 146097 := Nat.lt_of_le_of_lt (Nat.sub_le _ _) hr
  clear f13 y2 y3
  generalize r - stN y = o at *
  have f14 : wrap64 (5 * (o : Int)) = ((5 * o : Nat) : Int) := wm 5 o (by omega)
  have f15 : wrap64 (((5 * o : Nat) : Int) + 2) = ((5 * o + 2 : Nat) : Int) := wa _ 2 (by omega)
  have f16 : wrap64 (Int.tdiv ((5 * o + 2 : Nat) : Int) 153) = (((5 * o + 2) / 153 : Nat) : Int) := wd _ 153 (by omega)
  rw [f14, f15, f16]
  have hM : marchM o = if (5 * o + 2) / 153 + 3 > 12 then (5 * o + 2) / 153 + 3 - 12 else (5 * o + 2) / 153 + 3 := rfl
  have hD : marchD o = o - (153 * ((5 * o + 2) / 153) + 2) / 5 + 1 := rfl
  have hm5 : (153 * ((5 * o + 2) / 153) + 2) / 5 ≤ o := by clear f14 f15 f16 hM hD; omega
  have hmm : (5 * o + 2) / 153 ≤ 5000 := by clear f14 f15 f16 hM hD hm5; omega
  rw [hM, hD]
  clear hM hD f14 f15 f16
  generalize (5 * o + 2) / 153 = m at *
  have f17 : wrap64 ((m : Int) + 3) = ((m + 3 : Nat) : Int) := wa m 3 (by omega)
  have f18 : wrap64 (153 * (m : Int)) = ((153 * m : Nat) : Int) := wm 153 m (by omega)
  have f19 : wrap64 (((153 * m : Nat) : Int) + 2) = ((153 * m + 2 : Nat) : Int) := wa _ 2 (by omega)
  have f20 : wrap64 (Int.tdiv ((153 * m + 2 : Nat) : Int) 5) = (((153 * m + 2) / 5 : Nat) : Int) := wd _ 5 (by omega)
  rw [f17, f18, f19, f20]
  clear f17 f18 f19 f20
  generalize (153 * m + 2) / 5 = p at *
  have f21 : wrap64 ((o : Int) - (p : Int)) = ((o - p : Nat) : Int) := ws _ _ hm5 (by omega)
  have f22 : wrap64 (((o - p : Nat) : Int) + 1) = ((o - p + 1 : Nat) : Int) := wa _ 1 (by omega)
  have f23 : wrap64 ((q : Int) * 400) = ((q * 400 : Nat) : Int) := wm q 400 (by omega)
  have f24 : wrap64 ((y : Int) + ((q * 400 : Nat) : Int)) = ((y + q * 400 : Nat) : Int) := wa _ _ (by omega)
  rw [f21, f22, f23, f24]
  clear f21 f22 f23 f24 hm5 hr ho
  by_cases hc : m + 3 > 12
  · have f25 : wrap64 (((m + 3 : Nat) : Int) - 12) = ((m + 3 - 12 : Nat) : Int) := ws _ 12 (by omega) (by omega)
    have f26 : wrap64 (((y + q * 400 : Nat) : Int) + 1) = ((y + q * 400 + 1 : Nat) : Int) := wa _ 1 (by omega)
    rw [f25, f26]
    have hi : (((m + 3 : Nat) : Int) > 12) := by omega
    rw [if_pos hi, if_pos hc, if_pos hc]
  · have hi : ¬ (((m + 3 : Nat) : Int) > 12) := by omega
    rw [if_neg hi, if_neg hc, if_neg hc]
end Go.Proofs.YtjoaiolacalemaaDoor.Pu
end
section
/- The printed functions of date, and the references to them, in plain words: Leap, Long, Civil, Day. -/





namespace Go.Proofs.YtjoaiolacalemaaDoor.Pu
open Go Go.Lib Go.RowKit Go.Proofs.YtjoaiolacalemaaDoor.Pl Go.Proofs.YtjoaiolacalemaaDoor.Fn Go.Proofs.YtjoaiolacalemaaDoorW.PrintWords
/-- Leap, of any int. -/
def leapI (y : Int) : Bool := decide (Int.tmod y 4 = 0 ∧ (Int.tmod y 100 ≠ 0 ∨ Int.tmod y 400 = 0))
theorem leap_eq (y : Int) : date_Leap.f y = some (leapI y) := by
  unfold date_Leap.f leapI
  by_cases h1 : Int.tmod y 4 = 0
  · rw [if_pos h1]
    by_cases h2 : Int.tmod y 100 = 0
    · rw [if_pos h2]
      by_cases h3 : Int.tmod y 400 = 0
      · rw [decide_eq_true ⟨h1, Or.inr h3⟩, h3]; rfl
      · rw [decide_eq_false (fun h => h.2.elim (fun k => k h2) h3)]
        congr 1
        simpa using h3
    · rw [if_neg h2, decide_eq_true ⟨h1, Or.inl h2⟩]
  · rw [if_neg h1, decide_eq_false (fun h => h1 h.1)]
theorem tmod_400_4 (y : Int) (h : Int.tmod y 400 = 0) : Int.tmod y 4 = 0 ∧ Int.tmod y 100 = 0 := by
  have h1 : (400 : Int) ∣ y := Int.dvd_of_tmod_eq_zero h
  obtain ⟨c, rfl⟩ := h1
  exact ⟨Int.tmod_eq_zero_of_dvd ⟨100 * c, by omega⟩, Int.tmod_eq_zero_of_dvd ⟨4 * c, by omega⟩⟩
theorem ref_leap_eq (y : Int) : rootcellarref15_Leap.f y = some (leapI y) := by
  unfold rootcellarref15_Leap.f leapI
  by_cases h3 : Int.tmod y 400 = 0
  · obtain ⟨h1, h2⟩ := tmod_400_4 y h3
    rw [if_pos h1, if_pos h2, decide_eq_true ⟨h1, Or.inr h3⟩, h3]; rfl
  · have e3 : (Int.tmod y 400 == 0) = false := by simpa using h3
    by_cases h1 : Int.tmod y 4 = 0
    · rw [if_pos h1]
      by_cases h2 : Int.tmod y 100 = 0
      · rw [if_pos h2, e3, decide_eq_false (fun h => h.2.elim (fun k => k h2) h3)]
      · rw [if_neg h2, decide_eq_true ⟨h1, Or.inl h2⟩]
    · rw [if_neg h1, e3, decide_eq_false (fun h => h1 h.1)]
theorem leapI_nat (y : Nat) : leapI (y : Int) = leapN y := by
  unfold leapI
  rw [Bool.eq_iff_iff, decide_eq_true_iff, leap_iff]
  have e4 : Int.tmod (y : Int) 4 = ((y % 4 : Nat) : Int) := tm y 4
  have e100 : Int.tmod (y : Int) 100 = ((y % 100 : Nat) : Int) := tm y 100
  have e400 : Int.tmod (y : Int) 400 = ((y % 400 : Nat) : Int) := tm y 400
  rw [e4, e100, e400]
  omega
theorem long_eq (y m : Int) : date_Long.f y m = some (longM (leapI y) m) := by
  unfold date_Long.f
  rw [leap_eq]; rfl
theorem ref_long_eq (y m : Int) (k : Nat) : rootcellarref15_Long.f (k + 1) y m = some (longM (leapI y) m) := by
  unfold rootcellarref15_Long.f longM
  simp only [rootcellarref15_Long.j0, ref_leap_eq, Option.bind_some]
  by_cases h4 : m = 4
  · subst h4; rfl
  by_cases h6 : m = 6
  · subst h6; rfl
  by_cases h9 : m = 9
  · subst h9; rfl
  by_cases h11 : m = 11
  · subst h11; rfl
  rw [if_neg h4, if_neg h6, if_neg h9, if_neg (by simpa using h11)]
  by_cases h2 : m = 2
  · subst h2
    rw [if_pos rfl]
    cases leapI y <;> rfl
  rw [if_neg h2]
  by_cases h1 : m < 1
  · rw [if_pos h1, if_pos h1]
  rw [if_neg h1, if_neg h1]
  by_cases h12 : m > 12
  · rw [if_pos h12, if_pos (show 12 < m by omega)]
  rw [if_neg h12, if_neg (show ¬ 12 < m by omega), if_neg h2, if_neg (by omega)]
theorem ev_ref_long (y m : Int) : Ev (fun k => rootcellarref15_Long.f k y m) (longM (leapI y) m) :=
  ⟨1, fun k hk => by obtain ⟨k, rfl⟩ : ∃ m, k = m + 1 := ⟨k - 1, by omega⟩; exact ref_long_eq y m k⟩
theorem longM_nat (b : Bool) (m : Nat) : longM b (m : Int) = ((longN b m : Nat) : Int) := by
  unfold longM longN
  by_cases h1 : m < 1
  · rw [if_pos (by omega), if_pos h1]; rfl
  rw [if_neg (by omega), if_neg h1]
  by_cases h12 : 12 < m
  · rw [if_pos (by omega), if_pos h12]; rfl
  rw [if_neg (by omega), if_neg h12]
  by_cases h2 : m = 2
  · rw [if_pos (by omega), if_pos h2]; cases b <;> rfl
  rw [if_neg (by omega), if_neg h2]
  by_cases h4 : m = 4 ∨ m = 6 ∨ m = 9 ∨ m = 11
  · rw [if_pos (by omega), if_pos h4]; rfl
  · rw [if_neg (by omega), if_neg h4]; rfl
def daysN (y : Nat) : Nat := if leapN y = true then 366 else 365
theorem ref_days_eq (y : Nat) : rootcellarref15_days.f (y : Int) = some ((daysN y : Nat) : Int) := by
  unfold rootcellarref15_days.f daysN
  rw [ref_leap_eq, leapI_nat]
  cases leapN y <;> rfl
theorem longN_le (b : Bool) (m : Nat) : longN b m ≤ 31 := by
  unfold longN
  by_cases h1 : m < 1
  · rw [if_pos h1]; omega
  rw [if_neg h1]
  by_cases h12 : 12 < m
  · rw [if_pos h12]; omega
  rw [if_neg h12]
  by_cases h2 : m = 2
  · rw [if_pos h2]; cases b <;> decide
  rw [if_neg h2]
  by_cases h4 : m = 4 ∨ m = 6 ∨ m = 9 ∨ m = 11
  · rw [if_pos h4]; omega
  · rw [if_neg h4]; omega
/-- Civil, of any day. -/
def civS (d : Int) : Int × Int × Int := if d < 0 ∨ 281474976710656 < d then (0, 0, 0) else (((civN (d.toNat + 719468)).1 : Int), ((civN (d.toNat + 719468)).2.1 : Int), ((civN (d.toNat + 719468)).2.2 : Int))
theorem civil_eq (d : Int) (k : Nat) : date_Civil.f (k + 1) d = some (civS d) := by
  unfold date_Civil.f civS
  by_cases h0 : d < 0
  · rw [if_pos h0, if_pos (Or.inl h0)]; rfl
  rw [if_neg h0]
  by_cases h1 : d > 281474976710656
  · rw [decide_eq_true h1, if_pos (Or.inr (by omega))]; rfl
  rw [decide_eq_false h1, if_neg (by omega)]
  obtain ⟨n, rfl⟩ := Int.eq_ofNat_of_zero_le (show 0 ≤ d by omega)
  rw [Int.toNat_natCast]
  exact civil_j k n (by omega)
theorem ev_civil (d : Int) : Ev (fun k => date_Civil.f k d) (civS d) :=
  ⟨1, fun k hk => by obtain ⟨k, rfl⟩ : ∃ m, k = m + 1 := ⟨k - 1, by omega⟩; exact civil_eq d k⟩
/-- The date that has that day, as three ints. -/
def civT (t : Nat) : Int × Int × Int := (((civN t).1 : Int), ((civN t).2.1 : Int), ((civN t).2.2 : Int))
theorem civT_of {t y m d : Nat} (hv : valid y m d) (h : dayOf y m d = t + 61) : civT t = ((y : Int), (m : Int), (d : Int)) := by
  obtain ⟨v, e⟩ := civ_ok t
  obtain ⟨e1, e2, e3⟩ := dayOf_inj v hv (by omega)
  unfold civT
  rw [e1, e2, e3]
theorem mday_all (b : Bool) : mday b 12 + longN b 12 = if b = true then 366 else 365 := by cases b <;> decide
theorem mday_succ (b : Bool) (m : Nat) (h : 1 ≤ m) : mday b (m + 1) = mday b m + longN b m := by
  obtain ⟨j, rfl⟩ : ∃ j, m = j + 1 := ⟨m - 1, by omega⟩
  rfl
theorem civil_l0 (k : Nat) (x0 x5 : Int) : rootcellarref15_Civil.l0 (k + 1) x0 x5 = (rootcellarref15_days.f x5).bind fun t119 => (if x0 ≥ t119 then ((rootcellarref15_days.f x5).bind fun t120 => (rootcellarref15_Civil.l0 k (wrap64 (x0 - t120)) (wrap64 (x5 + 1)))) else (rootcellarref15_Civil.l1 k x0 x5 1)) := rfl
theorem civil_l1 (k : Nat) (x0 x5 x6 : Int) : rootcellarref15_Civil.l1 (k + 1) x0 x5 x6 = (rootcellarref15_Long.f k x5 x6).bind fun t121 => (if x0 ≥ t121 then ((rootcellarref15_Long.f k x5 x6).bind fun t122 => (rootcellarref15_Civil.l1 k (wrap64 (x0 - t122)) x5 (wrap64 (x6 + 1)))) else (some (x5, x6, wrap64 (x0 + 1)))) := rfl
/-- The months' loop of the reference. -/
theorem ref_civil_m (y d : Nat) (hy : 1 ≤ y) (hd : d < daysN y) : ∀ (n m e : Nat), 12 - m = n → 1 ≤ m → m ≤ 12 → mday (leapN y) m + e = d →
    Ev (fun k => rootcellarref15_Civil.l1 k (e : Int) (y : Int) (m : Int)) (civT (yday y + d + 1 - 61)) := by
  have hy366 : 366 ≤ yday y := by
    have := yday_le 1 (y - 1)
    rw [show 1 + (y - 1) = y by omega] at this
    exact this
  intro n
  induction n with
  | zero =>
    intro m e hn h1 h2 he
    obtain rfl : m = 12 := by omega
    have ha := mday_all (leapN y)
    unfold daysN at hd
    have hlt : e < longN (leapN y) 12 := by omega
    have hr : civT (yday y + d + 1 - 61) = ((y : Int), ((12 : Nat) : Int), ((e + 1 : Nat) : Int)) := civT_of ⟨by omega, by omega, by omega, by omega⟩ (by unfold dayOf; omega)
    rw [hr]
    refine Ev.step (fun k => civil_l1 k _ _ _) (Ev.bind (ev_ref_long _ _) ?_)
    refine Ev.congr (f := fun _ => some _) (fun k => ?_) (Ev.now _)
    rw [leapI_nat, longM_nat, if_neg (by omega)]
    have := longN_le (leapN y) 12
    rw [w64 _ (by omega) (by omega)]
    rfl
  | succ n ih =>
    intro m e hn h1 h2 he
    by_cases hlt : e < longN (leapN y) m
    · have hr : civT (yday y + d + 1 - 61) = ((y : Int), (m : Int), ((e + 1 : Nat) : Int)) := civT_of ⟨by omega, by omega, by omega, by omega⟩ (by unfold dayOf; omega)
      rw [hr]
      refine Ev.step (fun k => civil_l1 k _ _ _) (Ev.bind (ev_ref_long _ _) ?_)
      refine Ev.congr (f := fun _ => some _) (fun k => ?_) (Ev.now _)
      rw [leapI_nat, longM_nat, if_neg (by omega)]
      have := longN_le (leapN y) m
      rw [w64 _ (by omega) (by omega)]
      rfl
    · have h := ih (m + 1) (e - longN (leapN y) m) (by omega) (by omega) (by omega) (by rw [mday_succ _ _ h1]; omega)
      refine Ev.step (fun k => civil_l1 k _ _ _) (Ev.bind (ev_ref_long _ _) ?_)
      refine Ev.congr (fun k => ?_) (Ev.bind (f := fun k t122 => rootcellarref15_Civil.l1 k (wrap64 ((e : Int) - t122)) (y : Int) (wrap64 ((m : Int) + 1))) (ev_ref_long (y : Int) (m : Int)) ?_)
      · rw [leapI_nat, longM_nat, if_pos (by omega)]
      have hde : d < 400 := by unfold daysN at hd; split at hd <;> omega
      refine Ev.congr (fun k => ?_) h
      rw [leapI_nat, longM_nat, w64 ((e : Int) - _) (by omega) (by omega), w64 ((m : Int) + 1) (by omega) (by omega)]
      congr 1
      omega
/-- The years' loop. -/
theorem ref_civil_y : ∀ (d y : Nat), 1 ≤ y → y + d ≤ 4000000000000 →
    Ev (fun k => rootcellarref15_Civil.l0 k (d : Int) (y : Int)) (civT (yday y + d + 1 - 61)) := by
  intro d
  induction d using Nat.strongRecOn with
  | _ d ih =>
    intro y hy hb
    refine Ev.step (fun k => civil_l0 k _ _) ?_
    have hdl : 365 ≤ daysN y ∧ daysN y ≤ 366 := by unfold daysN; split <;> omega
    by_cases hlt : d < daysN y
    · refine Ev.congr (fun k => ?_) (ref_civil_m y d hy hlt 11 1 d rfl (by omega) (by omega) (by show 0 + d = d; omega))
      rw [ref_days_eq]
      simp only [Option.bind_some]
      rw [if_neg (by omega)]
      rfl
    · have h := ih (d - daysN y) (by omega) (y + 1) (by omega) (by omega)
      rw [show yday (y + 1) = yday y + daysN y from rfl, show yday y + daysN y + (d - daysN y) + 1 - 61 = yday y + d + 1 - 61 by omega] at h
      refine Ev.congr (fun k => ?_) h
      rw [ref_days_eq]
      simp only [Option.bind_some]
      rw [if_pos (by omega), w64 ((d : Int) - _) (by omega) (by omega), w64 ((y : Int) + 1) (by omega) (by omega)]
      congr 1
      omega
theorem yday_cycle (y n : Nat) (h : 1 ≤ y) : yday (y + 400 * n) = yday y + 146097 * n := by
  obtain ⟨j, rfl⟩ : ∃ j, y = j + 1 := ⟨y - 1, by omega⟩
  have e := st_cycle j n
  rw [show j + 1 + 400 * n = (j + n * 400) + 1 by omega, yday_st, yday_st, e]
  omega
theorem yday_1970 : yday 1970 = 719528 := by rw [show (1970 : Nat) = 1969 + 1 from rfl, yday_st]; decide
theorem civS_T (d : Int) : civS d = if d < 0 ∨ 281474976710656 < d then (0, 0, 0) else civT (d.toNat + 719468) := rfl
theorem ref_civil (d : Int) : Ev (fun k => rootcellarref15_Civil.f k d) (civS d) := by
  rw [civS_T]
  by_cases h0 : d < 0
  · rw [if_pos (Or.inl h0)]
    refine Ev.congr (fun k => ?_) (Ev.step (f := fun _ => some (0, 0, 0)) (g := fun k => rootcellarref15_Civil.j0 k d true) (fun k => rfl) (Ev.now _))
    unfold rootcellarref15_Civil.f
    rw [if_pos h0]
  by_cases h1 : d > 281474976710656
  · rw [if_pos (Or.inr (by omega))]
    refine Ev.congr (fun k => ?_) (Ev.step (f := fun _ => some (0, 0, 0)) (g := fun k => rootcellarref15_Civil.j0 k d true) (fun k => rfl) (Ev.now _))
    unfold rootcellarref15_Civil.f
    rw [if_neg h0, decide_eq_true h1]
  rw [if_neg (by omega)]
  obtain ⟨n, rfl⟩ := Int.eq_ofNat_of_zero_le (show 0 ≤ d by omega)
  rw [Int.toNat_natCast]
  have hq : n / 146097 ≤ 2000000000 := by omega
  have h := ref_civil_y (n % 146097) (1970 + 400 * (n / 146097)) (by omega) (by omega)
  rw [yday_cycle _ _ (by omega), yday_1970, show 719528 + 146097 * (n / 146097) + n % 146097 + 1 - 61 = n + 719468 by omega] at h
  refine Ev.congr (f := fun k => rootcellarref15_Civil.j0 k (n : Int) false) (fun k => ?_) (Ev.step (fun k => ?_) h)
  · unfold rootcellarref15_Civil.f
    rw [if_neg h0, decide_eq_false h1]
  · simp only [rootcellarref15_Civil.j0]
    rw [if_neg (by decide)]
    have e1 : Int.tmod (n : Int) 146097 = ((n % 146097 : Nat) : Int) := tm n 146097
    have e2 : wrap64 (Int.tdiv (n : Int) 146097) = ((n / 146097 : Nat) : Int) := wd n 146097 (by omega)
    rw [e1, e2, w64 (400 * _) (by omega) (by omega), w64 _ (by omega) (by omega)]
    congr 1
end Go.Proofs.YtjoaiolacalemaaDoor.Pu
end
section
/- date.Day, and the reference to it, in plain words. -/

namespace Go.Proofs.YtjoaiolacalemaaDoor.Pu
set_option maxRecDepth 20000
open Go Go.Lib Go.RowKit Go.Proofs.YtjoaiolacalemaaDoor.Pl Go.Proofs.YtjoaiolacalemaaDoor.Fn Go.Proofs.YtjoaiolacalemaaDoorW.PrintWords
theorem mar_late : ∀ m : Fin 13, ∀ b : Bool, 3 ≤ m.val → mday b m.val + 306 = (153 * (m.val - 3) + 2) / 5 + (if b = true then 366 else 365) := by decide +kernel
theorem mar_early : ∀ m : Fin 3, ∀ b : Bool, 1 ≤ m.val → mday b m.val + 306 = (153 * (m.val + 9) + 2) / 5 := by decide +kernel
theorem dayOf_late (y m d : Nat) (h3 : 3 ≤ m) (h12 : m ≤ 12) (_ : 1 ≤ d) : dayOf y m d = stN y + 60 + (153 * (m - 3) + 2) / 5 + d := by
  have h1 := yday_st y
  rw [yday] at h1
  have h2 := mar_late ⟨m, by omega⟩ (leapN y) h3
  simp only at h2
  unfold dayOf
  omega
theorem dayOf_early (y m d : Nat) (hy : 1 ≤ y) (h1 : 1 ≤ m) (h2 : m < 3) : dayOf y m d = stN (y - 1) + 60 + (153 * (m + 9) + 2) / 5 + d := by
  have h1' := yday_st (y - 1)
  rw [show y - 1 + 1 = y by omega] at h1'
  have h2' := mar_early ⟨m, by omega⟩ (leapN y) h1
  simp only at h2'
  unfold dayOf
  omega
theorem st_form (Y : Nat) : stN Y = Y / 400 * 146097 + 365 * (Y % 400) + Y % 400 / 4 - Y % 400 / 100 := by
  have h := st_cycle (Y % 400) (Y / 400)
  rw [show Y % 400 + Y / 400 * 400 = Y by omega] at h
  rw [h]
  have hr : Y % 400 < 400 := Nat.mod_lt _ (by omega)
  generalize Y % 400 = r at *
  generalize Y / 400 = q at *
  have hs : stN r = 365 * r + r / 4 - r / 100 := by unfold stN; rw [Nat.div_eq_of_lt hr, Nat.add_zero]
  rw [hs]
  have : r / 100 ≤ r / 4 := Nat.div_le_div_left (by decide) (by decide)
  omega
theorem wa1 (a : Nat) (h : a + 1 < 9223372036854775808) : wrap64 ((a : Int) + 1) = ((a + 1 : Nat) : Int) := wa a 1 h
theorem ws1 (a : Nat) (h : 1 ≤ a) (h2 : a < 9223372036854775808) : wrap64 ((a : Int) - 1) = ((a - 1 : Nat) : Int) := ws a 1 h h2
theorem day_sum (q r a b p d S c : Nat) (hc : c = 719468) (hq : q ≤ 703687441777) (hr : r < 400) (hab : b ≤ a) (ha : a ≤ r) (hp : p ≤ 400) (_ : 1 ≤ d) (hd' : d ≤ 31) (hS : S = q * 146097 + 365 * r + a - b) (hlow : 719529 ≤ S + 60 + p + d) :
    wrap64 ((wrap64 ((wrap64 ((wrap64 ((wrap64 ((wrap64 ((wrap64 (((q * 146097 : Nat) : Int) + ((365 * r : Nat) : Int))) + (a : Int))) - (b : Int))) + (p : Int))) + (d : Int))) - 1)) - (c : Int)) = ((S + 60 + p + d - 719529 : Nat) : Int) := by
  have n1 : q * 146097 + 365 * r < 9223372036854775808 := by omega
  have n2 : q * 146097 + 365 * r + a < 9223372036854775808 := Nat.lt_of_le_of_lt (Nat.add_le_add (Nat.add_le_add (Nat.mul_le_mul hq (Nat.le_refl _)) (Nat.mul_le_mul (Nat.le_refl _) (Nat.le_of_lt hr))) (Nat.le_trans ha (Nat.le_of_lt hr))) (by decide)
  have n3 : b ≤ q * 146097 + 365 * r + a := by omega
  have n4 : S + p < 9223372036854775808 := by omega
  have n5 : S + p + d < 9223372036854775808 := by omega
  have n6 : 1 ≤ S + p + d := by omega
  have n7 : S + p + d - 1 < 9223372036854775808 := by omega
  have n8 : c ≤ S + p + d - 1 := by omega
  have n9 : S + p + d - 1 - c = S + 60 + p + d - 719529 := by omega
  have a1 := wa _ _ n1
  have a2 := wa _ _ n2
  have a3 := ws _ _ n3 n2
  have a4 := wa _ _ n4
  have a5 := wa _ _ n5
  have a6 := ws1 _ n6 n5
  have a7 := ws _ _ n8 n7
  rw [← hS] at a3
  rw [n9] at a7
  clear n1 n2 n3 n4 n5 n6 n7 n8 n9 hS hlow hc
  generalize (wrap64 : Int → Int) = W at *
  rw [a1, a2, a3, a4, a5, a6, a7]
theorem day_wrap (Y M d : Nat) (hY : Y ≤ 281474976710656) (hY0 : 1969 ≤ Y) (hM : M ≤ 11) (hd : 1 ≤ d) (hd' : d ≤ 31) (hM0 : Y = 1969 → 10 ≤ M) :
    wrap64 ((wrap64 ((wrap64 ((wrap64 ((wrap64 ((wrap64 ((wrap64 ((wrap64 ((wrap64 (Int.tdiv (Y : Int) 400)) * 146097)) + (wrap64 (365 * (Int.tmod (Y : Int) 400))))) + (wrap64 (Int.tdiv (Int.tmod (Y : Int) 400) 4)))) - (wrap64 (Int.tdiv (Int.tmod (Y : Int) 400) 100)))) + (wrap64 (Int.tdiv (wrap64 ((wrap64 (153 * (M : Int))) + 2)) 5)))) + (d : Int))) - 1)) - 719468) = ((stN Y + 60 + (153 * M + 2) / 5 + d - 719529 : Nat) : Int) := by
  have hr : Y % 400 < 400 := Nat.mod_lt _ (by omega)
  have hlow2 : 719529 ≤ stN Y + 60 + (153 * M + 2) / 5 + d := by
    by_cases h : Y = 1969
    · have := hM0 h
      subst h
      have h0 : stN 1969 = 719162 := by decide
      omega
    · have := st_mono 1970 (Y - 1970)
      rw [show 1970 + (Y - 1970) = Y by omega] at this
      have h0 : stN 1970 = 719527 := by decide
      omega
  have hm1 : 153 * M < 9223372036854775808 := by omega
  have hm2 : 153 * M + 2 < 9223372036854775808 := by omega
  have hq : Y / 400 ≤ 703687441777 := by omega
  have hq2 : Y / 400 * 146097 < 9223372036854775808 := by omega
  have hr2 : 365 * (Y % 400) < 9223372036854775808 := by omega
  have key := day_sum (Y / 400) (Y % 400) (Y % 400 / 4) (Y % 400 / 100) ((153 * M + 2) / 5) d (stN Y) 719468 rfl hq hr (Nat.div_le_div_left (by decide) (by decide)) (Nat.div_le_self _ _) (by omega) hd hd' (st_form Y) hlow2
  have e1 : Int.tmod (Y : Int) 400 = ((Y % 400 : Nat) : Int) := tm Y 400
  have e2 : wrap64 (Int.tdiv (Y : Int) 400) = ((Y / 400 : Nat) : Int) := wd Y 400 (Nat.lt_of_le_of_lt hY (by decide))
  have f1 : wrap64 (((Y / 400 : Nat) : Int) * 146097) = ((Y / 400 * 146097 : Nat) : Int) := wm _ 146097 hq2
  have f2 : wrap64 (365 * ((Y % 400 : Nat) : Int)) = ((365 * (Y % 400) : Nat) : Int) := wm 365 _ hr2
  have f3 : wrap64 (Int.tdiv ((Y % 400 : Nat) : Int) 4) = ((Y % 400 / 4 : Nat) : Int) := wd _ 4 (Nat.lt_trans hr (by decide))
  have f4 : wrap64 (Int.tdiv ((Y % 400 : Nat) : Int) 100) = ((Y % 400 / 100 : Nat) : Int) := wd _ 100 (Nat.lt_trans hr (by decide))
  have f5 : wrap64 (153 * (M : Int)) = ((153 * M : Nat) : Int) := wm 153 M hm1
  have f6 : wrap64 (((153 * M : Nat) : Int) + 2) = ((153 * M + 2 : Nat) : Int) := wa _ 2 hm2
  have f7 : wrap64 (Int.tdiv ((153 * M + 2 : Nat) : Int) 5) = (((153 * M + 2) / 5 : Nat) : Int) := wd _ 5 hm2
  rw [e1, e2, f1, f2, f3, f4, f5, f6, f7]
  exact key
/-- A day's number, if it is one. -/
def dayF (n : Nat) : Int × Bool := if 281474976710656 < n then (0, false) else ((n : Int), true)
/-- Day, of any date. -/
def dayS (y m d : Int) : Int × Bool := if y < 1970 ∨ 1000000000000 < y ∨ d < 1 ∨ longM (leapI y) m < d then (0, false) else dayF (dayOf y.toNat m.toNat d.toNat - 719529)
theorem long_range (b : Bool) (m : Int) (h : 1 ≤ longM b m) : 1 ≤ m ∧ m ≤ 12 := by
  unfold longM at h
  by_cases h1 : m < 1
  · rw [if_pos h1] at h; omega
  rw [if_neg h1] at h
  by_cases h2 : 12 < m
  · rw [if_pos h2] at h; omega
  omega
theorem day_j (k y m d : Nat) (hy0 : 1970 ≤ y) (hy1 : y ≤ 281474976710656) (hv : valid y m d) :
    date_Day.j0 (k + 1) (y : Int) (m : Int) (d : Int) false = some (dayF (dayOf y m d - 719529)) := by
  obtain ⟨h1, h2, h3, h4⟩ := hv
  have h5 := longN_le (leapN y) m
  have w3 : wrap64 ((m : Int) - 3) = (m : Int) - 3 := w64 _ (by omega) (by omega)
  simp only [date_Day.j0]
  rw [if_neg (by decide), w3]
  by_cases hm : m < 3
  · have w12 : wrap64 ((m : Int) - 3 + 12) = ((m + 9 : Nat) : Int) := by rw [w64 _ (by omega) (by omega)]; omega
    have wy : wrap64 ((y : Int) - 1) = ((y - 1 : Nat) : Int) := ws y 1 (by omega) (by omega)
    rw [if_pos (by omega), w12, wy, day_wrap (y - 1) (m + 9) d (by omega) (by omega) (by omega) h3 (by omega) (by omega), ← dayOf_early y m d (by omega) h1 hm]
    unfold dayF
    by_cases hb : 281474976710656 < dayOf y m d - 719529
    · rw [if_pos hb, if_pos (by omega)]
    · rw [if_neg hb, if_neg (by omega)]
  · have wm3 : (m : Int) - 3 = ((m - 3 : Nat) : Int) := by omega
    rw [if_neg (by omega), wm3, day_wrap y (m - 3) d (by omega) (by omega) (by omega) h3 (by omega) (by omega), ← dayOf_late y m d (by omega) h2 h3]
    unfold dayF
    by_cases hb : 281474976710656 < dayOf y m d - 719529
    · rw [if_pos hb, if_pos (by omega)]
    · rw [if_neg hb, if_neg (by omega)]
theorem day_far (y m d : Nat) (h : 1000000000000 < y) : dayF (dayOf y m d - 719529) = (0, false) := by
  have h1 := yday_st (y - 1)
  rw [show y - 1 + 1 = y by omega] at h1
  have h2 : 365 * (y - 1) ≤ stN (y - 1) := by
    unfold stN
    have : (y - 1) / 100 ≤ (y - 1) / 4 := Nat.div_le_div_left (by decide) (by decide)
    omega
  unfold dayF
  rw [if_pos (by unfold dayOf; omega)]
theorem day_eq (y m d : Int) (k : Nat) : date_Day.f (k + 1) y m d = some (dayS y m d) := by
  unfold date_Day.f dayS
  have no : date_Day.j0 (k + 1) y m d true = some (0, false) := rfl
  by_cases c1 : y < 1970
  · rw [if_pos c1, if_pos (Or.inl c1)]; exact no
  rw [if_neg c1]
  by_cases c2 : y > 281474976710656
  · rw [if_pos c2, if_pos (Or.inr (Or.inl (by omega)))]; exact no
  rw [if_neg c2]
  by_cases c3 : d < 1
  · rw [if_pos c3, if_pos (Or.inr (Or.inr (Or.inl c3)))]; exact no
  rw [if_neg c3, long_eq]
  simp only [Option.bind_some]
  by_cases c4 : d > longM (leapI y) m
  · rw [decide_eq_true c4, if_pos (Or.inr (Or.inr (Or.inr (by omega))))]; exact no
  rw [decide_eq_false c4]
  obtain ⟨m1, m2⟩ := long_range (leapI y) m (by omega)
  obtain ⟨Y, rfl⟩ := Int.eq_ofNat_of_zero_le (show 0 ≤ y by omega)
  obtain ⟨M, rfl⟩ := Int.eq_ofNat_of_zero_le (show 0 ≤ m by omega)
  obtain ⟨D, rfl⟩ := Int.eq_ofNat_of_zero_le (show 0 ≤ d by omega)
  rw [leapI_nat, longM_nat] at c4
  rw [leapI_nat, longM_nat, day_j k Y M D (by omega) (by omega) ⟨by omega, by omega, by omega, by omega⟩]
  simp only [Int.toNat_natCast]
  by_cases c5 : 1000000000000 < Y
  · rw [if_pos (Or.inr (Or.inl (by omega))), day_far _ _ _ c5]
  · rw [if_neg (by omega)]
theorem ev_day (y m d : Int) : Ev (fun k => date_Day.f k y m d) (dayS y m d) :=
  ⟨1, fun k hk => by obtain ⟨k, rfl⟩ : ∃ m, k = m + 1 := ⟨k - 1, by omega⟩; exact day_eq y m d k⟩
theorem rday_l0 (k : Nat) (x0 x1 x2 x8 x9 : Int) : rootcellarref15_Day.l0 (k + 1) x0 x1 x2 x8 x9 = if x9 < x0 then ((rootcellarref15_days.f x9).bind fun t124 => (rootcellarref15_Day.l0 k x0 x1 x2 (wrap64 (x8 + t124)) (wrap64 (x9 + 1)))) else (rootcellarref15_Day.l1 k x0 x1 x2 x8 1) := rfl
theorem rday_l1 (k : Nat) (x0 x1 x2 x8 x10 : Int) : rootcellarref15_Day.l1 (k + 1) x0 x1 x2 x8 x10 = if x10 < x1 then ((rootcellarref15_Long.f k x0 x10).bind fun t125 => (rootcellarref15_Day.l1 k x0 x1 x2 (wrap64 (x8 + t125)) (wrap64 (x10 + 1)))) else (if (wrap64 ((wrap64 (x8 + x2)) - 1)) > 281474976710656 then (some (0, false)) else (some (wrap64 ((wrap64 (x8 + x2)) - 1), true))) := rfl
theorem mday_le (b : Bool) (m : Nat) (h : m ≤ 12) : mday b m ≤ 366 := by
  have := mday_end ⟨m, by omega⟩ b
  simp only at this
  split at this <;> omega
theorem yday_bound (y : Nat) (h0 : 1970 ≤ y) (h : y ≤ 1000000000000) : 719528 ≤ yday y ∧ yday y ≤ 400000000000000 := by
  have h1 := yday_st (y - 1)
  rw [show y - 1 + 1 = y by omega] at h1
  have h2 := yday_le 1970 (y - 1970)
  rw [show 1970 + (y - 1970) = y by omega, yday_1970] at h2
  have h3 : stN (y - 1) ≤ 367 * (y - 1) := by
    unfold stN
    have := Nat.div_le_self (y - 1) 4
    have := Nat.div_le_self (y - 1) 400
    omega
  omega
theorem ref_day_m (y m d : Nat) (hy0 : 1970 ≤ y) (hy1 : y ≤ 1000000000000) (hv : valid y m d) : ∀ (j i : Nat), i + j = m → 1 ≤ i →
    Ev (fun k => rootcellarref15_Day.l1 k (y : Int) (m : Int) (d : Int) ((yday y - 719528 + mday (leapN y) i : Nat) : Int) (i : Int)) (dayF (dayOf y m d - 719529)) := by
  obtain ⟨h1, h2, h3, h4⟩ := hv
  obtain ⟨b1, b2⟩ := yday_bound y hy0 hy1
  have hl := longN_le (leapN y) m
  intro j
  induction j with
  | zero =>
    intro i hi h1'
    obtain rfl : i = m := by omega
    have hm := mday_le (leapN y) i h2
    refine Ev.step (fun k => rday_l1 k _ _ _ _ _) (Ev.congr (f := fun _ => some _) (fun k => ?_) (Ev.now _))
    rw [if_neg (by omega), wa _ d (by omega), ws1 _ (by omega) (by omega)]
    unfold dayF dayOf
    by_cases hb : 281474976710656 < yday y + mday (leapN y) i + d - 719529
    · rw [if_pos hb, if_pos (by omega)]
    · rw [if_neg hb, if_neg (by omega)]
      rw [show yday y - 719528 + mday (leapN y) i + d - 1 = yday y + mday (leapN y) i + d - 719529 by omega]
  | succ j ih =>
    intro i hi h1'
    have h := ih (i + 1) (by omega) (by omega)
    have hm := mday_le (leapN y) i (by omega)
    have hli := longN_le (leapN y) i
    refine Ev.step (fun k => rday_l1 k _ _ _ _ _) (Ev.congr (fun k => if_pos (by omega)) (Ev.bind (ev_ref_long (y : Int) (i : Int)) (Ev.congr (fun k => ?_) h)))
    rw [leapI_nat, longM_nat, wa _ _ (by omega), wa1 i (by omega), mday_succ _ _ h1', Nat.add_assoc]
theorem ref_day_y (y m d : Nat) (hy0 : 1970 ≤ y) (hy1 : y ≤ 1000000000000) (hv : valid y m d) : ∀ (j c : Nat), c + j = y → 1970 ≤ c →
    Ev (fun k => rootcellarref15_Day.l0 k (y : Int) (m : Int) (d : Int) ((yday c - 719528 : Nat) : Int) (c : Int)) (dayF (dayOf y m d - 719529)) := by
  intro j
  induction j with
  | zero =>
    intro c hc h0
    obtain rfl : c = y := by omega
    have h := ref_day_m c m d hy0 hy1 hv (m - 1) 1 (by have := hv.1; omega) (by omega)
    rw [show mday (leapN c) 1 = 0 from rfl, Nat.add_zero] at h
    exact Ev.step (fun k => rday_l0 k _ _ _ _ _) (Ev.congr (fun k => if_neg (by omega)) h)
  | succ j ih =>
    intro c hc h0
    have h := ih (c + 1) (by omega) (by omega)
    obtain ⟨b1, b2⟩ := yday_bound c h0 (by omega)
    have hdl : 365 ≤ daysN c ∧ daysN c ≤ 366 := by unfold daysN; split <;> omega
    refine Ev.step (fun k => rday_l0 k _ _ _ _ _) (Ev.congr (fun k => ?_) h)
    rw [if_pos (by omega), ref_days_eq]
    simp only [Option.bind_some]
    rw [wa _ _ (by omega), wa1 c (by omega), show yday (c + 1) - 719528 = yday c - 719528 + daysN c from by rw [show yday (c + 1) = yday c + daysN c from rfl]; omega]
theorem ref_day (y m d : Int) : Ev (fun k => rootcellarref15_Day.f k y m d) (dayS y m d) := by
  unfold dayS
  have no : Ev (fun k => rootcellarref15_Day.j0 k y m d true) (0, false) := Ev.step (f := fun _ => some (0, false)) (fun k => rfl) (Ev.now _)
  by_cases c1 : y < 1970
  · rw [if_pos (Or.inl c1)]; exact Ev.congr (fun k => if_pos c1) no
  by_cases c2 : y > 1000000000000
  · rw [if_pos (Or.inr (Or.inl (by omega)))]; exact Ev.congr (fun k => by unfold rootcellarref15_Day.f; rw [if_neg c1, if_pos c2]) no
  by_cases c3 : d < 1
  · rw [if_pos (Or.inr (Or.inr (Or.inl c3)))]; exact Ev.congr (fun k => by unfold rootcellarref15_Day.f; rw [if_neg c1, if_neg c2, if_pos c3]) no
  refine Ev.congr (f := fun k => (rootcellarref15_Long.f k y m).bind fun t123 => (rootcellarref15_Day.j0 k y m d (decide (d > t123)))) (fun k => by unfold rootcellarref15_Day.f; rw [if_neg c1, if_neg c2, if_neg c3]) (Ev.bind (ev_ref_long y m) ?_)
  by_cases c4 : d > longM (leapI y) m
  · rw [if_pos (Or.inr (Or.inr (Or.inr (by omega)))), decide_eq_true c4]; exact no
  rw [if_neg (by omega), decide_eq_false c4]
  obtain ⟨m1, m2⟩ := long_range (leapI y) m (by omega)
  obtain ⟨Y, rfl⟩ := Int.eq_ofNat_of_zero_le (show 0 ≤ y by omega)
  obtain ⟨M, rfl⟩ := Int.eq_ofNat_of_zero_le (show 0 ≤ m by omega)
  obtain ⟨D, rfl⟩ := Int.eq_ofNat_of_zero_le (show 0 ≤ d by omega)
  rw [leapI_nat, longM_nat] at c4
  simp only [Int.toNat_natCast]
  have hq : (Y - 1970) / 400 * 400 ≤ Y - 1970 := Nat.div_mul_le_self _ _
  have h := ref_day_y Y M D (by omega) (by omega) ⟨by omega, by omega, by omega, by omega⟩ (Y - (1970 + 400 * ((Y - 1970) / 400))) (1970 + 400 * ((Y - 1970) / 400)) (by omega) (by omega)
  rw [yday_cycle _ _ (by omega), yday_1970] at h
  refine Ev.step (fun k => ?_) h
  simp only [rootcellarref15_Day.j0]
  have n1 : (Y - 1970) / 400 * 146097 < 9223372036854775808 := by omega
  have n2 : (Y - 1970) / 400 * 400 < 9223372036854775808 := by omega
  have n3 : 1970 + (Y - 1970) / 400 * 400 < 9223372036854775808 := by omega
  have n4 : (Y - 1970) / 400 * 146097 = 719528 + 146097 * ((Y - 1970) / 400) - 719528 := by omega
  have n5 : 1970 + (Y - 1970) / 400 * 400 = 1970 + 400 * ((Y - 1970) / 400) := by omega
  have f1 : wrap64 ((Y : Int) - 1970) = ((Y - 1970 : Nat) : Int) := ws Y 1970 (by omega) (by omega)
  have f2 : wrap64 (Int.tdiv ((Y - 1970 : Nat) : Int) 400) = (((Y - 1970) / 400 : Nat) : Int) := wd _ 400 (by clear f1; omega)
  have f3 : wrap64 ((((Y - 1970) / 400 : Nat) : Int) * 146097) = (((Y - 1970) / 400 * 146097 : Nat) : Int) := wm _ 146097 n1
  have f4 : wrap64 ((((Y - 1970) / 400 : Nat) : Int) * 400) = (((Y - 1970) / 400 * 400 : Nat) : Int) := wm _ 400 n2
  have f5 : wrap64 (1970 + (((Y - 1970) / 400 * 400 : Nat) : Int)) = ((1970 + (Y - 1970) / 400 * 400 : Nat) : Int) := wa 1970 _ n3
  rw [if_neg (by decide), f1, f2, f3, f4, f5, n4, n5]
end Go.Proofs.YtjoaiolacalemaaDoor.Pu
end
section
/- date.Stamp, date.Bucket, and the references to them, in plain words; chapter 15's examples. -/






namespace Go.Proofs.YtjoaiolacalemaaDoor.Pu
set_option maxRecDepth 20000
open Go Go.Lib Go.RowKit Go.Proofs.YtjoaiolacalemaaDoor.Pl Go.Proofs.YtjoaiolacalemaaDoor.Lf Go.Proofs.YtjoaiolacalemaaDoor.Fn Go.Proofs.YtjoaiolacalemaaDoorW.PrintWords
theorem padL_nat (n d : Nat) : Lf.padL (n : Int) (d : Int) = padN n d := by
  unfold Lf.padL padN
  have e : Lib.itoa (n : Int) = decDigits n := by unfold Lib.itoa; rw [if_neg (by omega), Int.toNat_natCast]
  have e2 : ((d : Int) - (((decDigits n).length : Nat) : Int)).toNat = d - (decDigits n).length := by omega
  rw [e, e2]
  have := repeatL_replicate 48 1 (d - (decDigits n).length)
  rw [Nat.mul_one] at this
  rw [← this]; rfl
theorem padded_eq (n d : Nat) (hn : n < 9223372036854775808) (hd : d ≤ 100) : date_padded.f (n : Int) (d : Int) = some (ba (padN n d)) := by
  unfold date_padded.f
  rw [if_pos ⟨⟨by omega, by omega⟩, by omega, by omega⟩, padL_nat]
  rfl
theorem pad4 (n : Nat) (hn : n < 9223372036854775808) : date_padded.f (n : Int) 4 = some (ba (padN n 4)) := padded_eq n 4 hn (by omega)
theorem pad2 (n : Nat) (hn : n < 9223372036854775808) : date_padded.f (n : Int) 2 = some (ba (padN n 2)) := padded_eq n 2 hn (by omega)
def digs10 : List UInt8 := [48, 49, 50, 51, 52, 53, 54, 55, 56, 57]
theorem dig_at : ∀ r : Fin 10, (digs10.drop r.val).take (r.val + 1 - r.val) = [UInt8.ofNat (48 + r.val)] := by decide +kernel
/-- A digit, as the program cuts it. -/
theorem dig_cut (r : Nat) (h : r < 10) : (⟨#[48, 49, 50, 51, 52, 53, 54, 55, 56, 57]⟩ : ByteArray).extract ((r : Nat) : Int).toNat (((r + 1 : Nat) : Int)).toNat = ba [UInt8.ofNat (48 + r)] := by
  have e : (⟨#[48, 49, 50, 51, 52, 53, 54, 55, 56, 57]⟩ : ByteArray) = ba digs10 := rfl
  rw [e, ba_extract, Int.toNat_natCast, Int.toNat_natCast]
  exact congrArg ba (dig_at ⟨r, h⟩)
theorem digits_l0 (k : Nat) (x0 x1 : Int) (x5 : ByteArray) : rootcellarref15_digits.l0 (k + 1) x0 x1 x5 = if x0 > 0 then (if 0 ≤ (Int.tmod x0 10) then (if (Int.tmod x0 10) ≤ (wrap64 ((Int.tmod x0 10) + 1)) then (if (wrap64 ((Int.tmod x0 10) + 1)) ≤ 10 then (if ((⟨#[48, 49, 50, 51, 52, 53, 54, 55, 56, 57]⟩ : ByteArray).extract ((Int.tmod x0 10) : Int).toNat ((wrap64 ((Int.tmod x0 10) + 1)) : Int).toNat).size + x5.size ≤ 9223372036854775807 then (rootcellarref15_digits.l0 k (wrap64 (Int.tdiv x0 10)) x1 (((⟨#[48, 49, 50, 51, 52, 53, 54, 55, 56, 57]⟩ : ByteArray).extract ((Int.tmod x0 10) : Int).toNat ((wrap64 ((Int.tmod x0 10) + 1)) : Int).toNat) ++ x5)) else (none)) else (none)) else (none)) else (none)) else (if (x5.size : Int) < x1 then (if 0 ≤ (Int.tmod x0 10) then (if (Int.tmod x0 10) ≤ (wrap64 ((Int.tmod x0 10) + 1)) then (if (wrap64 ((Int.tmod x0 10) + 1)) ≤ 10 then (if ((⟨#[48, 49, 50, 51, 52, 53, 54, 55, 56, 57]⟩ : ByteArray).extract ((Int.tmod x0 10) : Int).toNat ((wrap64 ((Int.tmod x0 10) + 1)) : Int).toNat).size + x5.size ≤ 9223372036854775807 then (rootcellarref15_digits.l0 k (wrap64 (Int.tdiv x0 10)) x1 (((⟨#[48, 49, 50, 51, 52, 53, 54, 55, 56, 57]⟩ : ByteArray).extract ((Int.tmod x0 10) : Int).toNat ((wrap64 ((Int.tmod x0 10) + 1)) : Int).toNat) ++ x5)) else (none)) else (none)) else (none)) else (none)) else (some x5)) := rfl
theorem dig_step (k n least : Nat) (acc : List UInt8) (hn : n < 9223372036854775808) (ha : acc.length ≤ 1000) (h : 0 < n ∨ acc.length < least) :
    rootcellarref15_digits.l0 (k + 1) (n : Int) (least : Int) (ba acc) = rootcellarref15_digits.l0 k ((n / 10 : Nat) : Int) (least : Int) (ba (UInt8.ofNat (48 + n % 10) :: acc)) := by
  have e1 : Int.tmod (n : Int) 10 = ((n % 10 : Nat) : Int) := tm n 10
  have e2 : wrap64 (Int.tdiv (n : Int) 10) = ((n / 10 : Nat) : Int) := wd n 10 hn
  have hr : n % 10 < 10 := Nat.mod_lt _ (by omega)
  have e3 : wrap64 (((n % 10 : Nat) : Int) + 1) = ((n % 10 + 1 : Nat) : Int) := wa1 _ (by omega)
  have e4 := dig_cut (n % 10) hr
  have c1 : (0 : Int) ≤ ((n % 10 : Nat) : Int) := by omega
  have c2 : ((n % 10 : Nat) : Int) ≤ ((n % 10 + 1 : Nat) : Int) := by omega
  have c3 : ((n % 10 + 1 : Nat) : Int) ≤ 10 := by omega
  have c4 : (ba [UInt8.ofNat (48 + n % 10)]).size + (ba acc).size ≤ 9223372036854775807 := by rw [ba_size, ba_size]; simp; omega
  have c5 : ba [UInt8.ofNat (48 + n % 10)] ++ ba acc = ba (UInt8.ofNat (48 + n % 10) :: acc) := by rw [ba_append]; rfl
  rw [digits_l0, e1, e2, e3, e4, if_pos c1, if_pos c2, if_pos c3, if_pos c4, c5]
  by_cases h0 : 0 < n
  · rw [if_pos (show (n : Int) > 0 by omega)]
  · rw [if_neg (show ¬ (n : Int) > 0 by omega), if_pos (by rw [ba_size]; omega)]
theorem ref_digits_l (n : Nat) : ∀ (least : Nat) (acc : List UInt8), n < 9223372036854775808 → acc.length + nDigits n ≤ 900 → least ≤ 100 → acc.length < least ∨ 0 < n →
    Ev (fun k => rootcellarref15_digits.l0 k (n : Int) (least : Int) (ba acc)) (ba (padN n (least - acc.length) ++ acc)) := by
  induction n using Nat.strongRecOn with
  | _ n ih =>
    intro least acc hn ha hle h
    have hp := nDigits_pos n
    by_cases hs : n < 10
    · -- the last digit that is no nought; then noughts
      have zeros : ∀ (j : Nat) (acc : List UInt8), acc.length + j = least ∨ (j = 0 ∧ least ≤ acc.length) → acc.length ≤ 900 → Ev (fun k => rootcellarref15_digits.l0 k (0 : Int) (least : Int) (ba acc)) (ba (List.replicate j 48 ++ acc)) := by
        intro j
        induction j with
        | zero =>
          intro acc hj h9
          refine Ev.step (f := fun _ => some (ba acc)) (fun k => ?_) (Ev.now _)
          rw [digits_l0, if_neg (by omega), if_neg (by rw [ba_size]; omega)]
        | succ j ihj =>
          intro acc hj h9
          have r := ihj (48 :: acc) (by left; simp; omega) (by simp; omega)
          rw [show List.replicate (j + 1) (48 : UInt8) ++ acc = List.replicate j 48 ++ 48 :: acc by rw [List.replicate_succ']; simp]
          refine Ev.step (fun k => ?_) r
          exact dig_step k 0 least acc (by omega) (by omega) (Or.inr (by omega))
      rw [nDigits_small hs] at ha
      have r := zeros (least - (acc.length + 1)) (UInt8.ofNat (48 + n % 10) :: acc) (by simp; omega) (by simp; omega)
      have e : padN n (least - acc.length) ++ acc = List.replicate (least - (acc.length + 1)) 48 ++ UInt8.ofNat (48 + n % 10) :: acc := by
        unfold padN
        rw [decDigits_one hs, Nat.mod_eq_of_lt hs, List.append_assoc]
        congr 2
      rw [e]
      refine Ev.step (fun k => ?_) r
      have s := dig_step k n least acc hn (by omega) (by omega)
      rw [Nat.div_eq_of_lt hs] at s
      exact s
    · rw [nDigits_big hs] at ha
      have r := ih (n / 10) (by omega) least (UInt8.ofNat (48 + n % 10) :: acc) (by omega) (by simp; omega) hle (Or.inr (by omega))
      have e : padN n (least - acc.length) ++ acc = padN (n / 10) (least - (UInt8.ofNat (48 + n % 10) :: acc).length) ++ UInt8.ofNat (48 + n % 10) :: acc := by
        unfold padN
        rw [decDigits_length, decDigits_length, nDigits_big hs]
        conv => lhs; rw [decDigits, dif_neg hs]
        simp only [List.append_assoc, List.singleton_append, List.length_cons]
        congr 2
        omega
      rw [e]
      refine Ev.step (fun k => ?_) r
      exact dig_step k n least acc hn (by omega) (by omega)
theorem nDigits_19 (n : Nat) (hn : n < 9223372036854775808) : nDigits n ≤ 20 := by
  have := nDigits_mono n 9223372036854775807 (by omega)
  have e : nDigits 9223372036854775807 = 19 := nDigits_unique 18 _ (by decide) (by decide)
  omega
theorem ref_digits (n least : Nat) (hn : n < 9223372036854775808) (h1 : 1 ≤ least) (h2 : least ≤ 100) : Ev (fun k => rootcellarref15_digits.f k (n : Int) (least : Int)) (ba (padN n least)) := by
  have := ref_digits_l n least [] hn (by have := nDigits_19 n hn; simp; omega) h2 (by simp; omega)
  rw [List.append_nil] at this
  exact this
theorem rdig4 (n : Nat) (hn : n < 9223372036854775808) : Ev (fun k => rootcellarref15_digits.f k (n : Int) 4) (ba (padN n 4)) := ref_digits n 4 hn (by omega) (by omega)
theorem rdig2 (n : Nat) (hn : n < 9223372036854775808) : Ev (fun k => rootcellarref15_digits.f k (n : Int) 2) (ba (padN n 2)) := ref_digits n 2 hn (by omega) (by omega)
/-- A second's stamp. -/
def dateL (y m d : Nat) : List UInt8 := padN y 4 ++ [45] ++ padN m 2 ++ [45] ++ padN d 2
def clockL (l : Nat) : List UInt8 := [32] ++ padN (l / 3600) 2 ++ [58] ++ padN (l / 60 % 60) 2 ++ [58] ++ padN (l % 60) 2
def stampL (sec : Nat) : List UInt8 := dateL (civN (sec / 86400 + 719468)).1 (civN (sec / 86400 + 719468)).2.1 (civN (sec / 86400 + 719468)).2.2 ++ clockL (sec % 86400)
theorem civ_bounds (t : Nat) : 1 ≤ (civN t).2.1 ∧ (civN t).2.1 ≤ 12 ∧ 1 ≤ (civN t).2.2 ∧ (civN t).2.2 ≤ 31 ∧ (civN t).1 ≤ t + 61 := by
  obtain ⟨v, e⟩ := civ_ok t
  have h1 := dayOf_gt v
  have hl := longN_le (leapN (civN t).1) (civN t).2.1
  obtain ⟨v1, v2, v3, v4⟩ := v
  have hy : ∀ y, y ≤ yday y := by
    intro y
    induction y with
    | zero => exact Nat.zero_le _
    | succ y ih => rw [yday]; split <;> omega
  have := hy (civN t).1
  exact ⟨v1, v2, v3, by omega, by omega⟩
theorem u64n (n : Nat) (h : n < 18446744073709551616) : IntKind.u64.wrap (n : Int) = (n : Int) := by
  simp [IntKind.wrap, IntKind.bits, IntKind.signed]; omega
theorem day_arg (sec : Nat) (h : sec < 18446744073709551616) : wrap64 (IntKind.u64.wrap (Int.tdiv (sec : Int) 86400)) = ((sec / 86400 : Nat) : Int) := by
  have e : Int.tdiv (sec : Int) 86400 = ((sec / 86400 : Nat) : Int) := td sec 86400
  have h2 : sec / 86400 < 9223372036854775808 := by omega
  rw [e, u64n _ (by omega), wN _ h2]
theorem left_arg (sec : Nat) : wrap64 (Int.tmod (sec : Int) 86400) = ((sec % 86400 : Nat) : Int) := by
  have e : Int.tmod (sec : Int) 86400 = ((sec % 86400 : Nat) : Int) := tm sec 86400
  rw [e]; exact wN _ (Nat.lt_trans (Nat.mod_lt _ (by omega)) (by decide))
theorem civS_day (n : Nat) (h : n ≤ 281474976710656) : civS (n : Int) = (((civN (n + 719468)).1 : Int), ((civN (n + 719468)).2.1 : Int), ((civN (n + 719468)).2.2 : Int)) := by
  unfold civS
  rw [if_neg (by omega), Int.toNat_natCast]
theorem ba_add (a b : List UInt8) : ba a ++ ba b = ba (a ++ b) := ba_append a b
theorem s45 : (⟨#[45]⟩ : ByteArray) = ba [45] := rfl
theorem s32 : (⟨#[32]⟩ : ByteArray) = ba [32] := rfl
theorem s58 : (⟨#[58]⟩ : ByteArray) = ba [58] := rfl
theorem stamp_pieces (y m d a b c : Nat) :
    ba (padN y 4) ++ ba [45] ++ ba (padN m 2) ++ ba [45] ++ ba (padN d 2) ++ ba [32] ++ ba (padN a 2) ++ ba [58] ++ ba (padN b 2) ++ ba [58] ++ ba (padN c 2) =
      ba (dateL y m d ++ ([32] ++ padN a 2 ++ [58] ++ padN b 2 ++ [58] ++ padN c 2)) := by
  unfold dateL
  simp only [ba_append, List.append_assoc]
theorem pad_len (n w : Nat) (hn : n < 9223372036854775808) (hw : w ≤ 4) : (padN n w).length ≤ 100 := by
  have := nDigits_19 n hn
  rw [padN_length]; omega
theorem stamp_form (y m d a b c : Nat) (hy : y < 9223372036854775808) (hm : m < 9223372036854775808) (hd : d < 9223372036854775808) (ha : a < 9223372036854775808) (hb : b < 9223372036854775808) (hc : c < 9223372036854775808) :
    ((date_padded.f (y : Int) 4).bind fun t105 => (if t105.size + 1 ≤ 9223372036854775807 then ((date_padded.f (m : Int) 2).bind fun t106 => (if t105.size + 1 + t106.size ≤ 9223372036854775807 then (if t105.size + 1 + t106.size + 1 ≤ 9223372036854775807 then ((date_padded.f (d : Int) 2).bind fun t107 => (if t105.size + 1 + t106.size + 1 + t107.size ≤ 9223372036854775807 then (if t105.size + 1 + t106.size + 1 + t107.size + 1 ≤ 9223372036854775807 then ((date_padded.f (a : Int) 2).bind fun t108 => (if t105.size + 1 + t106.size + 1 + t107.size + 1 + t108.size ≤ 9223372036854775807 then (if t105.size + 1 + t106.size + 1 + t107.size + 1 + t108.size + 1 ≤ 9223372036854775807 then ((date_padded.f (b : Int) 2).bind fun t109 => (if t105.size + 1 + t106.size + 1 + t107.size + 1 + t108.size + 1 + t109.size ≤ 9223372036854775807 then (if t105.size + 1 + t106.size + 1 + t107.size + 1 + t108.size + 1 + t109.size + 1 ≤ 9223372036854775807 then ((date_padded.f (c : Int) 2).bind fun t110 => (if t105.size + 1 + t106.size + 1 + t107.size + 1 + t108.size + 1 + t109.size + 1 + t110.size ≤ 9223372036854775807 then (some ((((((((((t105 ++ (⟨#[45]⟩ : ByteArray)) ++ t106) ++ (⟨#[45]⟩ : ByteArray)) ++ t107) ++ (⟨#[32]⟩ : ByteArray)) ++ t108) ++ (⟨#[58]⟩ : ByteArray)) ++ t109) ++ (⟨#[58]⟩ : ByteArray)) ++ t110)) else (none))) else (none)) else (none))) else (none)) else (none))) else (none)) else (none))) else (none)) else (none))) else (none))) = some (ba (dateL y m d ++ ([32] ++ padN a 2 ++ [58] ++ padN b 2 ++ [58] ++ padN c 2))) := by
  have ly := pad_len y 4 hy (by omega)
  have lm := pad_len m 2 hm (by omega)
  have ld := pad_len d 2 hd (by omega)
  have la := pad_len a 2 ha (by omega)
  have lb := pad_len b 2 hb (by omega)
  have lc := pad_len c 2 hc (by omega)
  rw [pad4 y hy, pad2 m hm, pad2 d hd, pad2 a ha, pad2 b hb, pad2 c hc]
  simp only [Option.bind_some, ba_size]
  rw [if_pos (by omega), if_pos (by omega), if_pos (by omega), if_pos (by omega), if_pos (by omega), if_pos (by omega), if_pos (by omega), if_pos (by omega), if_pos (by omega), if_pos (by omega)]
  rw [s45, s32, s58, stamp_pieces y m d a b c]
theorem ref_stamp_form (y m d a b c : Nat) (hy : y < 9223372036854775808) (hm : m < 9223372036854775808) (hd : d < 9223372036854775808) (ha : a < 9223372036854775808) (hb : b < 9223372036854775808) (hc : c < 9223372036854775808) :
    Ev (fun k => ((rootcellarref15_digits.f k (y : Int) 4).bind fun t170 => (if t170.size + 1 ≤ 9223372036854775807 then ((rootcellarref15_digits.f k (m : Int) 2).bind fun t171 => (if t170.size + 1 + t171.size ≤ 9223372036854775807 then (if t170.size + 1 + t171.size + 1 ≤ 9223372036854775807 then ((rootcellarref15_digits.f k (d : Int) 2).bind fun t172 => (if t170.size + 1 + t171.size + 1 + t172.size ≤ 9223372036854775807 then (if t170.size + 1 + t171.size + 1 + t172.size + 1 ≤ 9223372036854775807 then ((rootcellarref15_digits.f k (a : Int) 2).bind fun t173 => (if t170.size + 1 + t171.size + 1 + t172.size + 1 + t173.size ≤ 9223372036854775807 then (if t170.size + 1 + t171.size + 1 + t172.size + 1 + t173.size + 1 ≤ 9223372036854775807 then ((rootcellarref15_digits.f k (b : Int) 2).bind fun t174 => (if t170.size + 1 + t171.size + 1 + t172.size + 1 + t173.size + 1 + t174.size ≤ 9223372036854775807 then (if t170.size + 1 + t171.size + 1 + t172.size + 1 + t173.size + 1 + t174.size + 1 ≤ 9223372036854775807 then ((rootcellarref15_digits.f k (c : Int) 2).bind fun t175 => (if t170.size + 1 + t171.size + 1 + t172.size + 1 + t173.size + 1 + t174.size + 1 + t175.size ≤ 9223372036854775807 then (some ((((((((((t170 ++ (⟨#[45]⟩ : ByteArray)) ++ t171) ++ (⟨#[45]⟩ : ByteArray)) ++ t172) ++ (⟨#[32]⟩ : ByteArray)) ++ t173) ++ (⟨#[58]⟩ : ByteArray)) ++ t174) ++ (⟨#[58]⟩ : ByteArray)) ++ t175)) else (none))) else (none)) else (none))) else (none)) else (none))) else (none)) else (none))) else (none)) else (none))) else (none)))) (ba (dateL y m d ++ ([32] ++ padN a 2 ++ [58] ++ padN b 2 ++ [58] ++ padN c 2))) := by
  have ly := pad_len y 4 hy (by omega)
  have lm := pad_len m 2 hm (by omega)
  have ld := pad_len d 2 hd (by omega)
  have la := pad_len a 2 ha (by omega)
  have lb := pad_len b 2 hb (by omega)
  have lc := pad_len c 2 hc (by omega)
  refine Ev.bind (rdig4 y hy) (Ev.congr (fun k => by simp only [ba_size]; rw [if_pos (by omega)]) (Ev.bind (rdig2 m hm) ?_))
  refine Ev.congr (fun k => by simp only [ba_size]; rw [if_pos (by omega), if_pos (by omega)]) (Ev.bind (rdig2 d hd) ?_)
  refine Ev.congr (fun k => by simp only [ba_size]; rw [if_pos (by omega), if_pos (by omega)]) (Ev.bind (rdig2 a ha) ?_)
  refine Ev.congr (fun k => by simp only [ba_size]; rw [if_pos (by omega), if_pos (by omega)]) (Ev.bind (rdig2 b hb) ?_)
  refine Ev.congr (fun k => by simp only [ba_size]; rw [if_pos (by omega), if_pos (by omega)]) (Ev.bind (rdig2 c hc) ?_)
  refine Ev.congr (f := fun _ => some _) (fun k => ?_) (Ev.now _)
  simp only [ba_size]
  rw [if_pos (by omega), s45, s32, s58, stamp_pieces y m d a b c]
theorem left_facts (sec : Nat) : wrap64 (Int.tdiv ((sec % 86400 : Nat) : Int) 3600) = ((sec % 86400 / 3600 : Nat) : Int) ∧ Int.tmod (wrap64 (Int.tdiv ((sec % 86400 : Nat) : Int) 60)) 60 = ((sec % 86400 / 60 % 60 : Nat) : Int) ∧ Int.tmod ((sec % 86400 : Nat) : Int) 60 = ((sec % 86400 % 60 : Nat) : Int) := by
  have hl : sec % 86400 < 86400 := Nat.mod_lt _ (by omega)
  refine ⟨wd _ 3600 (Nat.lt_trans hl (by decide)), ?_, tm _ 60⟩
  have e60 : wrap64 (Int.tdiv ((sec % 86400 : Nat) : Int) 60) = ((sec % 86400 / 60 : Nat) : Int) := wd _ 60 (Nat.lt_trans hl (by decide))
  rw [e60]; exact tm _ 60
theorem small_facts (sec : Nat) : sec % 86400 / 3600 < 24 ∧ sec % 86400 / 60 % 60 < 60 ∧ sec % 86400 % 60 < 60 := by omega
theorem ev_stamp (sec : Nat) (h : sec < 18446744073709551616) : Ev (fun k => date_Stamp.f k (sec : Int)) (ba (stampL sec)) := by
  have hday : sec / 86400 ≤ 281474976710656 := by omega
  obtain ⟨c1, c2, c3, c4, c5⟩ := civ_bounds (sec / 86400 + 719468)
  have ec := ev_civil ((sec / 86400 : Nat) : Int)
  rw [civS_day _ hday] at ec
  obtain ⟨f1, f2, f3⟩ := left_facts sec
  obtain ⟨g1, g2, g3⟩ := small_facts sec
  have key := stamp_form (civN (sec / 86400 + 719468)).1 (civN (sec / 86400 + 719468)).2.1 (civN (sec / 86400 + 719468)).2.2 (sec % 86400 / 3600) (sec % 86400 / 60 % 60) (sec % 86400 % 60) (by clear f1 f2 f3; omega) (by clear f1 f2 f3; omega) (by clear f1 f2 f3; omega) (Nat.lt_trans g1 (by decide)) (Nat.lt_trans g2 (by decide)) (Nat.lt_trans g3 (by decide))
  refine Ev.congr (fun k => by unfold date_Stamp.f; rw [day_arg sec h, left_arg, f1, f2, f3]) (Ev.bind ec (Ev.congr (fun k => key) (Ev.now _)))
theorem ref_stamp (sec : Nat) (h : sec < 18446744073709551616) : Ev (fun k => rootcellarref15_Stamp.f k (sec : Int)) (ba (stampL sec)) := by
  have hday : sec / 86400 ≤ 281474976710656 := by omega
  obtain ⟨c1, c2, c3, c4, c5⟩ := civ_bounds (sec / 86400 + 719468)
  have ec := ref_civil ((sec / 86400 : Nat) : Int)
  rw [civS_day _ hday] at ec
  obtain ⟨f1, f2, f3⟩ := left_facts sec
  obtain ⟨g1, g2, g3⟩ := small_facts sec
  have key := ref_stamp_form (civN (sec / 86400 + 719468)).1 (civN (sec / 86400 + 719468)).2.1 (civN (sec / 86400 + 719468)).2.2 (sec % 86400 / 3600) (sec % 86400 / 60 % 60) (sec % 86400 % 60) (by clear f1 f2 f3; omega) (by clear f1 f2 f3; omega) (by clear f1 f2 f3; omega) (Nat.lt_trans g1 (by decide)) (Nat.lt_trans g2 (by decide)) (Nat.lt_trans g3 (by decide))
  refine Ev.congr (fun k => by unfold rootcellarref15_Stamp.f; rw [day_arg sec h, left_arg, f1, f2, f3]) (Ev.bind ec key)
theorem shown_stamp : stampL 951868799 = [50, 48, 48, 48, 45, 48, 50, 45, 50, 57, 32, 50, 51, 58, 53, 57, 58, 53, 57] := by
  have e : civN (951868799 / 86400 + 719468) = (2000, 2, 29) := by decide +kernel
  have e4 : padN 2000 4 = digW 4 2000 := by rw [padN_eq, nDigits_unique 3 2000 (by decide) (by decide)]; rfl
  unfold stampL dateL clockL
  rw [e, e4, padN_two 2 (by omega), padN_two 29 (by omega), padN_two _ (by omega), padN_two _ (by omega)]
  decide +kernel
theorem shown15 : Ev (fun k => rootcellarlaw15_shown.f k) true := by
  have e1 := ev_civil 11016
  have v1 : civS 11016 = (2000, 2, 29) := by decide +kernel
  have e2 := ev_day 2000 2 30
  have v2 : dayS 2000 2 30 = (0, false) := by decide +kernel
  have e3 := ev_stamp 951868799 (by omega)
  rw [v1] at e1
  rw [v2] at e2
  rw [shown_stamp] at e3
  refine Ev.bind e1 (Ev.bind e2 (Ev.congr (fun k => ?_) (Ev.bind (f := fun _ t => some (t.toList == ([50, 48, 48, 48, 45, 48, 50, 45, 50, 57, 32, 50, 51, 58, 53, 57, 58, 53, 57] : List UInt8))) e3 (Ev.congr (f := fun _ => some true) (fun k => ?_) (Ev.now _)))))
  · rw [if_pos rfl, if_pos rfl, if_pos rfl, if_neg (by decide)]; rfl
  · rw [ba_toList]; rfl
end Go.Proofs.YtjoaiolacalemaaDoor.Pu
end
section
/- What rows of this list of laid variables share: what is laid, and the witness' world. -/




















namespace Go.Proofs.YtjoaiolacalemaaDoor.RowB0
open Go.Shelf Go.ChangeShapes Go.WideShapes Go.ChangeAt Go.RowKit Go.Lib Go.Deep
theorem own : ownKnob Tryd.prog.godebug = none := by kernel_rfl
theorem laidOut : laidOutB Tryd.prog = true := by kernel_rfl
def litOf : DataW Unit → Value
  | .lit (.int k z) => .int k z
  | _ => .bool false
/-- The cells that an array of numbers, or of pairs of numbers, takes. -/
def cellsOf : DataW Unit → List Value
  | .agg l => l.flatMap fun | .agg m => m.map litOf | x => [litOf x]
  | x => [litOf x]
theorem tabIs_of_reads {P : Program} {W : World} {name : String} {k : IntKind} {zs : List Int} {g : Nat} {t e : TypeId} {n : Nat}
    (hg : P.globalNamed name = some g) (hty : (P.globals[g]?).map (·.type) = some t) (ht : P.underlying t = some (.array n e)) (he : P.underlying e = some (.int k)) (hce : P.cellsOf e = 1) (hct : P.cellsOf t = n)
    (h : VarReads P W name (tabData k zs)) : TabIs P W name k zs := by
  obtain ⟨g', t', cs, fuel, p, hg', ht', hvar, hd⟩ := h
  obtain rfl := Option.some.inj (hg.symm.trans hg')
  obtain rfl := Option.some.inj (hty.symm.trans ht')
  unfold TabIs
  rw [hvar, ← cells_of_tab ht he hce hct hd]
theorem pow10_eq : (Rows.laid_internal_strconv_uint64pow10 : DataW Unit) = tabData .u64 Lib.pow10Tab := by kernel_rfl
abbrev laids : List (String × DataW Unit) := [("math/bits.deBruijn32tab", Rows.laid_math_bits_deBruijn32tab), ("math/bits.deBruijn64tab", Rows.laid_math_bits_deBruijn64tab), ("internal/strconv.uint64pow10", Rows.laid_internal_strconv_uint64pow10), ("unicode/utf8.acceptRanges", Rows.laid_unicode_utf8_acceptRanges), ("strconv.ErrRange", Rows.laid_strconv_ErrRange), ("strconv.ErrSyntax", Rows.laid_strconv_ErrSyntax), ("unicode/utf8.first", Rows.laid_unicode_utf8_first)]
theorem star : "*" ++ "errors.errorString" = "*errors.errorString" := by decide
theorem row_err (u : TypeId) (h : Tryd.prog.typeName? 3 u = some "*errors.errorString") : u = 98 :=
  typeName_ptr_named (nm := "errors.errorString") (by rw [star]; kernel_rfl) (by kernel_rfl) (by decide) u (by rw [star]; exact h)
theorem max_len {W : World} (h : W.ShapedOpen Tryd.prog) : ∃ m, W.cell? ⟨0, 0, none⟩ = some (.int .i64 m) :=
  cell_of_shapedOpen_int (zero := #[.int .i64 0]) (t := 3) h (of_decide_eq_true (by kernel_rfl)) (by kernel_rfl) rfl (by kernel_rfl) (by kernel_rfl) Tryd.underlying3
theorem err_at {W : World} {n : String} {g : Nat} {text : List UInt8} {r : List (String × DataW Unit)} (h : laidMet Tryd.prog ((n, .iface "*errors.errorString" (.ptr (.agg [.lit (.string text)]))) :: r) W)
    (hg : Tryd.prog.globalNamed n = some g) (ht : (Tryd.prog.globals[g]?).map (·.type) = some 47) : ∃ te pe, W.cell? ⟨g, 0, none⟩ = some (.iface te pe) := by
  obtain ⟨a, s, hv, _⟩ := laid_sentinel h hg ht Tryd.underlying47 row_err Tryd.underlying98 Tryd.underlying100 rfl rfl Tryd.underlying9 (by kernel_rfl) (by kernel_rfl)
  exact ⟨_, _, by simpa using World.var?_cell hg hv 0⟩
theorem tabs {W : World} (h : laidMetH Tryd.prog laids W) (hS : W.ShapedOpen Tryd.prog) : Lf.Tabs W := by
  have h' : laidMet Tryd.prog laids W := h
  have h0 := Lib.laidMet.reads h' (n := "internal/strconv.uint64pow10") (.tail _ (.tail _ (.head _)))
  rw [pow10_eq] at h0
  have hes := err_at h'.tail.tail.tail.tail.tail (g := 1) (by kernel_rfl) (by kernel_rfl)
  have her := err_at h'.tail.tail.tail.tail (g := 2) (by kernel_rfl) (by kernel_rfl)
  exact ⟨tabIs_of_reads (g := 5) (t := 106) (e := 23) (n := 20) (by kernel_rfl) (by kernel_rfl) Tryd.underlying106 Tryd.underlying23 (by kernel_rfl) (by kernel_rfl) h0, ⟨max_len hS, hes, her⟩⟩
/-- A world for the witness: the settled one, the laid variables holding what their initialisers lay. -/
noncomputable def low : Nat := (World.holding Tryd.prog default ⟨#[], #[], []⟩).heap.size
noncomputable def laidWorld (os : Os) : World :=
  let w0 := World.holding Tryd.prog os ⟨#[.cells #[.string ⟨#[118, 97, 108, 117, 101, 32, 111, 117, 116, 32, 111, 102, 32, 114, 97, 110, 103, 101]⟩] 100, .cells #[.string ⟨#[105, 110, 118, 97, 108, 105, 100, 32, 115, 121, 110, 116, 97, 120]⟩] 100], #[], []⟩
  let put (h : Array Obj) (g : Nat) (cs : Array Value) : Array Obj := h.modify g fun
    | .cells _ t frozen => .cells cs t frozen
    | o => o
  let h0 := put w0.heap 6 (cellsOf Rows.laid_math_bits_deBruijn32tab).toArray
  let h1 := put h0 7 (cellsOf Rows.laid_math_bits_deBruijn64tab).toArray
  let h2 := put h1 5 (cellsOf Rows.laid_internal_strconv_uint64pow10).toArray
  let h3 := put h2 4 (cellsOf Rows.laid_unicode_utf8_acceptRanges).toArray
  let h4 := put h3 2 #[.iface 98 (.pointer (some ⟨low + 0, 0, none⟩))]
  let h5 := put h4 1 #[.iface 98 (.pointer (some ⟨low + 1, 0, none⟩))]
  let h6 := put h5 3 (Lib.firstTab.map fun z => Value.int .u8 z).toArray
  { w0 with heap := h6 }
theorem laid_met (os : Os) (args : Array Value) : laidMet Tryd.prog laids ((laidWorld os).forCall (fun _ _ => 0) ⟨#[], args, []⟩).memory := by
  unfold laids
  exact laidMet_of_run' 8 (by kernel_rfl) (by kernel_rfl)
end Go.Proofs.YtjoaiolacalemaaDoor.RowB0
end
section
/- Arguments of the rows, opened: a number, a truth value, a text. -/














namespace Go.Proofs.YtjoaiolacalemaaDoor.RowN
open Go.Shelf Go.ChangeShapes Go.WideShapes Go.ChangeAt Go.RowKit Go.Lib Go.Deep
open Go.ChangeMaps (open_string shut_string)
set_option maxRecDepth 100000
section
variable {H : Type} {enc : TypeId × Value → H} {W : World} {base b0 : Nat} {sp : Nat → Bool} {held : Bool}
theorem open_num {t : TypeId} {k : IntKind} (ht : Tryd.prog.underlying t = some (.int k)) {r : Reach} {v : Value} {d : DataW H} {p : List MemPlace} (hv : Value.okWide Tryd.prog W r b0 t v)
    (h : DataW.Trod enc Tryd.prog W base sp held t v d p) : ∃ a : Int, v = .int k a ∧ (Lit.int k a).wf = true := by
  obtain ⟨a, rfl, _, _, w⟩ := open_int ht hv h
  exact ⟨a, rfl, w⟩
theorem open_truth {t : TypeId} (ht : Tryd.prog.underlying t = some .bool) {r : Reach} {v : Value} {d : DataW H} {p : List MemPlace} (hv : Value.okWide Tryd.prog W r b0 t v)
    (h : DataW.Trod enc Tryd.prog W base sp held t v d p) : ∃ a : Bool, v = .bool a := by
  obtain ⟨a, rfl, _⟩ := open_bool ht hv h
  exact ⟨a, rfl⟩
theorem open_text {t : TypeId} (ht : Tryd.prog.underlying t = some .string) {r : Reach} {v : Value} {d : DataW H} {p : List MemPlace} (hv : Value.okWide Tryd.prog W r b0 t v)
    (h : DataW.Trod enc Tryd.prog W base sp held t v d p) : ∃ s : ByteArray, v = .string s ∧ s.size ≤ maxLen := by
  obtain ⟨s, rfl, _, _, w⟩ := open_string ht hv h
  exact ⟨s, rfl, w⟩
theorem int_b {a : Int} (w : (Lit.int .i64 a).wf = true) : -9223372036854775808 ≤ a ∧ a ≤ 9223372036854775807 := bounds_i64 w
theorem u64_b {a : Int} (w : (Lit.int .u64 a).wf = true) : 0 ≤ a ∧ a < 18446744073709551616 := by have := bounds_u64 w; omega
theorem u32_b {a : Int} (w : (Lit.int .u32 a).wf = true) : 0 ≤ a ∧ a < 4294967296 := by have := bounds_u32 w; omega
theorem u8_b {a : Int} (w : (Lit.int .u8 a).wf = true) : 0 ≤ a ∧ a < 256 := by have := bounds_u8 w; omega
end
end Go.Proofs.YtjoaiolacalemaaDoor.RowN
end
