/- The calendar, in plain numbers: years that begin in March, in cycles of 400. No program. -/
import Derived.Test.YtjoaiolacalemaaDoorProg
namespace Go.Proofs.YtjoaiolacalemaaDoor.Pl
def gN (r : Nat) : Nat := r - r / 1460 + r / 36524 - r / 146096
def yN (r : Nat) : Nat := gN r / 365
/-- Days from March 1 of year 0 to March 1 of year y. -/
def stN (y : Nat) : Nat := 365 * y + y / 4 - y / 100 + y / 400
theorem gN_step (r : Nat) (h : r + 1 ≤ 146096) : gN r ≤ gN (r + 1) := by
  unfold gN
  by_cases e : r + 1 = 146096
  · obtain rfl : r = 146095 := by omega
    decide
  · have h3 : (r + 1) / 146096 = 0 := Nat.div_eq_of_lt (by omega)
    have h4 : r / 146096 = 0 := Nat.div_eq_of_lt (by omega)
    rw [h3, h4]
    omega
theorem gN_mono (a : Nat) : ∀ d, a + d ≤ 146096 → gN a ≤ gN (a + d) := by
  intro d
  induction d with
  | zero => intro _; exact Nat.le_refl _
  | succ d ih =>
    intro h
    exact Nat.le_trans (ih (by omega)) (gN_step (a + d) (by omega))
theorem edges : ∀ y : Fin 400, 365 * y.val ≤ gN (stN y.val) ∧ gN (stN (y.val + 1) - 1) < 365 * (y.val + 1) := by decide +kernel
theorem st400 : stN 400 = 146097 := by decide
theorem st_lt (y : Nat) : stN y < stN (y + 1) := by unfold stN; omega
theorem st_mono (a : Nat) : ∀ d, stN a ≤ stN (a + d) := by
  intro d
  induction d with
  | zero => exact Nat.le_refl _
  | succ d ih => exact Nat.le_trans ih (Nat.le_of_lt (st_lt (a + d)))
theorem in_year (r : Nat) : ∀ n, r < stN n → ∃ y, y < n ∧ stN y ≤ r ∧ r < stN (y + 1) := by
  intro n
  induction n with
  | zero => intro h; simp [stN] at h
  | succ n ih =>
    intro h
    by_cases h2 : r < stN n
    · obtain ⟨y, h1, h3, h4⟩ := ih h2
      exact ⟨y, by omega, h3, h4⟩
    · exact ⟨n, by omega, by omega, h⟩
theorem yN_is (r : Nat) (h : r < 146097) : yN r < 400 ∧ stN (yN r) ≤ r ∧ r < stN (yN r + 1) := by
  obtain ⟨y, hy, h1, h2⟩ := in_year r 400 (by rw [st400]; exact h)
  obtain ⟨e1, e2⟩ := edges ⟨y, hy⟩
  have m1 := gN_mono (stN y) (r - stN y) (by omega)
  have h400 := st_mono (y + 1) (400 - (y + 1))
  rw [show y + 1 + (400 - (y + 1)) = 400 by omega, st400] at h400
  have m2 := gN_mono r (stN (y + 1) - 1 - r) (by omega)
  rw [show stN y + (r - stN y) = r by omega] at m1
  rw [show r + (stN (y + 1) - 1 - r) = stN (y + 1) - 1 by omega] at m2
  have e : yN r = y := by
    unfold yN
    simp only at e1 e2
    omega
  rw [e]
  exact ⟨hy, h1, h2⟩
def leapN (y : Nat) : Bool := y % 4 == 0 && (y % 100 != 0 || y % 400 == 0)
def longN (leap : Bool) (m : Nat) : Nat := if m < 1 then 0 else if 12 < m then 0 else if m = 2 then (if leap = true then 29 else 28) else if m = 4 ∨ m = 6 ∨ m = 9 ∨ m = 11 then 30 else 31
/-- Days ahead of a month, in its year. -/
def mday (leap : Bool) : Nat → Nat
  | 0 => 0
  | 1 => 0
  | m + 2 => mday leap (m + 1) + longN leap (m + 1)
/-- Days ahead of a year, year 0's first day first. -/
def yday : Nat → Nat
  | 0 => 0
  | y + 1 => yday y + (if leapN y = true then 366 else 365)
theorem leap_iff (y : Nat) : leapN y = true ↔ y % 4 = 0 ∧ (y % 100 ≠ 0 ∨ y % 400 = 0) := by simp [leapN]
theorem yday_st (y : Nat) : yday (y + 1) = stN y + 366 := by
  induction y with
  | zero => decide
  | succ y ih =>
    rw [yday, ih]
    have hle : y / 100 ≤ 365 * y + y / 4 := Nat.le_trans (Nat.div_le_self y 100) (by omega)
    have e4 := Nat.succ_div (a := y) (b := 4)
    have e100 := Nat.succ_div (a := y) (b := 100)
    have e400 := Nat.succ_div (a := y) (b := 400)
    unfold stN
    rw [e4, e100, e400]
    generalize y / 4 = q4 at hle ⊢
    generalize y / 100 = q100 at hle ⊢
    generalize y / 400 = q400
    by_cases h : leapN (y + 1) = true
    · rw [if_pos h]
      rw [leap_iff] at h
      have c4 : 4 ∣ y + 1 := Nat.dvd_of_mod_eq_zero h.1
      rw [if_pos c4]
      rcases h.2 with h2 | h2
      · rw [if_neg (show ¬ 100 ∣ y + 1 from fun c => h2 (Nat.mod_eq_zero_of_dvd c)), if_neg (show ¬ 400 ∣ y + 1 from fun c => h2 (by omega))]
        omega
      · rw [if_pos (show 400 ∣ y + 1 from Nat.dvd_of_mod_eq_zero h2), if_pos (show 100 ∣ y + 1 by omega)]
        omega
    · rw [if_neg h]
      rw [leap_iff] at h
      by_cases c4 : 4 ∣ y + 1
      · rw [if_pos c4]
        have c100 : 100 ∣ y + 1 := by
          by_cases c : 100 ∣ y + 1
          · exact c
          · exact absurd ⟨Nat.mod_eq_zero_of_dvd c4, Or.inl (fun e => c (Nat.dvd_of_mod_eq_zero e))⟩ h
        rw [if_pos c100, if_neg (show ¬ 400 ∣ y + 1 from fun c => h ⟨Nat.mod_eq_zero_of_dvd c4, Or.inr (Nat.mod_eq_zero_of_dvd c)⟩)]
        omega
      · rw [if_neg c4, if_neg (show ¬ 100 ∣ y + 1 by omega), if_neg (show ¬ 400 ∣ y + 1 by omega)]
        omega
/-- Month and day of the month of the d-th day from March 1 on; true: the year is the next one. -/
def marchM (d : Nat) : Nat := if (5 * d + 2) / 153 + 3 > 12 then (5 * d + 2) / 153 + 3 - 12 else (5 * d + 2) / 153 + 3
def marchD (d : Nat) : Nat := d - (153 * ((5 * d + 2) / 153) + 2) / 5 + 1
theorem march : ∀ d : Fin 366, 1 ≤ marchM d.val ∧ marchM d.val ≤ 12 ∧ 1 ≤ marchD d.val ∧ marchD d.val ≤ longN true (marchM d.val) ∧ (d.val < 365 → marchD d.val ≤ longN false (marchM d.val)) ∧
    (if (5 * d.val + 2) / 153 + 3 > 12 then 306 + mday false (marchM d.val) + marchD d.val = d.val + 1 ∧ mday true (marchM d.val) = mday false (marchM d.val) ∧ marchM d.val ≤ 2
      else mday false (marchM d.val) + marchD d.val = d.val + 1 + 59 ∧ mday true (marchM d.val) = mday false (marchM d.val) + 1 ∧ 3 ≤ marchM d.val) := by decide +kernel
end Go.Proofs.YtjoaiolacalemaaDoor.Pl
