/- The calendar, in plain numbers: a day's date is the one that has that day. No program. -/
import Derived.Test.YtjoaiolacalemaaDoorPlCal
namespace Go.Proofs.YtjoaiolacalemaaDoor.Pl
/-- A date's day; year 0's first day: 1. -/
def dayOf (y m d : Nat) : Nat := yday y + mday (leapN y) m + d
def valid (y m d : Nat) : Prop := 1 ≤ m ∧ m ≤ 12 ∧ 1 ≤ d ∧ d ≤ longN (leapN y) m
theorem mday_end : ∀ m : Fin 13, ∀ b : Bool, mday b m.val + longN b m.val ≤ (if b = true then 366 else 365) := by decide +kernel
theorem mday_lt : ∀ m m' : Fin 13, ∀ b : Bool, 1 ≤ m.val → m.val < m'.val → mday b m.val + longN b m.val ≤ mday b m'.val := by decide +kernel
theorem yday_le (y : Nat) : ∀ d, yday y ≤ yday (y + d) := by
  intro d
  induction d with
  | zero => exact Nat.le_refl _
  | succ d ih => exact Nat.le_trans ih (by show _ ≤ yday (y + d) + _; omega)
theorem dayOf_gt {y m d : Nat} (h : valid y m d) : yday y < dayOf y m d := by
  obtain ⟨h1, h2, h3, h4⟩ := h
  unfold dayOf
  omega
theorem dayOf_le {y m d : Nat} (h : valid y m d) : dayOf y m d ≤ yday (y + 1) := by
  obtain ⟨h1, h2, h3, h4⟩ := h
  have := mday_end ⟨m, by omega⟩ (leapN y)
  simp only at this
  unfold dayOf
  rw [yday]
  omega
theorem dayOf_inj {y m d y' m' d' : Nat} (h : valid y m d) (h' : valid y' m' d') (e : dayOf y m d = dayOf y' m' d') : y = y' ∧ m = m' ∧ d = d' := by
  have a1 := dayOf_gt h
  have a2 := dayOf_le h
  have b1 := dayOf_gt h'
  have b2 := dayOf_le h'
  have hy : y = y' := by
    rcases Nat.lt_trichotomy y y' with c | c | c
    · have := yday_le (y + 1) (y' - (y + 1))
      rw [show y + 1 + (y' - (y + 1)) = y' by omega] at this
      omega
    · exact c
    · have := yday_le (y' + 1) (y - (y' + 1))
      rw [show y' + 1 + (y - (y' + 1)) = y by omega] at this
      omega
  subst hy
  obtain ⟨h1, h2, h3, h4⟩ := h
  obtain ⟨g1, g2, g3, g4⟩ := h'
  unfold dayOf at e
  have hm : m = m' := by
    rcases Nat.lt_trichotomy m m' with c | c | c
    · have := mday_lt ⟨m, by omega⟩ ⟨m', by omega⟩ (leapN y) h1 c
      simp only at this
      omega
    · exact c
    · have := mday_lt ⟨m', by omega⟩ ⟨m, by omega⟩ (leapN y) g1 c
      simp only at this
      omega
  subst hm
  exact ⟨rfl, rfl, by omega⟩
/-- The date of the t-th day from March 1 of year 0 on. -/
def civY (t : Nat) : Nat := yN (t % 146097) + t / 146097 * 400
def civO (t : Nat) : Nat := t % 146097 - stN (yN (t % 146097))
def civN (t : Nat) : Nat × Nat × Nat := (if (5 * civO t + 2) / 153 + 3 > 12 then civY t + 1 else civY t, marchM (civO t), marchD (civO t))
theorem st_cycle (y n : Nat) : stN (y + n * 400) = stN y + 146097 * n := by
  unfold stN
  have e4 : (y + n * 400) / 4 = y / 4 + 100 * n := by omega
  have e100 : (y + n * 400) / 100 = y / 100 + 4 * n := by omega
  have e400 : (y + n * 400) / 400 = y / 400 + n := by omega
  have hle : y / 100 ≤ 365 * y + y / 4 := Nat.le_trans (Nat.div_le_self y 100) (by omega)
  rw [e4, e100, e400]
  generalize y / 4 = q4 at hle ⊢
  generalize y / 100 = q100 at hle ⊢
  generalize y / 400 = q400
  omega
theorem longN_tf (m : Nat) (h : m ≠ 2) : longN true m = longN false m := by unfold longN; simp [h]
theorem civ_ok (t : Nat) : valid (civN t).1 (civN t).2.1 (civN t).2.2 ∧ dayOf (civN t).1 (civN t).2.1 (civN t).2.2 = t + 61 := by
  have hr : t % 146097 < 146097 := Nat.mod_lt _ (by omega)
  obtain ⟨y1, y2, y3⟩ := yN_is _ hr
  have hs : stN (civY t) + civO t = t := by
    unfold civY civO
    rw [st_cycle]
    omega
  have hlen : stN (civY t + 1) = stN (civY t) + (if leapN (civY t + 1) = true then 366 else 365) := by
    have h1 := yday_st (civY t + 1)
    rw [yday, yday_st] at h1
    omega
  have ho : civO t < (if leapN (civY t + 1) = true then 366 else 365) := by
    have h2 : stN (civY t + 1) = stN (yN (t % 146097) + 1) + 146097 * (t / 146097) := by
      unfold civY
      rw [← st_cycle]
      congr 1
      omega
    omega
  have ho' : civO t < 366 := by split at ho <;> omega
  obtain ⟨m1, m2, m3, m4, m5, m6⟩ := march ⟨civO t, ho'⟩
  simp only at m1 m2 m3 m4 m5 m6
  have hj := yday_st (civY t)
  unfold civN
  by_cases hc : (5 * civO t + 2) / 153 + 3 > 12
  · simp only [if_pos hc] at m6 ⊢
    obtain ⟨n1, n2, n3⟩ := m6
    refine ⟨⟨m1, m2, m3, ?_⟩, ?_⟩
    · by_cases hl : leapN (civY t + 1) = true
      · rw [hl]; exact m4
      · rw [Bool.eq_false_iff.2 hl]
        rw [if_neg hl] at ho
        exact m5 ho
    · unfold dayOf
      have e : mday (leapN (civY t + 1)) (marchM (civO t)) = mday false (marchM (civO t)) := by
        cases leapN (civY t + 1)
        · rfl
        · exact n2
      rw [e, hj]
      omega
  · simp only [if_neg hc] at m6 ⊢
    obtain ⟨n1, n2, n3⟩ := m6
    rw [yday] at hj
    refine ⟨⟨m1, m2, m3, ?_⟩, ?_⟩
    · cases leapN (civY t)
      · rw [← longN_tf _ (by omega)]; exact m4
      · exact m4
    · unfold dayOf
      cases hl : leapN (civY t)
      · rw [hl] at hj
        simp only [Bool.false_eq_true, if_false] at hj
        omega
      · rw [hl] at hj
        simp only [if_true] at hj
        omega
end Go.Proofs.YtjoaiolacalemaaDoor.Pl
