/- Plain: numerals with noughts ahead, of so many digits; their order is that of the numbers. No program. -/
import Derived.Test.YtjoaiolacalemaaDoorPlBytes
import Derived.Test.YtjoaiolacalemaaDoorPlCal2
import Derived.Lib.ItoaNum
import Derived.Lib.Repeat
namespace Go.Proofs.YtjoaiolacalemaaDoor.Pl
open Go Go.Lib
/-- The last w digits of n. -/
def digW : Nat → Nat → List UInt8
  | 0, _ => []
  | w + 1, n => digW w (n / 10) ++ [UInt8.ofNat (48 + n % 10)]
theorem digW_length (w : Nat) : ∀ n, (digW w n).length = w := by
  induction w with
  | zero => intro n; rfl
  | succ w ih => intro n; simp [digW, ih]
def padN (n d : Nat) : List UInt8 := List.replicate (d - (decDigits n).length) 48 ++ decDigits n
theorem padN_length (n d : Nat) : (padN n d).length = max d (nDigits n) := by
  unfold padN
  rw [List.length_append, List.length_replicate, decDigits_length]
  omega
theorem digW_zero (w : Nat) : digW w 0 = List.replicate w 48 := by
  induction w with
  | zero => rfl
  | succ w ih => rw [digW, Nat.zero_div, ih, List.replicate_succ']
                 rfl
theorem padN_digW (n : Nat) : ∀ w, nDigits n ≤ w → digW w n = padN n w := by
  induction n using Nat.strongRecOn with
  | _ n ih =>
    intro w hw
    by_cases h : n < 10
    · rw [nDigits_small h] at hw
      obtain ⟨v, rfl⟩ : ∃ v, w = v + 1 := ⟨w - 1, by omega⟩
      unfold padN
      rw [digW, Nat.div_eq_of_lt h, digW_zero, Nat.mod_eq_of_lt h, decDigits_one h]
      simp
    · rw [nDigits_big h] at hw
      obtain ⟨v, rfl⟩ : ∃ v, w = v + 1 := ⟨w - 1, by omega⟩
      rw [digW, ih (n / 10) (by omega) v (by omega)]
      unfold padN
      rw [decDigits_length, decDigits_length, nDigits_big h, show v + 1 - (nDigits (n / 10) + 1) = v - nDigits (n / 10) by omega, List.append_assoc]
      congr 1
      conv => rhs; rw [decDigits, dif_neg h]
theorem padN_eq (n d : Nat) : padN n d = digW (max d (nDigits n)) n := by
  rw [padN_digW n _ (by omega)]
  unfold padN
  rw [decDigits_length]
  congr 2
  omega
theorem nDigits_mono (a : Nat) : ∀ b, a ≤ b → nDigits a ≤ nDigits b := by
  induction a using Nat.strongRecOn with
  | _ a ih =>
    intro b h
    by_cases ha : a < 10
    · rw [nDigits_small ha]; exact nDigits_pos b
    · rw [nDigits_big ha, nDigits_big (show ¬ b < 10 by omega)]
      have := ih (a / 10) (by omega) (b / 10) (Nat.div_le_div_right h)
      omega
theorem bl_append : ∀ (a b c d : List UInt8), a.length = b.length → Op.bytesLess (a ++ c) (b ++ d) = (Op.bytesLess a b || (a == b && Op.bytesLess c d))
  | [], [], c, d, _ => by simp [Op.bytesLess]
  | x :: a, y :: b, c, d, h => by
    have ih := bl_append a b c d (by simpa using h)
    simp only [List.cons_append, Op.bytesLess, ih]
    by_cases e : x = y
    · subst e
      simp
    · have : (x == y) = false := by simpa using e
      simp [this]
  | [], _ :: _, _, _, h => by simp at h
  | _ :: _, [], _, _, h => by simp at h
theorem ofNat_lt (a b : Nat) (ha : a < 256) (hb : b < 256) : (UInt8.ofNat a < UInt8.ofNat b) = (a < b) := by
  rw [UInt8.lt_iff_toNat_lt]
  simp [Nat.mod_eq_of_lt ha, Nat.mod_eq_of_lt hb]
theorem ofNat_inj {a b : Nat} (ha : a < 256) (hb : b < 256) (h : UInt8.ofNat a = UInt8.ofNat b) : a = b := by
  have := congrArg UInt8.toNat h
  simpa [Nat.mod_eq_of_lt ha, Nat.mod_eq_of_lt hb] using this
/-- Two texts stand as two numbers do. -/
def Ord2 (X Y : List UInt8) (n m : Nat) : Prop := X.length = Y.length ∧ Op.bytesLess X Y = decide (n < m) ∧ (X = Y ↔ n = m)
theorem ord_nil (n : Nat) : Ord2 [] [] n n := ⟨rfl, by simp [Op.bytesLess], by simp⟩
theorem ord_dig {X Y : List UInt8} {n m : Nat} (h : Ord2 X Y n m) (a b : Nat) (ha : a < 10) (hb : b < 10) : Ord2 (X ++ [UInt8.ofNat (48 + a)]) (Y ++ [UInt8.ofNat (48 + b)]) (10 * n + a) (10 * m + b) := by
  obtain ⟨h1, h2, h3⟩ := h
  refine ⟨by simp [h1], ?_, ?_⟩
  · rw [bl_append _ _ _ _ h1, h2]
    have e : Op.bytesLess [UInt8.ofNat (48 + a)] [UInt8.ofNat (48 + b)] = decide (a < b) := by
      simp only [Op.bytesLess, Bool.and_false, Bool.or_false]
      rw [Bool.eq_iff_iff, decide_eq_true_iff, decide_eq_true_iff, ofNat_lt _ _ (by omega) (by omega)]
      omega
    rw [e, Bool.eq_iff_iff]
    simp only [Bool.or_eq_true, Bool.and_eq_true, decide_eq_true_eq, beq_iff_eq, h3]
    omega
  · constructor
    · intro h
      have h' := List.append_inj h h1
      have e1 := h3.1 h'.1
      have e2 := ofNat_inj (by omega) (by omega) (List.head_eq_of_cons_eq h'.2)
      omega
    · intro h
      have e1 : n = m := by omega
      have e2 : a = b := by omega
      rw [h3.2 e1, e2]
theorem ord_same {X Y : List UInt8} {n m : Nat} (h : Ord2 X Y n m) (c : UInt8) : Ord2 (X ++ [c]) (Y ++ [c]) n m := by
  obtain ⟨h1, h2, h3⟩ := h
  refine ⟨by simp [h1], ?_, ?_⟩
  · rw [bl_append _ _ _ _ h1, h2]
    simp [Op.bytesLess]
  · rw [← h3]
    exact ⟨fun h => (List.append_inj h h1).1, fun h => by rw [h]⟩
theorem ord_digW {X Y : List UInt8} {n m : Nat} (h : Ord2 X Y n m) : ∀ (w a b : Nat), a < 10 ^ w → b < 10 ^ w → Ord2 (X ++ digW w a) (Y ++ digW w b) (10 ^ w * n + a) (10 ^ w * m + b)
  | 0, a, b, ha, hb => by
    obtain rfl : a = 0 := by simpa using ha
    obtain rfl : b = 0 := by simpa using hb
    simpa [digW] using h
  | w + 1, a, b, ha, hb => by
    rw [Nat.pow_succ] at ha hb
    have ih := ord_digW h w (a / 10) (b / 10) (by omega) (by omega)
    have r := ord_dig ih (a % 10) (b % 10) (Nat.mod_lt _ (by omega)) (Nat.mod_lt _ (by omega))
    rw [List.append_assoc, List.append_assoc] at r
    have e1 : 10 * (10 ^ w * n + a / 10) + a % 10 = 10 ^ (w + 1) * n + a := by
      rw [Nat.pow_succ, Nat.mul_add, ← Nat.mul_assoc, Nat.mul_comm 10 (10 ^ w), Nat.add_assoc, Nat.div_add_mod]
    have e2 : 10 * (10 ^ w * m + b / 10) + b % 10 = 10 ^ (w + 1) * m + b := by
      rw [Nat.pow_succ, Nat.mul_add, ← Nat.mul_assoc, Nat.mul_comm 10 (10 ^ w), Nat.add_assoc, Nat.div_add_mod]
    rw [e1, e2] at r
    exact r
theorem padN_two (a : Nat) (h : a < 100) : padN a 2 = digW 2 a := by
  rw [padN_eq]
  congr 1
  by_cases h1 : a < 10
  · rw [nDigits_small h1]; rfl
  · rw [nDigits_big h1, nDigits_small (by omega)]; rfl
theorem ord_two {X Y : List UInt8} {n m : Nat} (h : Ord2 X Y n m) (c : UInt8) (a b : Nat) (ha : a < 100) (hb : b < 100) : Ord2 (X ++ [c] ++ padN a 2) (Y ++ [c] ++ padN b 2) (100 * n + a) (100 * m + b) := by
  rw [padN_two a ha, padN_two b hb]
  exact ord_digW (ord_same h c) 2 a b ha hb
theorem ord_pad (a b d : Nat) (h : max d (nDigits a) = max d (nDigits b)) : Ord2 (padN a d) (padN b d) a b := by
  rw [padN_eq, padN_eq, ← h]
  have la := lt_pow_nDigits a
  have lb := lt_pow_nDigits b
  have ha : a < 10 ^ max d (nDigits a) := Nat.lt_of_lt_of_le la (Nat.pow_le_pow_right (by omega) (by omega))
  have hb : b < 10 ^ max d (nDigits a) := Nat.lt_of_lt_of_le lb (Nat.pow_le_pow_right (by omega) (by omega))
  have := ord_digW (ord_nil 0) (max d (nDigits a)) a b ha hb
  simpa using this
/-- A date as one number stands as its day does. -/
def dateK (y m d : Nat) : Nat := 100 * (100 * y + m) + d
theorem dateK_lt {y m d y' m' d' : Nat} (h : valid y m d) (h' : valid y' m' d') (e : dayOf y m d < dayOf y' m' d') : dateK y m d < dateK y' m' d' := by
  have a1 := dayOf_gt h
  have b2 := dayOf_le h'
  have hd : longN (leapN y) m ≤ 31 := by
    unfold longN
    by_cases h1 : m < 1
    · rw [if_pos h1]; omega
    rw [if_neg h1]
    by_cases h12 : 12 < m
    · rw [if_pos h12]; omega
    rw [if_neg h12]
    by_cases h2 : m = 2
    · rw [if_pos h2]; cases leapN y <;> decide
    rw [if_neg h2]
    by_cases h4 : m = 4 ∨ m = 6 ∨ m = 9 ∨ m = 11
    · rw [if_pos h4]; omega
    · rw [if_neg h4]; omega
  obtain ⟨h1, h2, h3, h4⟩ := h
  obtain ⟨g1, g2, g3, g4⟩ := h'
  unfold dateK
  rcases Nat.lt_trichotomy y y' with c | c | c
  · omega
  · subst c
    unfold dayOf at e
    rcases Nat.lt_trichotomy m m' with c | c | c
    · omega
    · subst c; omega
    · have := mday_lt ⟨m', by omega⟩ ⟨m, by omega⟩ (leapN y) g1 c
      simp only at this
      omega
  · have := yday_le (y' + 1) (y - (y' + 1))
    rw [show y' + 1 + (y - (y' + 1)) = y by omega] at this
    omega
theorem year_le {y m d y' m' d' : Nat} (h : valid y m d) (h' : valid y' m' d') (e : dayOf y m d ≤ dayOf y' m' d') : y ≤ y' := by
  have a1 := dayOf_gt h
  have b2 := dayOf_le h'
  rcases Nat.lt_or_ge y' y with c | c
  · have := yday_le (y' + 1) (y - (y' + 1))
    rw [show y' + 1 + (y - (y' + 1)) = y by omega] at this
    omega
  · exact c
theorem month_le {y m d y' m' d' : Nat} (h : valid y m d) (h' : valid y' m' d') (e : dayOf y m d ≤ dayOf y' m' d') : 12 * y + m ≤ 12 * y' + m' := by
  have hy := year_le h h' e
  obtain ⟨h1, h2, h3, h4⟩ := h
  obtain ⟨g1, g2, g3, g4⟩ := h'
  rcases Nat.lt_or_ge y y' with c | c
  · omega
  · obtain rfl : y = y' := by omega
    unfold dayOf at e
    rcases Nat.lt_or_ge m' m with c | c
    · have := mday_lt ⟨m', by omega⟩ ⟨m, by omega⟩ (leapN y) g1 c
      simp only at this
      omega
    · omega
end Go.Proofs.YtjoaiolacalemaaDoor.Pl
