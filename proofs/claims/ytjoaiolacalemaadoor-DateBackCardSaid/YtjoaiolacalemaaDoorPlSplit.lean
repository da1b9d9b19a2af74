/- Plain: a text cut at a byte, and what the pieces are; numerals read. No program. -/
import Derived.Test.YtjoaiolacalemaaDoorPlDig
import Derived.Lib.SplitLaws
namespace Go.Proofs.YtjoaiolacalemaaDoor.Pl
open Go Go.Lib
theorem index_at (c : UInt8) (r : List UInt8) : ∀ a : List UInt8, c ∉ a → index (a ++ c :: r) [c] = (a.length : Int)
  | [], _ => by
    show index (c :: r) [c] = 0
    unfold index
    simp [List.isPrefixOf]
  | b :: a, h => by
    have hb : b ≠ c := fun e => h (by rw [e]; exact List.mem_cons_self ..)
    have ih := index_at c r a (fun hm => h (List.mem_cons_of_mem _ hm))
    show index (b :: (a ++ c :: r)) [c] = _
    rw [index, ih]
    have hp : ([c] : List UInt8).isPrefixOf (b :: (a ++ c :: r)) = false := by simp [List.isPrefixOf, Ne.symm hb]
    rw [hp]
    have hn : ¬ (((a.length : Int) == -1) = true) := fun e => by have := beq_iff_eq.1 e; omega
    rw [if_neg (by decide), if_neg hn]
    simp
theorem index_no (c : UInt8) : ∀ a : List UInt8, c ∉ a → index a [c] = -1
  | [], _ => by simp [index]
  | b :: a, h => by
    have hb : b ≠ c := fun e => h (by rw [e]; exact List.mem_cons_self ..)
    have ih := index_no c a (fun hm => h (List.mem_cons_of_mem _ hm))
    rw [index, ih]
    have hp : ([c] : List UInt8).isPrefixOf (b :: a) = false := by simp [List.isPrefixOf, Ne.symm hb]
    rw [hp]
    simp
theorem cut_one (c : UInt8) (a r : List UInt8) (h : c ∉ a) : cut (a ++ c :: r) [c] = (a, r, true) := by
  unfold cut
  rw [index_at c r a h, if_pos (by omega)]
  simp
theorem count_no (c : UInt8) (a : List UInt8) (h : c ∉ a) : a.count c = 0 := List.count_eq_zero.2 h
theorem splitK_three (c : UInt8) (a b d : List UInt8) (ha : c ∉ a) (hb : c ∉ b) : splitK [c] 0 2 (a ++ c :: (b ++ c :: d)) = [a, b, d] := by
  have n1 : ¬ (((a.length : Int) == -1) = true) := fun e => by have := beq_iff_eq.1 e; omega
  have n2 : ¬ (((b.length : Int) == -1) = true) := fun e => by have := beq_iff_eq.1 e; omega
  unfold splitK
  rw [index_at c _ a ha, if_neg n1]
  have e1 : (a ++ c :: (b ++ c :: d)).drop ((a.length : Int).toNat + [c].length) = b ++ c :: d := by
    rw [Int.toNat_natCast, show a.length + [c].length = (a ++ [c]).length by simp, show a ++ c :: (b ++ c :: d) = (a ++ [c]) ++ (b ++ c :: d) by simp, List.drop_left]
  have e2 : (b ++ c :: d).drop ((b.length : Int).toNat + [c].length) = d := by
    rw [Int.toNat_natCast, show b.length + [c].length = (b ++ [c]).length by simp, show b ++ c :: d = (b ++ [c]) ++ d by simp, List.drop_left]
  rw [e1]
  unfold splitK
  rw [index_at c _ b hb, if_neg n2, e2]
  unfold splitK
  simp
theorem split_three (c : UInt8) (a b d : List UInt8) (ha : c ∉ a) (hb : c ∉ b) (hd : c ∉ d) :
    splitB (ba [c]) 0 (countB (ba (a ++ c :: (b ++ c :: d))) (ba [c])) (ba (a ++ c :: (b ++ c :: d))) = [ba a, ba b, ba d] := by
  have hk : countB (ba (a ++ c :: (b ++ c :: d))) (ba [c]) = 2 := by
    show count (a ++ c :: (b ++ c :: d)) [c] = 2
    rw [count_one]
    simp [List.count_append, count_no c a ha, count_no c b hb, count_no c d hd]
  rw [hk]
  have h := splitB_data (ba [c]) 0 2 (ba (a ++ c :: (b ++ c :: d)))
  rw [show (ba [c]).data.toList = [c] from rfl, show (ba (a ++ c :: (b ++ c :: d))).data.toList = a ++ c :: (b ++ c :: d) from ba_list _, splitK_three c a b d ha hb] at h
  have h2 := congrArg (List.map ba) h
  rw [List.map_map] at h2
  have e : (ba ∘ fun (s : ByteArray) => s.data.toList) = id := by funext s; exact ba_data s
  rw [e, List.map_id] at h2
  exact h2
theorem digW_mem (w : Nat) : ∀ (n : Nat) (c : UInt8), c ∈ digW w n → 48 ≤ c.toNat ∧ c.toNat ≤ 57 := by
  induction w with
  | zero => intro n c h; cases h
  | succ w ih =>
    intro n c h
    rw [digW, List.mem_append, List.mem_singleton] at h
    rcases h with h | h
    · exact ih _ c h
    · have h10 : n % 10 < 10 := Nat.mod_lt _ (by decide)
      rw [h, UInt8.toNat_ofNat']
      omega
theorem padN_mem (n d : Nat) (c : UInt8) (h : c ∈ padN n d) : 48 ≤ c.toNat ∧ c.toNat ≤ 57 := by rw [padN_eq] at h; exact digW_mem _ _ c h
theorem padN_ne (n d : Nat) (c : UInt8) (hc : c.toNat < 48 ∨ 57 < c.toNat) : c ∉ padN n d := fun h => by have := padN_mem n d c h; omega
theorem dig_toNat (n : Nat) : (UInt8.ofNat (48 + n % 10)).toNat = 48 + n % 10 := by
  have h10 : n % 10 < 10 := Nat.mod_lt _ (by decide)
  rw [UInt8.toNat_ofNat']
  omega
/-- The number of digits; -1: there is another sign. -/
def numGo : List UInt8 → Int → Int
  | [], n => n
  | c :: r, n => if c.toNat < 48 then -1 else if 57 < c.toNat then -1 else numGo r (10 * n + (c.toNat - 48 : Nat))
theorem numGo_digW (w : Nat) : ∀ (n : Nat) (r : List UInt8) (a : Nat), n < 10 ^ w → numGo (digW w n ++ r) (a : Int) = numGo r ((a * 10 ^ w + n : Nat) : Int) := by
  induction w with
  | zero => intro n r a h; have : n = 0 := by omega
            subst this; simp [digW]
  | succ w ih =>
    intro n r a h
    rw [Nat.pow_succ] at h
    rw [digW, List.append_assoc, ih (n / 10) _ a (by omega)]
    show numGo (UInt8.ofNat (48 + n % 10) :: r) _ = _
    have h10 : n % 10 < 10 := Nat.mod_lt _ (by decide)
    rw [numGo, dig_toNat, if_neg (by omega), if_neg (by omega)]
    congr 1
    rw [Nat.pow_succ, ← Nat.mul_assoc]
    generalize a * 10 ^ w = q
    omega
theorem numGo_pad (n d : Nat) : numGo (padN n d) 0 = (n : Int) := by
  rw [padN_eq]
  have hlt : n < 10 ^ max d (nDigits n) := Nat.lt_of_lt_of_le (lt_pow_nDigits n) (Nat.pow_le_pow_right (by decide) (Nat.le_max_right _ _))
  have h := numGo_digW (max d (nDigits n)) n [] 0 hlt
  rw [List.append_nil, Nat.zero_mul, Nat.zero_add] at h
  exact h
theorem numGo_ge : ∀ (l : List UInt8) (n : Int), -1 ≤ n → -1 ≤ numGo l (max n 0)
  | [], n, h => by show -1 ≤ max n 0; omega
  | c :: r, n, h => by
    unfold numGo
    split
    · exact Int.le_refl _
    · split
      · exact Int.le_refl _
      · have h2 := numGo_ge r (10 * max n 0 + (c.toNat - 48 : Nat)) (by omega)
        rwa [show max (10 * max n 0 + ((c.toNat - 48 : Nat) : Int)) 0 = 10 * max n 0 + ((c.toNat - 48 : Nat) : Int) by omega] at h2
end Go.Proofs.YtjoaiolacalemaaDoor.Pl
