/- Plain: bits of a text that are turned, all within 32 beside one another, turn its sum's rest. No program. -/
import Derived.Test.YtboommbclbjlnaaDoorPlCrc
namespace Go.Proofs.YtboommbclbjlnaaDoor.Pl
open Go
def bitsF (M : List UInt8) (k : Nat) : Bool := (M.getD (k / 8) 0).toNat.testBit (k % 8)
def bv (b : Bool) : BitVec 32 := if b then 1#32 else 0#32
def runF (f : Nat → Bool) : Nat → Nat → BitVec 32 → BitVec 32
  | _, 0, r => r
  | s, n + 1, r => runF f (s + 1) n (tick (r ^^^ bv (f s)))
theorem bv_xor (a b : Bool) : bv (a ^^ b) = bv a ^^^ bv b := by cases a <;> cases b <;> decide
theorem x4 (a b c d : BitVec 32) : (a ^^^ b) ^^^ (c ^^^ d) = (a ^^^ c) ^^^ (b ^^^ d) := by
  rw [BitVec.xor_assoc, BitVec.xor_assoc, ← BitVec.xor_assoc b c d, BitVec.xor_comm b c, BitVec.xor_assoc c b d]
theorem runF_xor (f g : Nat → Bool) : ∀ (n s : Nat) (r q : BitVec 32), runF (fun k => f k ^^ g k) s n (r ^^^ q) = runF f s n r ^^^ runF g s n q
  | 0, _, _, _ => rfl
  | n + 1, s, r, q => by
    rw [runF, runF, runF, bv_xor, x4, tick_xor]
    exact runF_xor f g n (s + 1) _ _
theorem runF_add (f : Nat → Bool) : ∀ (m n s : Nat) (r : BitVec 32), runF f s (m + n) r = runF f (s + m) n (runF f s m r)
  | 0, n, s, r => by rw [Nat.zero_add]; rfl
  | m + 1, n, s, r => by
    rw [show m + 1 + n = (m + n) + 1 by omega, runF, runF, runF_add f m n (s + 1), show s + 1 + m = s + (m + 1) by omega]
theorem runF_congr (f g : Nat → Bool) : ∀ (n s t : Nat) (r : BitVec 32), (∀ i, i < n → f (s + i) = g (t + i)) → runF f s n r = runF g t n r
  | 0, _, _, _, _ => rfl
  | n + 1, s, t, r, h => by
    have h0 := h 0 (by omega)
    rw [Nat.add_zero, Nat.add_zero] at h0
    rw [runF, runF, h0]
    exact runF_congr f g n (s + 1) (t + 1) _ (fun i hi => by have := h (i + 1) (by omega); rwa [show s + 1 + i = s + (i + 1) by omega, show t + 1 + i = t + (i + 1) by omega])
theorem runF_zero (f : Nat → Bool) : ∀ (n s : Nat) (r : BitVec 32), (∀ i, i < n → f (s + i) = false) → runF f s n r = ticks n r
  | 0, _, _, _ => rfl
  | n + 1, s, r, h => by
    have h0 := h 0 (by omega)
    rw [Nat.add_zero] at h0
    rw [runF, h0, ticks]
    have e : r ^^^ bv false = r := by simp [bv]
    rw [e]
    exact runF_zero f n (s + 1) _ (fun i hi => by have := h (i + 1) (by omega); rwa [show s + 1 + i = s + (i + 1) by omega])
theorem tick_low (r c : BitVec 32) : tick (r ^^^ bv (c.getLsbD 0)) ^^^ (c >>> 1) = tick (r ^^^ c) := by
  have hc : tick (c ^^^ bv (c.getLsbD 0)) = c >>> 1 := by
    have h0 : (c ^^^ bv (c.getLsbD 0)).getLsbD 0 = false := by
      rw [BitVec.getLsbD_xor]
      cases c.getLsbD 0 <;> decide
    rw [tick_even _ h0, BitVec.ushiftRight_xor_distrib]
    cases c.getLsbD 0 <;> simp [bv]
  rw [← hc, ← tick_xor, x4, BitVec.xor_comm (bv _) (bv _)]
  congr 1
  rw [BitVec.xor_comm (bv (c.getLsbD 0)) (bv (c.getLsbD 0)), BitVec.xor_self, BitVec.xor_zero]
theorem runF_word (f : Nat → Bool) : ∀ (d s : Nat) (r c : BitVec 32), c.toNat < 2 ^ d → (∀ j, j < d → f (s + j) = c.getLsbD j) → runF f s d r = ticks d (r ^^^ c)
  | 0, s, r, c, hc, _ => by
    have : c = 0#32 := BitVec.eq_of_toNat_eq (by simpa using hc)
    rw [this, BitVec.xor_zero]; rfl
  | d + 1, s, r, c, hc, h => by
    have h0 := h 0 (by omega)
    rw [Nat.add_zero] at h0
    rw [runF, h0, ticks]
    have ih := runF_word f d (s + 1) (tick (r ^^^ bv (c.getLsbD 0))) (c >>> 1) (by
      rw [BitVec.toNat_ushiftRight, Nat.shiftRight_eq_div_pow]
      have : (2 : Nat) ^ (d + 1) = 2 * 2 ^ d := by rw [Nat.pow_succ, Nat.mul_comm]
      omega) (fun j hj => by
      have := h (j + 1) (by omega)
      rw [show s + 1 + j = s + (j + 1) by omega, this, BitVec.getLsbD_ushiftRight, Nat.add_comm 1 j])
    rw [ih, tick_low]
theorem bitsF_cons (c : UInt8) (M : List UInt8) (k : Nat) : bitsF (c :: M) (k + 8) = bitsF M k := by
  unfold bitsF
  rw [show (k + 8) / 8 = k / 8 + 1 by omega, show (k + 8) % 8 = k % 8 by omega]
  rfl
theorem crcR_run : ∀ (M : List UInt8) (r : BitVec 32), crcR r M = runF (bitsF M) 0 (8 * M.length) r
  | [], _ => rfl
  | c :: M, r => by
    rw [crcR_cons, crcR_run M, List.length_cons, show 8 * (M.length + 1) = 8 + 8 * M.length by omega, runF_add]
    have h8 : runF (bitsF (c :: M)) 0 8 r = crcB r c := by
      unfold crcB
      have hc := c.toNat_lt
      have ht : (BitVec.ofNat 32 c.toNat).toNat = c.toNat := by rw [BitVec.toNat_ofNat, Nat.mod_eq_of_lt (by omega)]
      refine runF_word _ 8 0 r (BitVec.ofNat 32 c.toNat) (by rw [ht]; exact hc) (fun j hj => ?_)
      unfold bitsF
      rw [Nat.zero_add, show j / 8 = 0 by omega, show j % 8 = j by omega, BitVec.getLsbD, ht]
      rfl
    rw [h8]
    refine (runF_congr _ _ _ _ _ _ (fun i _ => ?_)).symm
    rw [show 0 + 8 + i = i + 8 by omega, Nat.zero_add]
    exact bitsF_cons c M i
/-- Bits from at on are turned, as W says. -/
def Turned (L M : List UInt8) (at_ : Nat) (W : BitVec 32) : Prop := M.length = L.length ∧ ∀ k, bitsF M k = (bitsF L k ^^ (decide (at_ ≤ k) && W.getLsbD (k - at_)))
theorem turned_ne {L M : List UInt8} {at_ : Nat} {W : BitVec 32} (h : Turned L M at_ W) (hat : at_ + 32 ≤ 8 * L.length) (hW : W ≠ 0#32) (r : BitVec 32) : crcR r M ≠ crcR r L := by
  rw [crcR_run, crcR_run, h.1]
  intro e
  have h1 := runF_xor (bitsF L) (fun k => decide (at_ ≤ k) && W.getLsbD (k - at_)) (8 * L.length) 0 r 0#32
  rw [BitVec.xor_zero] at h1
  have h2 : runF (fun k => bitsF L k ^^ (decide (at_ ≤ k) && W.getLsbD (k - at_))) 0 (8 * L.length) r = runF (bitsF M) 0 (8 * L.length) r := runF_congr _ _ _ _ _ _ (fun i _ => (h.2 _).symm)
  rw [h2, e] at h1
  have h3 : runF (fun k => decide (at_ ≤ k) && W.getLsbD (k - at_)) 0 (8 * L.length) 0#32 = 0#32 := by
    have this : runF (bitsF L) 0 (8 * L.length) r ^^^ runF (bitsF L) 0 (8 * L.length) r = runF (bitsF L) 0 (8 * L.length) r ^^^ (runF (bitsF L) 0 (8 * L.length) r ^^^ runF (fun k => decide (at_ ≤ k) && W.getLsbD (k - at_)) 0 (8 * L.length) 0#32) := congrArg _ h1
    rw [BitVec.xor_self, ← BitVec.xor_assoc, BitVec.xor_self, BitVec.zero_xor] at this
    exact this.symm
  rw [show 8 * L.length = at_ + (32 + (8 * L.length - at_ - 32)) by omega, runF_add, runF_add] at h3
  rw [runF_zero _ at_ 0 0#32 (fun i hi => by rw [decide_eq_false (by omega)]; rfl), ticks_zero] at h3
  rw [runF_word _ 32 (0 + at_) 0#32 W W.isLt (fun j hj => by rw [decide_eq_true (by omega), show 0 + at_ + j - at_ = j by omega]; rfl), BitVec.zero_xor] at h3
  rw [runF_zero _ _ _ _ (fun i hi => by rw [BitVec.getLsbD_of_ge _ _ (by omega), Bool.and_false])] at h3
  exact hW (ticks_inj0 32 W (ticks_inj0 _ _ h3))
/-- One bit more is turned. -/
theorem turn_one (M : List UInt8) (p : Nat) (hp : p / 8 < M.length) : ∀ k, bitsF (M.set (p / 8) (UInt8.ofNat ((M.getD (p / 8) 0).toNat ^^^ 2 ^ (p % 8)))) k = (bitsF M k ^^ decide (k = p)) := by
  intro k
  have hlt : (M.getD (p / 8) 0).toNat ^^^ 2 ^ (p % 8) < 2 ^ 8 := Nat.xor_lt_two_pow (M.getD (p / 8) 0).toNat_lt (Nat.pow_lt_pow_right (by omega) (Nat.mod_lt _ (by omega)))
  unfold bitsF
  by_cases hk : k / 8 = p / 8
  · rw [hk, List.getD_eq_getElem?_getD, List.getElem?_set_self hp]
    simp only [Option.getD_some]
    rw [UInt8.toNat_ofNat', Nat.mod_eq_of_lt hlt, Nat.testBit_xor, Nat.testBit_two_pow]
    congr 1
    rw [decide_eq_decide]
    omega
  · rw [List.getD_eq_getElem?_getD, List.getElem?_set_ne (by omega), ← List.getD_eq_getElem?_getD, decide_eq_false (by rintro rfl; exact hk rfl), Bool.xor_false]
theorem bits_put : ∀ (m n k : Nat), k < 8 * m → bitsF (putN n m) k = n.testBit k
  | 0, _, k, h => by omega
  | m + 1, n, k, h => by
    rw [putN_succ]
    by_cases h8 : k < 8
    · unfold bitsF
      rw [show k / 8 = 0 by omega, show k % 8 = k by omega]
      show (UInt8.ofNat (n % 256)).toNat.testBit k = _
      rw [UInt8.toNat_ofNat', show n % 256 % 2 ^ 8 = n % 2 ^ 8 by omega, Nat.testBit_mod_two_pow, decide_eq_true h8, Bool.true_and]
    · obtain ⟨j, rfl⟩ : ∃ j, k = j + 8 := ⟨k - 8, by omega⟩
      rw [bitsF_cons, bits_put m (n / 256) j (by omega), show (256 : Nat) = 2 ^ 8 by rfl, Nat.testBit_div_two_pow]
/-- What a text with its sum behind it leaves is always the same. -/
theorem rest_put (R c : BitVec 32) : crcR R (putN c.toNat 4) = ticks 32 (R ^^^ c) := by
  rw [crcR_run, putN_length]
  refine runF_word _ 32 0 R c c.isLt (fun j hj => ?_)
  rw [Nat.zero_add, bits_put 4 _ _ (by omega)]
  rfl
theorem rest_sum (l : List UInt8) : crcR (BitVec.allOnes 32) (l ++ putN (crc l).toNat 4) = ticks 32 (BitVec.allOnes 32) := by
  rw [crcR_append, rest_put]
  unfold crc
  congr 1
  rw [← BitVec.xor_allOnes, ← BitVec.xor_assoc, BitVec.xor_self, BitVec.zero_xor]
end Go.Proofs.YtboommbclbjlnaaDoor.Pl
