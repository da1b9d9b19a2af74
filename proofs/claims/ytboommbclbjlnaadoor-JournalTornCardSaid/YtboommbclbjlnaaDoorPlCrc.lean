/- Plain: the check sum, bit by bit, over 32 bits; it is linear, and its step can be turned back; no program in sight. -/
import Derived.Test.YtboommbclbjlnaaDoorPlBytes
namespace Go.Proofs.YtboommbclbjlnaaDoor.Pl
open Go
def poly : BitVec 32 := 3988292384#32
/-- One bit. -/
def tick (r : BitVec 32) : BitVec 32 := (r >>> 1) ^^^ (if r.getLsbD 0 then poly else 0#32)
def ticks : Nat → BitVec 32 → BitVec 32
  | 0, r => r
  | n + 1, r => ticks n (tick r)
theorem tick_xor (a b : BitVec 32) : tick (a ^^^ b) = tick a ^^^ tick b := by
  unfold tick
  rw [BitVec.ushiftRight_xor_distrib, BitVec.getLsbD_xor]
  have k : ∀ x y p : BitVec 32, x ^^^ y = x ^^^ p ^^^ (y ^^^ p) := fun x y p => by
    apply BitVec.eq_of_getLsbD_eq
    intro i _
    simp only [BitVec.getLsbD_xor]
    cases x.getLsbD i <;> cases y.getLsbD i <;> cases p.getLsbD i <;> rfl
  cases a.getLsbD 0 <;> cases b.getLsbD 0
  · simp
  · simp [BitVec.xor_assoc]
  · simp only [Bool.true_bne, Bool.not_false, if_true, Bool.false_eq_true, if_false, BitVec.xor_zero]
    rw [BitVec.xor_assoc, BitVec.xor_assoc, BitVec.xor_comm (b >>> 1)]
  · simp only [bne_self_eq_false, Bool.false_eq_true, if_false, if_true, BitVec.xor_zero]
    exact k _ _ _
theorem tick_zero : tick 0#32 = 0#32 := by decide
theorem ticks_xor (n : Nat) : ∀ a b, ticks n (a ^^^ b) = ticks n a ^^^ ticks n b := by
  induction n with
  | zero => intro a b; rfl
  | succ n ih => intro a b; simp only [ticks, tick_xor, ih]
theorem ticks_zero (n : Nat) : ticks n 0#32 = 0#32 := by
  induction n with
  | zero => rfl
  | succ n ih => simp only [ticks, tick_zero, ih]
theorem ticks_add (m n : Nat) (r : BitVec 32) : ticks (m + n) r = ticks n (ticks m r) := by
  induction m generalizing r with
  | zero => simp [ticks]
  | succ m ih => rw [Nat.succ_add]; exact ih (tick r)
/-- A step loses nothing. -/
theorem tick_inj0 (r : BitVec 32) (h : tick r = 0#32) : r = 0#32 := by
  have h31 := congrArg (fun x => x.getLsbD 31) h
  simp only [tick, BitVec.getLsbD_xor, BitVec.getLsbD_ushiftRight] at h31
  have h0 : r.getLsbD 0 = false := by
    cases hb : r.getLsbD 0
    · rfl
    · rw [hb] at h31
      simp at h31
      exact absurd h31 (by decide)
  unfold tick at h
  rw [h0] at h
  simp at h
  apply BitVec.eq_of_getLsbD_eq
  intro i hi
  rcases i with _ | i
  · simpa using h0
  · have := congrArg (fun x => x.getLsbD i) h
    simpa [BitVec.getLsbD_ushiftRight, Nat.add_comm] using this
theorem ticks_inj0 (n : Nat) : ∀ r : BitVec 32, ticks n r = 0#32 → r = 0#32 := by
  induction n with
  | zero => intro r h; exact h
  | succ n ih => intro r h; exact tick_inj0 r (ih _ h)
/-- One byte, the lowest bit first. -/
def crcB (r : BitVec 32) (c : UInt8) : BitVec 32 := ticks 8 (r ^^^ BitVec.ofNat 32 c.toNat)
def crcR (r : BitVec 32) (l : List UInt8) : BitVec 32 := l.foldl crcB r
def crc (l : List UInt8) : BitVec 32 := ~~~ (crcR (BitVec.allOnes 32) l)
theorem crcR_nil (r : BitVec 32) : crcR r [] = r := rfl
theorem crcR_cons (r : BitVec 32) (c : UInt8) (l : List UInt8) : crcR r (c :: l) = crcR (crcB r c) l := rfl
theorem crcR_append (r : BitVec 32) (a b : List UInt8) : crcR r (a ++ b) = crcR (crcR r a) b := by simp [crcR]
theorem crcR_snoc (r : BitVec 32) (a : List UInt8) (c : UInt8) : crcR r (a ++ [c]) = crcB (crcR r a) c := by simp [crcR]
theorem tick_even (r : BitVec 32) (h : r.getLsbD 0 = false) : tick r = r >>> 1 := by unfold tick; rw [h]; simp
/-- Four steps by the table of half bytes: what falls out is looked up. -/
theorem ticks4_split (r : BitVec 32) : ticks 4 r = (r >>> 4) ^^^ ticks 4 (r &&& 15#32) := by
  have hs : r = (r &&& ~~~15#32) ^^^ (r &&& 15#32) := by
    apply BitVec.eq_of_getLsbD_eq
    intro i hi
    simp only [BitVec.getLsbD_xor, BitVec.getLsbD_and, BitVec.getLsbD_not, hi, decide_true, Bool.true_and]
    cases r.getLsbD i <;> cases (15#32).getLsbD i <;> rfl
  have hb : ∀ i, i < 4 → (r &&& ~~~15#32).getLsbD i = false := by
    intro i hi
    have : i = 0 ∨ i = 1 ∨ i = 2 ∨ i = 3 := by omega
    rcases this with rfl | rfl | rfl | rfl <;> simp
  generalize hx : r &&& ~~~15#32 = x at *
  have e1 : tick x = x >>> 1 := tick_even x (hb 0 (by omega))
  have e2 : tick (x >>> 1) = x >>> 1 >>> 1 := tick_even _ (by rw [BitVec.getLsbD_ushiftRight]; exact hb 1 (by omega))
  have e3 : tick (x >>> 1 >>> 1) = x >>> 1 >>> 1 >>> 1 := tick_even _ (by rw [BitVec.getLsbD_ushiftRight, BitVec.getLsbD_ushiftRight]; exact hb 2 (by omega))
  have e4 : tick (x >>> 1 >>> 1 >>> 1) = x >>> 1 >>> 1 >>> 1 >>> 1 := tick_even _ (by rw [BitVec.getLsbD_ushiftRight, BitVec.getLsbD_ushiftRight, BitVec.getLsbD_ushiftRight]; exact hb 3 (by omega))
  have e5 : ticks 4 x = r >>> 4 := by
    simp only [ticks, e1, e2, e3, e4]
    apply BitVec.eq_of_getLsbD_eq
    intro i hi
    simp only [BitVec.getLsbD_ushiftRight, ← Nat.add_assoc]
    rw [← hx]
    simp only [BitVec.getLsbD_and, BitVec.getLsbD_not]
    by_cases h : 4 + i < 32
    · have h15 : (15#32).getLsbD (1 + 1 + 1 + 1 + i) = false := by
        have : (15#32).getLsbD (1 + 1 + 1 + 1 + i) = Nat.testBit 15 (4 + i) := by simp [BitVec.getLsbD]
        rw [this]
        exact Nat.testBit_lt_two_pow (Nat.lt_of_lt_of_le (show 15 < 2 ^ 4 by decide) (Nat.pow_le_pow_right (by omega) (by omega)))
      rw [h15, show 1 + 1 + 1 + 1 + i = 4 + i by omega]
      simp [h]
    · rw [BitVec.getLsbD_of_ge _ _ (by omega), BitVec.getLsbD_of_ge _ _ (by omega)]; simp
  rw [hs, ticks_xor, e5, ← hs]
theorem ticks8 (r : BitVec 32) : ticks 8 r = ticks 4 (ticks 4 r) := rfl
end Go.Proofs.YtboommbclbjlnaaDoor.Pl
