-- Packed by pack.py, a program of this session, out of texts of this claim.
import Derived.Test.YtboommbclbjlnaaDoorPlBytes
import Derived.Test.YtboommbclbjlnaaDoorPlCrc
import Derived.Test.YtboommbclbjlnaaDoorClStepParts1
import Derived.Test.YtboommbclbjlnaaDoorPlRunes
import Derived.Test.YtboommbclbjlnaaDoorClStepParts2
import Derived.Test.YtboommbclbjlnaaDoorClStepParts3
import Derived.Test.YtboommbclbjlnaaDoorRows
import Derived.Test.YtboommbclbjlnaaDoorLfValid
import Derived.Lib.LaidU8T
import Derived.Lib.LaidTab
import Derived.PinnedBridge
import Derived.WalkKit
import Derived.ProofKit
import Derived.OpenShut
import Derived.ChangeOld
import Derived.Below
import Derived.SizedLaws
import Derived.Carry
import Derived.Deep.DeepHandedRow
import Derived.Deep.DeepWitnessRowRef
import Derived.Deep.Fields
import Derived.Lib.SmallJoins
import Derived.Deep.Slices
section
/- What the printed functions of le and seal, and the references to them, tell, in plain words. -/






namespace Go.Proofs.YtboommbclbjlnaaDoor.Pu
open Go Go.RowKit Go.Proofs.YtboommbclbjlnaaDoor.Pl Go.Proofs.YtboommbclbjlnaaDoor.Lf Go.Proofs.YtboommbclbjlnaaDoor.Fn Go.Proofs.YtboommbclbjlnaaDoorW.PrintWords
theorem u64_nat (n : Nat) (h : n < 18446744073709551616) : IntKind.u64.wrap (n : Int) = (n : Int) := by
  simp [IntKind.wrap, IntKind.bits, IntKind.signed]; omega
theorem w64 (x : Int) (h0 : -9223372036854775808 ≤ x) (h1 : x < 9223372036854775808) : wrap64 x = x := by unfold wrap64; omega
theorem str_put (n m : Nat) : strOfNums (Go.Proofs.YtboommbclbjlnaaDoor.Lf.bytesOf (n : Int) m) = ba (putN n m) := by
  unfold strOfNums Go.Proofs.YtboommbclbjlnaaDoor.Lf.bytesOf putN ba
  rw [List.map_map]
  congr 2
theorem put_eq (n : Nat) (h : n < 18446744073709551616) (m : Int) : le_Put.f (n : Int) m = some (ba (putN n (many8 m))) := by
  unfold le_Put.f
  rw [if_pos ⟨by omega, by omega⟩, str_put]
theorem ref_put_l (m : Nat) (hm : m ≤ 8) : ∀ (d n : Nat) (acc : List Int) (i : Nat), n < 18446744073709551616 → acc.length = i → i + d = m →
    Ev (fun k => rootcellarref2_Put.l0 k (n : Int) (m : Int) acc (i : Int)) (strOfNums (acc ++ (List.range d).map fun j => ((n / 256 ^ j % 256 : Nat) : Int))) := by
  intro d
  induction d with
  | zero =>
    intro n acc i hn ha hi
    refine Ev.step (f := fun _ => some (strOfNums (acc ++ []))) (fun k => ?_) (Ev.now _)
    simp only [rootcellarref2_Put.l0]
    rw [if_neg (by omega), List.append_nil]
  | succ d ih =>
    intro n acc i hn ha hi
    have e1 : IntKind.u64.wrap (Int.tdiv (n : Int) 256) = ((n / 256 : Nat) : Int) := by
      rw [show Int.tdiv (n : Int) 256 = ((n / 256 : Nat) : Int) by rw [Int.tdiv_eq_ediv_of_nonneg (by omega)]; omega]
      exact u64_nat _ (by omega)
    have e2 : (Int.tmod (n : Int) 256) % 256 = ((n % 256 : Nat) : Int) := by
      rw [Int.tmod_eq_emod_of_nonneg (by omega)]; omega
    have e3 : wrap64 ((i : Int) + 1) = ((i + 1 : Nat) : Int) := by rw [w64 _ (by omega) (by omega)]; omega
    have h := ih (n / 256) (acc ++ [((n % 256 : Nat) : Int)]) (i + 1) (by omega) (by simp [ha]) (by omega)
    have es : acc ++ [((n % 256 : Nat) : Int)] ++ (List.range d).map (fun j => ((n / 256 / 256 ^ j % 256 : Nat) : Int)) = acc ++ (List.range (d + 1)).map (fun j => ((n / 256 ^ j % 256 : Nat) : Int)) := by
      rw [List.range_succ_eq_map, List.map_cons, List.map_map, List.append_assoc]
      congr 1
      simp only [List.singleton_append, Nat.pow_zero, Nat.div_one]
      congr 1
      apply List.map_congr_left
      intro j _
      simp only [Function.comp, Nat.succ_eq_add_one, Nat.pow_succ, Nat.div_div_eq_div_mul]
      rw [Nat.mul_comm 256 (256 ^ j)]
    rw [es] at h
    refine Ev.step (fun k => ?_) h
    simp only [rootcellarref2_Put.l0]
    rw [if_pos (by omega), if_pos (by omega), if_pos (by omega), e1, e2, e3]
theorem ref_put (n m : Nat) (hn : n < 18446744073709551616) (hm : m ≤ 8) : Ev (fun k => rootcellarref2_Put.f k (n : Int) (m : Int)) (ba (putN n m)) := by
  have h := ref_put_l m hm m n [] 0 hn rfl (by omega)
  have e : strOfNums ([] ++ (List.range m).map fun j => ((n / 256 ^ j % 256 : Nat) : Int)) = ba (putN n m) := by
    unfold strOfNums putN ba
    rw [List.nil_append, List.map_map]
    rfl
  rw [e] at h
  exact h
theorem ref_put1 (n : Nat) (hn : n < 18446744073709551616) : Ev (fun k => rootcellarref2_Put.f k (n : Int) 1) (ba (putN n 1)) := ref_put n 1 hn (by omega)
theorem ref_put2 (n : Nat) (hn : n < 18446744073709551616) : Ev (fun k => rootcellarref2_Put.f k (n : Int) 2) (ba (putN n 2)) := ref_put n 2 hn (by omega)
theorem ref_put4 (n : Nat) (hn : n < 18446744073709551616) : Ev (fun k => rootcellarref2_Put.f k (n : Int) 4) (ba (putN n 4)) := ref_put n 4 hn (by omega)
theorem ref_put8 (n : Nat) (hn : n < 18446744073709551616) : Ev (fun k => rootcellarref2_Put.f k (n : Int) 8) (ba (putN n 8)) := ref_put n 8 hn (by omega)
/-! ### the sums -/
theorem bx (a b : BitVec 32) : bits .xor .u32 ((a.toNat : Nat) : Int) ((b.toNat : Nat) : Int) = (((a ^^^ b).toNat : Nat) : Int) := by
  rw [u32_xor_nat _ _ a.isLt b.isLt, BitVec.toNat_xor]
theorem nib_eq (r : BitVec 32) : nib ((r.toNat : Nat) : Int) = (((ticks 4 r).toNat : Nat) : Int) := by
  unfold nib
  have e1 : ((r.toNat : Nat) : Int) / (16 : Int) = (((r >>> 4).toNat : Nat) : Int) := by
    rw [BitVec.toNat_ushiftRight, Nat.shiftRight_eq_div_pow]; omega
  have e2 : bits .and .u32 ((r.toNat : Nat) : Int) 15 = (((r &&& 15#32).toNat : Nat) : Int) := by
    have := u32_and_nat r.toNat 15 r.isLt (by omega)
    rw [show ((15 : Nat) : Int) = 15 from rfl] at this
    rw [this, BitVec.toNat_and]; rfl
  have e3 : ((tabL.getD ((r &&& 15#32).toNat : Int).toNat 0 : Nat) : Int) = (((ticks 4 (r &&& 15#32)).toNat : Nat) : Int) := by
    have hlt : (r &&& 15#32).toNat < 16 := by
      rw [BitVec.toNat_and]; exact Nat.and_lt_two_pow (n := 4) _ (by decide)
    have key : ∀ i : Fin 16, tabL.getD i.val 0 = (ticks 4 (BitVec.ofNat 32 i.val)).toNat := by decide +kernel
    have := key ⟨(r &&& 15#32).toNat, hlt⟩
    simp only [BitVec.ofNat_toNat, BitVec.setWidth_eq] at this
    rw [Int.toNat_natCast, this]
  rw [e1, e2, e3, bx, ← ticks4_split]
theorem byteStep_eq (r : BitVec 32) (c : UInt8) : byteStep ((r.toNat : Nat) : Int) c = (((crcB r c).toNat : Nat) : Int) := by
  unfold byteStep crcB
  have hc := c.toNat_lt
  have e : (c.toNat : Int) % 4294967296 = (((BitVec.ofNat 32 c.toNat).toNat : Nat) : Int) := by
    rw [BitVec.toNat_ofNat, Nat.mod_eq_of_lt (by omega)]; omega
  rw [e, bx, nib_eq, nib_eq, ← ticks8]
theorem sumI_eq (l : List UInt8) : sumI l = (((crcR (BitVec.allOnes 32) l).toNat : Nat) : Int) := by
  have key : ∀ (l : List UInt8) (r : BitVec 32), l.foldl byteStep ((r.toNat : Nat) : Int) = (((crcR r l).toNat : Nat) : Int) := by
    intro l
    induction l with
    | nil => intro r; rfl
    | cons c l ih => intro r; rw [List.foldl_cons, byteStep_eq, ih]; rfl
  exact key l (BitVec.allOnes 32)
theorem not_eq (r : BitVec 32) : bits .xor .u32 4294967295 ((r.toNat : Nat) : Int) = (((~~~r).toNat : Nat) : Int) := by
  have := bx (BitVec.allOnes 32) r
  rw [BitVec.allOnes_xor] at this
  exact this
theorem not_eq' (r : BitVec 32) : bits .xor .u32 ((r.toNat : Nat) : Int) 4294967295 = (((~~~r).toNat : Nat) : Int) := by
  have := bx r (BitVec.allOnes 32)
  rw [BitVec.xor_allOnes] at this
  exact this
theorem sum_eq (l : List UInt8) (h : l.length ≤ 9223372036854775807) : seal_Sum.f (ba l) = some (((crc l).toNat : Nat) : Int) := by
  unfold seal_Sum.f
  rw [ba_size, if_pos h, ba_list, sumI_eq, not_eq]
  rfl
/-- A text with its sum behind it. -/
def sealed (l : List UInt8) : List UInt8 := l ++ putN (crc l).toNat 4
theorem sealed_length (l : List UInt8) : (sealed l).length = l.length + 4 := by simp [sealed, putN_length]
theorem seal_put_eq (l : List UInt8) (h : l.length ≤ 1000000000) : seal_Put.f (ba l) = some (ba (sealed l)) := by
  unfold seal_Put.f
  have hc := (crc l).isLt
  rw [sum_eq l (by omega), Option.bind_some, u64_nat _ (by omega), put_eq _ (by omega), Option.bind_some]
  have : many8 4 = 4 := by decide
  rw [this, ba_size, ba_size, putN_length, if_pos (by omega), ba_append]
  rfl
/-! ### the reference's sum: bit by bit, the byte beside the register -/
theorem ref_bit (k : Nat) (s : ByteArray) (r c : BitVec 32) (i : Int) (j : Nat) (hj : j < 8) :
    rootcellarref3_Sum.l1 (k + 1) s ((r.toNat : Nat) : Int) i ((c.toNat : Nat) : Int) (j : Int) =
      rootcellarref3_Sum.l1 k s ((((r >>> 1) ^^^ (if (r ^^^ c).getLsbD 0 then poly else 0#32)).toNat : Nat) : Int) i (((c >>> 1).toNat : Nat) : Int) ((j + 1 : Nat) : Int) := by
  have e1 : ∀ x : BitVec 32, Int.tdiv ((x.toNat : Nat) : Int) 2 % (4294967296 : Int) = (((x >>> 1).toNat : Nat) : Int) := fun x => by
    have hx := x.isLt
    rw [Int.tdiv_eq_ediv_of_nonneg (by omega), BitVec.toNat_ushiftRight, Nat.shiftRight_eq_div_pow]
    omega
  have e2 : wrap64 ((j : Int) + 1) = ((j + 1 : Nat) : Int) := by rw [w64 _ (by omega) (by omega)]; omega
  have e3 : bits .and .u32 (bits .xor .u32 ((r.toNat : Nat) : Int) ((c.toNat : Nat) : Int)) 1 = (if (r ^^^ c).getLsbD 0 then 1 else 0) := by
    rw [bx]
    have h := u32_and_nat (r ^^^ c).toNat 1 (r ^^^ c).isLt (by omega)
    rw [show ((1 : Nat) : Int) = 1 from rfl] at h
    rw [h, nat_mask1]
    have : (r ^^^ c).getLsbD 0 = decide ((r ^^^ c).toNat % 2 = 1) := by
      simp [BitVec.getLsbD, Nat.testBit_zero]
    rw [this]
    by_cases hb : (r ^^^ c).toNat % 2 = 1
    · rw [hb]; rfl
    · rw [show (r ^^^ c).toNat % 2 = 0 by omega]; rfl
  have e4 : ∀ x : BitVec 32, bits .xor .u32 ((x.toNat : Nat) : Int) 3988292384 = (((x ^^^ poly).toNat : Nat) : Int) := fun x => bx x poly
  simp only [rootcellarref3_Sum.l1]
  rw [if_pos (by omega), e3, e1, e1, e2]
  cases (r ^^^ c).getLsbD 0
  · rw [if_neg (by decide), if_neg (by decide), BitVec.xor_zero]
  · rw [if_pos (by decide), if_pos (by decide), e4]
theorem ref_bits (s : ByteArray) (i : Int) (R : Int) : ∀ (d j : Nat) (r c : BitVec 32), j + d = 8 → c.toNat < 2 ^ d →
    Ev (fun k => rootcellarref3_Sum.l0 k s (((ticks d (r ^^^ c)).toNat : Nat) : Int) (wrap64 (i + 1))) R →
    Ev (fun k => rootcellarref3_Sum.l1 k s ((r.toNat : Nat) : Int) i ((c.toNat : Nat) : Int) (j : Int)) R := by
  intro d
  induction d with
  | zero =>
    intro j r c hj hc h
    have hc0 : c = 0#32 := BitVec.eq_of_toNat_eq (by simpa using hc)
    subst hc0
    rw [BitVec.xor_zero] at h
    refine Ev.step (fun k => ?_) h
    simp only [rootcellarref3_Sum.l1]
    rw [if_neg (by omega)]
    rfl
  | succ d ih =>
    intro j r c hj hc h
    refine Ev.step (fun k => ref_bit k s r c i j (by omega)) (ih (j + 1) _ (c >>> 1) (by omega) ?_ ?_)
    · rw [BitVec.toNat_ushiftRight, Nat.shiftRight_eq_div_pow]
      have : (2 : Nat) ^ (d + 1) = 2 * 2 ^ d := by rw [Nat.pow_succ, Nat.mul_comm]
      omega
    · have e : (r >>> 1 ^^^ if (r ^^^ c).getLsbD 0 = true then poly else 0#32) ^^^ c >>> 1 = tick (r ^^^ c) := by
        unfold tick
        generalize (if (r ^^^ c).getLsbD 0 = true then poly else 0#32) = q
        rw [BitVec.ushiftRight_xor_distrib, BitVec.xor_assoc, BitVec.xor_comm q, ← BitVec.xor_assoc]
      rw [e]
      exact h
theorem bt_ba (l : List UInt8) (i : Nat) (h : i < l.length) : bt (ba l) (i : Int) = ((l[i]'h).toNat : Int) := by
  unfold bt
  have h2 : (i : Int).toNat < (ba l).size := by rw [ba_size]; simpa using h
  rw [dif_pos h2]
  have : (ba l)[(i : Int).toNat]'h2 = l[i]'h := by
    show (ba l).data[(i : Int).toNat]'h2 = _
    simp [ba]
  rw [this]
theorem ref_sum_l (l : List UInt8) (hl : l.length ≤ 1000000000) : ∀ (d i : Nat) (r : BitVec 32), i + d = l.length →
    Ev (fun k => rootcellarref3_Sum.l0 k (ba l) ((r.toNat : Nat) : Int) (i : Int)) (((~~~(crcR r (l.drop i))).toNat : Nat) : Int) := by
  intro d
  induction d with
  | zero =>
    intro i r hi
    refine Ev.step (f := fun _ => some _) (fun k => ?_) (Ev.now _)
    simp only [rootcellarref3_Sum.l0]
    rw [ba_size, if_neg (by omega), List.drop_eq_nil_of_le (by omega), crcR_nil, not_eq']
  | succ d ih =>
    intro i r hi
    have hlt : i < l.length := by omega
    have hb := (l[i]'hlt).toNat_lt
    have h := ih (i + 1) (crcB r (l[i]'hlt)) (by omega)
    rw [← crcR_cons, ← List.drop_eq_getElem_cons hlt] at h
    have e : (bt (ba l) (i : Int)) % 4294967296 = (((BitVec.ofNat 32 (l[i]'hlt).toNat).toNat : Nat) : Int) := by
      rw [bt_ba l i hlt, BitVec.toNat_ofNat, Nat.mod_eq_of_lt (by omega)]; omega
    refine Ev.step (f := fun k => rootcellarref3_Sum.l1 k (ba l) ((r.toNat : Nat) : Int) (i : Int) (((BitVec.ofNat 32 (l[i]'hlt).toNat).toNat : Nat) : Int) ((0 : Nat) : Int)) (fun k => ?_) (ref_bits (ba l) (i : Int) _ 8 0 r _ rfl ?_ ?_)
    · simp only [rootcellarref3_Sum.l0]
      rw [ba_size, if_pos (by omega), if_pos (by omega), e]
      rfl
    · rw [BitVec.toNat_ofNat, Nat.mod_eq_of_lt (by omega)]; exact hb
    · rw [w64 _ (by omega) (by omega)]
      exact h
theorem ref_sum (l : List UInt8) (hl : l.length ≤ 1000000000) : Ev (fun k => rootcellarref3_Sum.f k (ba l)) (((crc l).toNat : Nat) : Int) :=
  ref_sum_l l hl l.length 0 (BitVec.allOnes 32) (by omega)
theorem ref_seal_put (l : List UInt8) (hl : l.length ≤ 1000000000) : Ev (fun k => rootcellarref3_Put.f k (ba l)) (ba (sealed l)) := by
  have hc := (crc l).isLt
  refine Ev.bind (ref_sum l hl) ?_
  rw [u64_nat _ (by omega)]
  refine Ev.bind (ref_put (crc l).toNat 4 (by omega) (by omega)) ?_
  refine Ev.congr (f := fun _ => some (ba (sealed l))) (fun k => ?_) (Ev.now _)
  rw [ba_size, ba_size, putN_length, if_pos (by omega), ba_append]
  rfl
end Go.Proofs.YtboommbclbjlnaaDoor.Pu
end
section
/- What the printed reference to label tells: its runes are the decoder's own. -/



namespace Go.Proofs.YtboommbclbjlnaaDoor.Pu
open Go Go.Lib Go.RowKit Go.Proofs.YtboommbclbjlnaaDoor.Pl Go.Proofs.YtboommbclbjlnaaDoor.Lf Go.Proofs.YtboommbclbjlnaaDoor.Fn Go.Proofs.YtboommbclbjlnaaDoorW.PrintWords
theorem bt_all (l : List UInt8) (i : Nat) : bt (ba l) (i : Int) = ((l.getD i 0).toNat : Int) := by
  by_cases h : i < l.length
  · rw [bt_ba l i h, List.getD_eq_getElem?_getD, List.getElem?_eq_getElem h]; rfl
  · unfold bt
    rw [dif_neg (by rw [ba_size]; simpa using h), List.getD_eq_getElem?_getD, List.getElem?_eq_none (by omega)]
    rfl
theorem more_eq (l : List UInt8) (i : Nat) : rootcellarref1_more.f (ba l) (i : Int) = some (decide (i < l.length ∧ 128 ≤ (l.getD i 0).toNat ∧ (l.getD i 0).toNat ≤ 191)) := by
  unfold rootcellarref1_more.f
  rw [ba_size, bt_all]
  generalize (l.getD i 0).toNat = b
  by_cases h1 : i < l.length
  · rw [if_pos (by omega), if_pos (by omega)]
    by_cases h2 : 128 ≤ b
    · rw [if_pos (by omega)]
      by_cases h3 : b ≤ 191
      · rw [decide_eq_true (by omega), decide_eq_true ⟨h1, h2, h3⟩]
      · rw [decide_eq_false (by omega), decide_eq_false (by omega)]
    · rw [if_neg (by omega), decide_eq_false (by omega)]
  · rw [if_neg (by omega), decide_eq_false (by omega)]
def refN (n b0 b1 b2 b3 : Nat) : Int × Int :=
  if b0 < 128 then ((b0 : Int), 1)
  else if (194 ≤ b0 ∧ b0 ≤ 223) ∧ (1 < n ∧ 128 ≤ b1 ∧ b1 ≤ 191) then (((b0 : Int) - 192) * 64 + b1 - 128, 2)
  else if (224 ≤ b0 ∧ b0 ≤ 239) ∧ (1 < n ∧ 128 ≤ b1 ∧ b1 ≤ 191) ∧ (2 < n ∧ 128 ≤ b2 ∧ b2 ≤ 191) ∧ (2048 ≤ ((b0 : Int) - 224) * 4096 + ((b1 : Int) - 128) * 64 + b2 - 128 ∧ ¬ (55296 ≤ ((b0 : Int) - 224) * 4096 + ((b1 : Int) - 128) * 64 + b2 - 128 ∧ ((b0 : Int) - 224) * 4096 + ((b1 : Int) - 128) * 64 + b2 - 128 ≤ 57343)) then (((b0 : Int) - 224) * 4096 + ((b1 : Int) - 128) * 64 + b2 - 128, 3)
  else if (240 ≤ b0 ∧ b0 ≤ 244) ∧ (1 < n ∧ 128 ≤ b1 ∧ b1 ≤ 191) ∧ (2 < n ∧ 128 ≤ b2 ∧ b2 ≤ 191) ∧ (3 < n ∧ 128 ≤ b3 ∧ b3 ≤ 191) ∧ (65536 ≤ ((b0 : Int) - 240) * 262144 + ((b1 : Int) - 128) * 4096 + ((b2 : Int) - 128) * 64 + b3 - 128 ∧ ((b0 : Int) - 240) * 262144 + ((b1 : Int) - 128) * 4096 + ((b2 : Int) - 128) * 64 + b3 - 128 ≤ 1114111) then (((b0 : Int) - 240) * 262144 + ((b1 : Int) - 128) * 4096 + ((b2 : Int) - 128) * 64 + b3 - 128, 4)
  else (-1, 1)
theorem refN_eq (n b0 b1 b2 b3 : Nat) (h0 : b0 < 256) (h1 : b1 < 256) (h2 : b2 < 256) (h3 : b3 < 256) :
    refN n b0 b1 b2 b3 = if (decodeN n b0 b1 b2 b3).1 = 65533 ∧ (decodeN n b0 b1 b2 b3).2 = 1 then ((-1 : Int), (1 : Int)) else (((decodeN n b0 b1 b2 b3).1 : Int), ((decodeN n b0 b1 b2 b3).2 : Int)) := by
  unfold refN decodeN
  repeat' split
  all_goals first | rfl | (exfalso; omega) | (apply Prod.ext <;> simp only <;> omega) | skip
theorem wb (b : Nat) (h : b < 256) : wrap64 (b : Int) = b := by unfold wrap64; omega
theorem wa2 (b0 b1 : Nat) (h0 : b0 < 256) (h1 : b1 < 256) : wrap64 (wrap64 (wrap64 (wrap64 ((b0 : Int) - 192) * 64) + b1) - 128) = ((b0 : Int) - 192) * 64 + b1 - 128 := by unfold wrap64; omega
theorem wa3 (b0 b1 b2 : Nat) (h0 : b0 < 256) (h1 : b1 < 256) (h2 : b2 < 256) : wrap64 (wrap64 (wrap64 (wrap64 (wrap64 ((b0 : Int) - 224) * 4096) + wrap64 (wrap64 ((b1 : Int) - 128) * 64)) + b2) - 128) = ((b0 : Int) - 224) * 4096 + ((b1 : Int) - 128) * 64 + b2 - 128 := by unfold wrap64; omega
theorem wa4 (b0 b1 b2 b3 : Nat) (h0 : b0 < 256) (h1 : b1 < 256) (h2 : b2 < 256) (h3 : b3 < 256) : wrap64 (wrap64 (wrap64 (wrap64 (wrap64 (wrap64 ((b0 : Int) - 240) * 262144) + wrap64 (wrap64 ((b1 : Int) - 128) * 4096)) + wrap64 (wrap64 ((b2 : Int) - 128) * 64)) + b3) - 128) = ((b0 : Int) - 240) * 262144 + ((b1 : Int) - 128) * 4096 + ((b2 : Int) - 128) * 64 + b3 - 128 := by unfold wrap64; omega
def c3 (b0 b1 b2 : Nat) : Int := ((b0 : Int) - 224) * 4096 + ((b1 : Int) - 128) * 64 + b2 - 128
def c4 (b0 b1 b2 b3 : Nat) : Int := ((b0 : Int) - 240) * 262144 + ((b1 : Int) - 128) * 4096 + ((b2 : Int) - 128) * 64 + b3 - 128
section
variable (s : ByteArray) (n b0 b1 b2 b3 : Nat) (h0 : b0 < 256) (h1 : b1 < 256) (h2 : b2 < 256) (h3 : b3 < 256) (S : (s.size : Int) = n)
    (B0 : bt s 0 = b0) (B1 : bt s 1 = b1) (B2 : bt s 2 = b2) (B3 : bt s 3 = b3)
include h0 h1 h2 h3 S B1 B2 B3
theorem rj3 (k : Nat) (q : Bool) (hq : q = true → 3 < n) : rootcellarref1_Rune.j3 (k + 1) s b0 q = some (if q = true ∧ (65536 ≤ c4 b0 b1 b2 b3 ∧ c4 b0 b1 b2 b3 ≤ 1114111) then (c4 b0 b1 b2 b3, 4) else (-1, 1)) := by
  cases q
  · rfl
  · have hn := hq rfl
    have g1 : (1 : Int) < n := by omega
    have g2 : (2 : Int) < n := by omega
    have g3 : (3 : Int) < n := by omega
    simp only [rootcellarref1_Rune.j3, S, if_pos g1, if_pos g2, if_pos g3, if_true, B1, B2, B3, wb b1 h1, wb b2 h2, wb b3 h3, wa4 b0 b1 b2 b3 h0 h1 h2 h3]
    show (if c4 b0 b1 b2 b3 ≥ 65536 then _ else _) = _
    by_cases x : c4 b0 b1 b2 b3 ≥ 65536
    · rw [if_pos x]
      by_cases y : c4 b0 b1 b2 b3 ≤ 1114111
      · rw [if_pos (show ((b0 : Int) - 240) * 262144 + ((b1 : Int) - 128) * 4096 + ((b2 : Int) - 128) * 64 + b3 - 128 ≤ 1114111 from y), if_pos ⟨trivial, x, y⟩]; rfl
      · rw [if_neg (show ¬ ((b0 : Int) - 240) * 262144 + ((b1 : Int) - 128) * 4096 + ((b2 : Int) - 128) * 64 + b3 - 128 ≤ 1114111 from y), if_neg (fun h => y h.2.2)]
    · rw [if_neg x, if_neg (fun h => x h.2.1)]
variable (m1 m2 m3 : Bool) (M1 : rootcellarref1_more.f s 1 = some m1) (M2 : rootcellarref1_more.f s 2 = some m2) (M3 : rootcellarref1_more.f s 3 = some m3) (q1 : m1 = true → 1 < n) (q2 : m2 = true → 2 < n) (q3 : m3 = true → 3 < n)
include M1 M2 M3 q3
theorem rj2 (k : Nat) : rootcellarref1_Rune.j2 (k + 2) s b0 = some (if (240 ≤ b0 ∧ b0 ≤ 244) ∧ m1 = true ∧ m2 = true ∧ m3 = true ∧ (65536 ≤ c4 b0 b1 b2 b3 ∧ c4 b0 b1 b2 b3 ≤ 1114111) then (c4 b0 b1 b2 b3, 4) else (-1, 1)) := by
  have J := fun q hq => rj3 s n b0 b1 b2 b3 h0 h1 h2 h3 S B1 B2 B3 k q hq
  have Jf := J false (fun h => by cases h)
  have J3 := J m3 q3
  rw [if_neg (by simp)] at Jf
  simp only [rootcellarref1_Rune.j2, M1, M2, M3, Option.bind_some]
  by_cases x : 240 ≤ b0
  · rw [if_pos (show (b0 : Int) ≥ 240 by omega)]
    by_cases y : b0 ≤ 244
    · rw [if_pos (show (b0 : Int) ≤ 244 by omega)]
      cases m1
      · rw [if_neg (by decide), Jf, if_neg (by simp)]
      · cases m2
        · rw [if_pos rfl, if_neg (by decide), Jf, if_neg (by simp)]
        · rw [if_pos rfl, if_pos rfl, J3]
          congr 1
          by_cases z : m3 = true ∧ (65536 ≤ c4 b0 b1 b2 b3 ∧ c4 b0 b1 b2 b3 ≤ 1114111)
          · rw [if_pos z, if_pos ⟨⟨x, y⟩, rfl, rfl, z⟩]
          · rw [if_neg z, if_neg (fun h => z h.2.2.2)]
    · rw [if_neg (show ¬ (b0 : Int) ≤ 244 by omega), Jf, if_neg (fun h => y h.1.2)]
  · rw [if_neg (show ¬ (b0 : Int) ≥ 240 by omega), Jf, if_neg (fun h => x h.1.1)]
include q2
theorem rj1 (k : Nat) (q : Bool) (hq : q = true → m2 = true) : rootcellarref1_Rune.j1 (k + 3) s b0 q = some (if q = true ∧ (2048 ≤ c3 b0 b1 b2 ∧ ¬ (55296 ≤ c3 b0 b1 b2 ∧ c3 b0 b1 b2 ≤ 57343)) then (c3 b0 b1 b2, 3) else if (240 ≤ b0 ∧ b0 ≤ 244) ∧ m1 = true ∧ m2 = true ∧ m3 = true ∧ (65536 ≤ c4 b0 b1 b2 b3 ∧ c4 b0 b1 b2 b3 ≤ 1114111) then (c4 b0 b1 b2 b3, 4) else (-1, 1)) := by
  have J2 := rj2 s n b0 b1 b2 b3 h0 h1 h2 h3 S B1 B2 B3 m1 m2 m3 M1 M2 M3 q3 k
  cases q
  · rw [if_neg (by simp), ← J2]
    simp only [rootcellarref1_Rune.j1]
    rw [if_neg (by decide)]
  · have hn := q2 (hq rfl)
    have g1 : (1 : Int) < n := by omega
    have g2 : (2 : Int) < n := by omega
    simp only [rootcellarref1_Rune.j1, S, if_pos g1, if_pos g2, if_true, B1, B2, wb b1 h1, wb b2 h2, wa3 b0 b1 b2 h0 h1 h2]
    show (if c3 b0 b1 b2 ≥ 2048 then (if c3 b0 b1 b2 ≥ 55296 then (if c3 b0 b1 b2 ≤ 57343 then _ else some (c3 b0 b1 b2, 3)) else some (c3 b0 b1 b2, 3)) else _) = _
    by_cases x : c3 b0 b1 b2 ≥ 2048
    · rw [if_pos x]
      by_cases y : c3 b0 b1 b2 ≥ 55296
      · rw [if_pos y]
        by_cases z : c3 b0 b1 b2 ≤ 57343
        · rw [if_pos z, if_neg (fun h => h.2.2 ⟨y, z⟩)]; exact J2
        · rw [if_neg z, if_pos ⟨trivial, x, fun h => z h.2⟩]
      · rw [if_neg y, if_pos ⟨trivial, x, fun h => y h.1⟩]
    · rw [if_neg x, if_neg (fun h => x h.2.1)]; exact J2
include q1
theorem rj0 (k : Nat) (q : Bool) (hq : q = true → m1 = true) : rootcellarref1_Rune.j0 (k + 4) s b0 q = some (if q = true then (((b0 : Int) - 192) * 64 + b1 - 128, 2) else if ((224 ≤ b0 ∧ b0 ≤ 239) ∧ m1 = true ∧ m2 = true) ∧ (2048 ≤ c3 b0 b1 b2 ∧ ¬ (55296 ≤ c3 b0 b1 b2 ∧ c3 b0 b1 b2 ≤ 57343)) then (c3 b0 b1 b2, 3) else if (240 ≤ b0 ∧ b0 ≤ 244) ∧ m1 = true ∧ m2 = true ∧ m3 = true ∧ (65536 ≤ c4 b0 b1 b2 b3 ∧ c4 b0 b1 b2 b3 ≤ 1114111) then (c4 b0 b1 b2 b3, 4) else (-1, 1)) := by
  have J := fun q hq => rj1 s n b0 b1 b2 b3 h0 h1 h2 h3 S B1 B2 B3 m1 m2 m3 M1 M2 M3 q2 q3 k q hq
  revert J
  generalize (if (240 ≤ b0 ∧ b0 ≤ 244) ∧ m1 = true ∧ m2 = true ∧ m3 = true ∧ (65536 ≤ c4 b0 b1 b2 b3 ∧ c4 b0 b1 b2 b3 ≤ 1114111) then (c4 b0 b1 b2 b3, 4) else ((-1 : Int), (1 : Int))) = E
  intro J
  have Jf := J false (fun h => by cases h)
  rw [if_neg (by simp)] at Jf
  have J2 := J m2 (fun h => h)
  cases q
  · rw [if_neg (by decide)]
    simp only [rootcellarref1_Rune.j0, M1, M2, Option.bind_some]
    rw [if_neg (by decide)]
    by_cases x : 224 ≤ b0
    · rw [if_pos (show (b0 : Int) ≥ 224 by omega)]
      by_cases y : b0 ≤ 239
      · rw [if_pos (show (b0 : Int) ≤ 239 by omega)]
        cases m1
        · rw [if_neg (by decide), Jf, if_neg (by simp)]
        · rw [if_pos rfl, J2]
          congr 1
          by_cases z : m2 = true ∧ (2048 ≤ c3 b0 b1 b2 ∧ ¬ (55296 ≤ c3 b0 b1 b2 ∧ c3 b0 b1 b2 ≤ 57343))
          · rw [if_pos z, if_pos ⟨⟨⟨x, y⟩, rfl, z.1⟩, z.2⟩]
          · rw [if_neg z, if_neg (fun h => z ⟨h.1.2.2, h.2⟩)]
      · rw [if_neg (show ¬ (b0 : Int) ≤ 239 by omega), Jf, if_neg (fun h => y h.1.1.2)]
    · rw [if_neg (show ¬ (b0 : Int) ≥ 224 by omega), Jf, if_neg (fun h => x h.1.1.1)]
  · have hn := q1 (hq rfl)
    have g1 : (1 : Int) < n := by omega
    simp only [rootcellarref1_Rune.j0, S, if_pos g1, if_true, B1, wb b1 h1, wa2 b0 b1 h0 h1]
include B0
theorem rune_N (hn : 1 ≤ n) (k : Nat) : rootcellarref1_Rune.f (k + 4) s = some (if b0 < 128 then ((b0 : Int), 1) else if (194 ≤ b0 ∧ b0 ≤ 223) ∧ m1 = true then (((b0 : Int) - 192) * 64 + b1 - 128, 2) else if ((224 ≤ b0 ∧ b0 ≤ 239) ∧ m1 = true ∧ m2 = true) ∧ (2048 ≤ c3 b0 b1 b2 ∧ ¬ (55296 ≤ c3 b0 b1 b2 ∧ c3 b0 b1 b2 ≤ 57343)) then (c3 b0 b1 b2, 3) else if (240 ≤ b0 ∧ b0 ≤ 244) ∧ m1 = true ∧ m2 = true ∧ m3 = true ∧ (65536 ≤ c4 b0 b1 b2 b3 ∧ c4 b0 b1 b2 b3 ≤ 1114111) then (c4 b0 b1 b2 b3, 4) else (-1, 1)) := by
  have J := fun q hq => rj0 s n b0 b1 b2 b3 h0 h1 h2 h3 S B1 B2 B3 m1 m2 m3 M1 M2 M3 q1 q2 q3 k q hq
  revert J
  generalize (if ((224 ≤ b0 ∧ b0 ≤ 239) ∧ m1 = true ∧ m2 = true) ∧ (2048 ≤ c3 b0 b1 b2 ∧ ¬ (55296 ≤ c3 b0 b1 b2 ∧ c3 b0 b1 b2 ≤ 57343)) then (c3 b0 b1 b2, (3 : Int)) else (if (240 ≤ b0 ∧ b0 ≤ 244) ∧ m1 = true ∧ m2 = true ∧ m3 = true ∧ (65536 ≤ c4 b0 b1 b2 b3 ∧ c4 b0 b1 b2 b3 ≤ 1114111) then (c4 b0 b1 b2 b3, 4) else ((-1 : Int), (1 : Int)))) = E
  intro J
  have Jf := J false (fun h => by cases h)
  rw [if_neg (by simp)] at Jf
  have J1 := J m1 (fun h => h)
  have g0 : (0 : Int) < n := by omega
  simp only [rootcellarref1_Rune.f, S, if_pos g0, B0, wb b0 h0, M1, Option.bind_some]
  by_cases w : b0 < 128
  · rw [if_pos (show (b0 : Int) < 128 by omega), if_pos w]
  · rw [if_neg (show ¬ (b0 : Int) < 128 by omega), if_neg w]
    by_cases x : 194 ≤ b0
    · rw [if_pos (show (b0 : Int) ≥ 194 by omega)]
      by_cases y : b0 ≤ 223
      · rw [if_pos (show (b0 : Int) ≤ 223 by omega), J1]
        congr 1
        by_cases z : m1 = true
        · rw [if_pos z, if_pos ⟨⟨x, y⟩, z⟩]
        · rw [if_neg z, if_neg (fun h => z h.2)]
      · rw [if_neg (show ¬ (b0 : Int) ≤ 223 by omega), Jf, if_neg (fun h => y h.1.2)]
    · rw [if_neg (show ¬ (b0 : Int) ≥ 194 by omega), Jf, if_neg (fun h => x h.1.1)]
end
/-- The rune in front, as the reference tells it. -/
def rr (l : List UInt8) : Int × Int := if (decodeL l).1 = 65533 ∧ (decodeL l).2 = 1 then (-1, 1) else (((decodeL l).1 : Int), ((decodeL l).2 : Int))
theorem rune_eq (l : List UInt8) (hl : l ≠ []) (k : Nat) : rootcellarref1_Rune.f (k + 4) (ba l) = some (rr l) := by
  have hn : 1 ≤ l.length := List.length_pos_iff.2 hl
  have e := refN_eq l.length _ _ _ _ (l.getD 0 0).toNat_lt (l.getD 1 0).toNat_lt (l.getD 2 0).toNat_lt (l.getD 3 0).toNat_lt
  rw [← decodeL_N] at e
  unfold rr
  rw [← e, rune_N (ba l) l.length _ _ _ _ (l.getD 0 0).toNat_lt (l.getD 1 0).toNat_lt (l.getD 2 0).toNat_lt (l.getD 3 0).toNat_lt (by rw [ba_size]) (bt_all l 0) (bt_all l 1) (bt_all l 2) (bt_all l 3) _ _ _ (more_eq l 1) (more_eq l 2) (more_eq l 3)
    (fun h => (of_decide_eq_true h).1) (fun h => (of_decide_eq_true h).1) (fun h => (of_decide_eq_true h).1) hn k]
  unfold refN c3 c4
  simp only [decide_eq_true_eq, and_assoc]
theorem ev_rune (l : List UInt8) (hl : l ≠ []) : Ev (fun k => rootcellarref1_Rune.f k (ba l)) (rr l) :=
  ⟨4, fun k hk => by obtain ⟨k, rfl⟩ : ∃ m, k = m + 4 := ⟨k - 4, by omega⟩; exact rune_eq l hl k⟩
theorem rr_width (l : List UInt8) (_hl : l ≠ []) : (rr l).2 = (((decodeL l).2 : Nat) : Int) := by
  unfold rr
  by_cases h : (decodeL l).1 = 65533 ∧ (decodeL l).2 = 1
  · rw [if_pos h, h.2]; rfl
  · rw [if_neg h]
theorem rr_bad (l : List UInt8) : ((rr l).1 < 0) = ((decodeL l).1 = 65533 ∧ (decodeL l).2 = 1) := by
  unfold rr
  by_cases h : (decodeL l).1 = 65533 ∧ (decodeL l).2 = 1
  · rw [if_pos h]; simp [h]
  · rw [if_neg h]; simp [h]
theorem ref_valid_l (l : List UInt8) : Ev (fun k => rootcellarref1_Valid.l0 k (ba l)) (validD l) := by
  induction hn : l.length using Nat.strongRecOn generalizing l with
  | _ n ih =>
    by_cases e : l = []
    · subst e
      refine Ev.step (f := fun _ => some true) (fun k => ?_) (Ev.now _)
      simp only [rootcellarref1_Valid.l0]
      rw [ba_toList, if_pos rfl]
    · have hw := decodeL_le l e
      have hs := drop_short l e
      refine Ev.step (f := fun k => (rootcellarref1_Rune.f k (ba l)).bind fun bt => (if bt.1 < 0 then (some false) else (if 0 ≤ bt.2 then (if bt.2 ≤ ((ba l).size : Int) then (rootcellarref1_Valid.l0 k ((ba l).extract (bt.2 : Int).toNat (ba l).size)) else (none)) else (none)))) (fun k => ?_) (Ev.bind (ev_rune l e) ?_)
      · simp only [rootcellarref1_Valid.l0]
        rw [ba_toList, if_neg e]
      · rw [validD_step l e]
        by_cases hb : (decodeL l).1 = 65533 ∧ (decodeL l).2 = 1
        · refine Ev.congr (f := fun _ => some false) (fun k => ?_) (by rw [if_pos hb]; exact Ev.now _)
          rw [if_pos (by rw [rr_bad]; exact hb)]
        · rw [if_neg hb]
          refine Ev.congr (fun k => ?_) (ih _ (by omega) (l.drop (decodeL l).2) rfl)
          rw [if_neg (by rw [rr_bad]; exact hb), rr_width l e, if_pos (by omega), if_pos (by rw [ba_size]; omega), Int.toNat_natCast, ba_drop]
theorem ref_count_l (l : List UInt8) : ∀ c : Nat, c + l.length ≤ 1000000000 → Ev (fun k => rootcellarref1_Count.l0 k (ba l) (c : Int)) (((c + (runes l).length : Nat)) : Int) := by
  induction hn : l.length using Nat.strongRecOn generalizing l with
  | _ n ih =>
    intro c hc
    by_cases e : l = []
    · subst e
      refine Ev.step (f := fun _ => some _) (fun k => ?_) (Ev.now _)
      simp only [rootcellarref1_Count.l0]
      rw [ba_toList, if_pos rfl, runes_nil]; rfl
    · have hw := decodeL_le l e
      have hs := drop_short l e
      refine Ev.step (f := fun k => (rootcellarref1_Rune.f k (ba l)).bind fun bt => (if 0 ≤ bt.2 then (if bt.2 ≤ ((ba l).size : Int) then (rootcellarref1_Count.l0 k ((ba l).extract (bt.2 : Int).toNat (ba l).size) (wrap64 ((c : Int) + 1))) else (none)) else (none))) (fun k => ?_) (Ev.bind (ev_rune l e) ?_)
      · simp only [rootcellarref1_Count.l0]
        rw [ba_toList, if_neg e]
      · have h := ih _ (by omega) (l.drop (decodeL l).2) rfl (c + 1) (by omega)
        rw [show c + (runes l).length = c + 1 + (runes (l.drop (decodeL l).2)).length by rw [runes_cons l e, List.length_cons]; omega]
        refine Ev.congr (fun k => ?_) h
        rw [rr_width l e, if_pos (by omega), if_pos (by rw [ba_size]; omega), Int.toNat_natCast, ba_drop, w64 _ (by omega) (by omega)]
        rfl
theorem ref_valid (l : List UInt8) : Ev (fun k => rootcellarref1_Valid.f k (ba l)) (validD l) := ref_valid_l l
theorem ref_count (l : List UInt8) (h : l.length ≤ 1000000000) : Ev (fun k => rootcellarref1_Count.f k (ba l)) (((runes l).length : Nat) : Int) := by
  have := ref_count_l l 0 (by omega)
  rw [Nat.zero_add] at this
  exact this
/-- Is a byte one that a name may have? -/
def fineB (b : UInt8) : Bool := decide (32 ≤ b.toNat) && !(b.toNat == 127)
theorem ref_right_l (l : List UInt8) (h : l.length ≤ 1000000000) : ∀ (d i : Nat), i + d = l.length → Ev (fun k => rootcellarref1_Right.l0 k (ba l) (i : Int)) ((l.drop i).all fineB) := by
  intro d
  induction d with
  | zero =>
    intro i hi
    refine Ev.step (f := fun _ => some _) (fun k => ?_) (Ev.now _)
    simp only [rootcellarref1_Right.l0]
    rw [ba_size, if_neg (by omega), List.drop_eq_nil_of_le (by omega)]; rfl
  | succ d ih =>
    intro i hi
    have hlt : i < l.length := by omega
    have hd := List.drop_eq_getElem_cons hlt
    have hb := bt_ba l i hlt
    by_cases h1 : (l[i]'hlt).toNat < 32
    · refine Ev.step (f := fun _ => some _) (fun k => ?_) (Ev.now _)
      simp only [rootcellarref1_Right.l0]
      rw [ba_size, if_pos (by omega), if_pos (by omega), hb, if_pos (by omega), hd, List.all_cons, show fineB (l[i]'hlt) = false by unfold fineB; rw [decide_eq_false (by omega)]; rfl]; rfl
    · by_cases h2 : (l[i]'hlt).toNat = 127
      · refine Ev.step (f := fun _ => some _) (fun k => ?_) (Ev.now _)
        simp only [rootcellarref1_Right.l0]
        rw [ba_size, if_pos (by omega), if_pos (by omega), hb, if_neg (by omega), if_pos (by omega), hd, List.all_cons, show fineB (l[i]'hlt) = false by unfold fineB; rw [h2]; rfl]; rfl
      · have e : (l.drop i).all fineB = (l.drop (i + 1)).all fineB := by
          rw [hd, List.all_cons, show fineB (l[i]'hlt) = true by unfold fineB; rw [decide_eq_true (by omega)]; simpa using h2]; rfl
        rw [e]
        refine Ev.step (fun k => ?_) (ih (i + 1) (by omega))
        simp only [rootcellarref1_Right.l0]
        rw [ba_size, if_pos (by omega), if_pos (by omega), hb, if_neg (by omega), if_neg (by omega), w64 _ (by omega) (by omega)]
        rfl
theorem shape (l : List UInt8) (hl : l ≠ []) (hv : ¬ ((decodeL l).1 = 65533 ∧ (decodeL l).2 = 1)) :
    (∃ (b : UInt8) (r : List UInt8), l = b :: r ∧ b.toNat < 128 ∧ decodeL l = (b.toNat, 1)) ∨ ((∀ b ∈ l.take (decodeL l).2, 128 ≤ b.toNat) ∧ 128 ≤ (decodeL l).1) := by
  have h0 := (l.getD 0 0).toNat_lt
  have h1 := (l.getD 1 0).toNat_lt
  have h2 := (l.getD 2 0).toNat_lt
  have h3 := (l.getD 3 0).toNat_lt
  have hlen : 0 < l.length := List.length_pos_iff.2 hl
  rw [decodeL_N] at hv ⊢
  have at_ : ∀ i, i < l.length → l[i]? = some (l.getD i 0) := fun i hi => by
    rw [List.getD_eq_getElem?_getD, List.getElem?_eq_getElem hi]; rfl
  have tk : ∀ w, w ≤ 4 → (∀ i, i < w → 128 ≤ (l.getD i 0).toNat) → ∀ b ∈ l.take w, 128 ≤ b.toNat := by
    intro w _ hw b hb
    obtain ⟨i, hi, e⟩ := List.mem_take_iff_getElem.1 hb
    have hi1 : i < w := by omega
    have := hw i hi1
    rw [List.getD_eq_getElem?_getD, List.getElem?_eq_getElem (by omega)] at this
    rw [← e]
    exact this
  rcases decodeN_shape l.length (l.getD 0 0).toNat (l.getD 1 0).toNat (l.getD 2 0).toNat (l.getD 3 0).toNat with ⟨c, e⟩ | ⟨c1, c2, c3, cv, e⟩ | ⟨c1, c2, c3, c4, cv, cs, e⟩ | ⟨c1, c2, c3, c4, c5, cv, cw, e⟩ | e
  · left
    cases l with
    | nil => exact absurd rfl hl
    | cons b r => exact ⟨b, r, rfl, c, e⟩
  · right
    rw [e]
    refine ⟨tk 2 (by omega) (fun i hi => ?_), cv⟩
    have : i = 0 ∨ i = 1 := by omega
    rcases this with rfl | rfl <;> omega
  · right
    rw [e]
    refine ⟨tk 3 (by omega) (fun i hi => ?_), by simp only; omega⟩
    have : i = 0 ∨ i = 1 ∨ i = 2 := by omega
    rcases this with rfl | rfl | rfl <;> omega
  · right
    rw [e]
    refine ⟨tk 4 (by omega) (fun i hi => ?_), by simp only; omega⟩
    have : i = 0 ∨ i = 1 ∨ i = 2 ∨ i = 3 := by omega
    rcases this with rfl | rfl | rfl | rfl <;> omega
  · exact absurd (by rw [e]; exact ⟨rfl, rfl⟩) hv
theorem bytes_fine (l : List UInt8) (hv : validD l = true) : (runes l).all fine = l.all fineB := by
  induction hn : l.length using Nat.strongRecOn generalizing l with
  | _ n ih =>
    by_cases e : l = []
    · subst e; rfl
    · have hs := drop_short l e
      rw [validD_step l e] at hv
      by_cases hb : (decodeL l).1 = 65533 ∧ (decodeL l).2 = 1
      · rw [if_pos hb] at hv; exact absurd hv (by decide)
      · rw [if_neg hb] at hv
        have h := ih _ (by omega) (l.drop (decodeL l).2) hv rfl
        rw [runes_cons l e, List.all_cons, h]
        conv => rhs; rw [← List.take_append_drop (decodeL l).2 l, List.all_append]
        congr 1
        rcases shape l e hb with ⟨b, r, rfl, hb1, hd⟩ | ⟨h1, h2⟩
        · rw [hd]
          simp only [List.take_succ_cons, List.take_zero, List.all_cons, List.all_nil, Bool.and_true]
          rfl
        · have : fine (decodeL l) = true := by unfold fine; rw [decide_eq_true (by omega)]; simp; omega
          rw [this]
          symm
          rw [List.all_eq_true]
          intro b hb
          have := h1 b hb
          unfold fineB; rw [decide_eq_true (by omega)]; simp; omega
theorem rightB_bytes (l : List UInt8) : rightB l = (validD l && (!l.isEmpty && (decide ((runes l).length ≤ 24) && (!(l.headD 0).toNat == 32 && (!(l.getLastD 0).toNat == 32 && l.all fineB))))) := by
  unfold rightB
  cases hv : validD l
  · simp
  · rw [bytes_fine l hv]
    cases l.all fineB <;> simp
theorem ref_right_j (l : List UInt8) (h : l.length ≤ 1000000000) (q : Bool) : Ev (fun k => rootcellarref1_Right.j0 k (ba l) q) (!q && l.all fineB) := by
  cases q
  · refine Ev.step (fun k => ?_) (ref_right_l l h l.length 0 (by omega))
    simp only [rootcellarref1_Right.j0]
    rw [if_neg (by decide)]
    rfl
  · refine Ev.step (f := fun _ => some false) (fun k => ?_) (Ev.now _)
    simp only [rootcellarref1_Right.j0]
    exact if_pos trivial
theorem ref_right (l : List UInt8) (h : l.length ≤ 1000000000) : Ev (fun k => rootcellarref1_Right.f k (ba l)) (rightB l) := by
  rw [rightB_bytes]
  refine Ev.bind (ref_valid l) ?_
  cases hv : validD l
  · refine Ev.congr (fun k => ?_) (ref_right_j l h true)
    rw [if_neg (by decide)]
  · by_cases e : l = []
    · subst e
      refine Ev.congr (fun k => ?_) (ref_right_j [] h true)
      rw [if_pos rfl, ba_toList, if_pos rfl]
    · have hlen : 0 < l.length := List.length_pos_iff.2 e
      have hie : l.isEmpty = false := by simpa using e
      rw [hie, Bool.not_false, Bool.true_and, Bool.true_and]
      refine Ev.congr (fun k => by rw [if_pos rfl, ba_toList, if_neg e]) (Ev.bind (ref_count l h) ?_)
      by_cases hc : (runes l).length ≤ 24
      · rw [decide_eq_true hc, Bool.true_and]
        have hw : wrap64 ((l.length : Int) - 1) = ((l.length - 1 : Nat) : Int) := by rw [w64 _ (by omega) (by omega)]; omega
        have hf : l.headD 0 = l.getD 0 0 := by cases l <;> rfl
        have hl : l.getLastD 0 = l.getD (l.length - 1) 0 := by
          rw [List.getLastD_eq_getLast?, List.getLast?_eq_getElem?, List.getD_eq_getElem?_getD]
        rw [hf, hl]
        have b0 := bt_all l 0
        have b1 := bt_all l (l.length - 1)
        by_cases hs : (l.getD 0 0).toNat = 32
        · rw [show ((l.getD 0 0).toNat == 32) = true by simpa using hs]
          refine Ev.congr (fun k => ?_) (ref_right_j l h true)
          rw [if_neg (by omega), ba_size, if_pos (by omega), if_pos (by rw [show (0 : Int) = ((0 : Nat) : Int) from rfl, b0]; omega)]
        · rw [show ((l.getD 0 0).toNat == 32) = false by simpa using hs, Bool.not_false, Bool.true_and]
          refine Ev.congr (fun k => ?_) (ref_right_j l h ((l.getD (l.length - 1) 0).toNat == 32))
          rw [if_neg (by omega), ba_size, if_pos (by omega), if_neg (by rw [show (0 : Int) = ((0 : Nat) : Int) from rfl, b0]; omega), hw, if_pos (by omega), if_pos (by omega), b1]
          congr 1
          by_cases z : (l.getD (l.length - 1) 0).toNat = 32
          · rw [z]; rfl
          · rw [show ((l.getD (l.length - 1) 0).toNat == 32) = false by simpa using z]
            simpa using (by omega : ¬ ((l.getD (l.length - 1) 0).toNat : Int) = 32)
      · rw [decide_eq_false hc]
        refine Ev.congr (fun k => ?_) (ref_right_j l h true)
        rw [if_pos (by omega)]
theorem right_eq (l : List UInt8) (h : l.length ≤ 1000000000) : label_Right.f (ba l) = some (rightB l) := by
  unfold label_Right.f
  rw [ba_size, if_pos (by omega), ba_list]
end Go.Proofs.YtboommbclbjlnaaDoor.Pu
end
section
/- What the printed functions of step and of the reference to it tell, in plain words: whether a step is right, and its record. -/



namespace Go.Proofs.YtboommbclbjlnaaDoor.Pu
open Go Go.Lib Go.RowKit Go.Proofs.YtboommbclbjlnaaDoor.Pl Go.Proofs.YtboommbclbjlnaaDoor.Lf Go.Proofs.YtboommbclbjlnaaDoor.Fn Go.Proofs.YtboommbclbjlnaaDoorW.PrintWords
def numB (n : Int) : Bool := decide (0 ≤ n) && decide (n ≤ 2147483647)
/-- Is a step right? -/
def rightS (kind a b : Int) (t : List UInt8) : Bool := (t.isEmpty || (kind == 1 && rightB t)) && (decide (1 ≤ kind) && (decide (kind ≤ 8) && (numB a && numB b)))
theorem number_eq (n : Int) : step_number.f n = some (numB n) := by
  unfold step_number.f numB
  by_cases h : 0 ≤ n
  · rw [if_pos h, decide_eq_true h, Bool.true_and]
  · rw [if_neg h, decide_eq_false h, Bool.false_and]
theorem right_j (kind a b n : Int) (t : ByteArray) (q : Bool) : Ev (fun k => step_Right.j0 k q kind a b n t) (!q && (decide (1 ≤ kind) && (decide (kind ≤ 8) && (numB a && numB b)))) := by
  refine Ev.step (f := fun _ => some (!q && (decide (1 ≤ kind) && (decide (kind ≤ 8) && (numB a && numB b))))) (fun k => ?_) (Ev.now _)
  simp only [step_Right.j0, number_eq, Option.bind_some]
  cases q
  · rw [if_neg (by decide)]
    by_cases h1 : 1 ≤ kind
    · rw [if_pos h1, decide_eq_true h1]
      by_cases h2 : kind ≤ 8
      · rw [if_pos h2, decide_eq_true h2]
        cases numB a <;> simp
      · rw [if_neg h2, decide_eq_false h2]; rfl
    · rw [if_neg h1, decide_eq_false h1]; rfl
  · rfl
theorem step_right (kind a b n : Int) (l : List UInt8) (hl : l.length ≤ 1000000000) : Ev (fun k => step_Right.f k kind a b n (ba l)) (rightS kind a b l) := by
  unfold rightS
  by_cases e : l = []
  · subst e
    refine Ev.congr (fun k => ?_) (right_j kind a b n (ba []) false)
    unfold step_Right.f
    rw [ba_toList, if_pos rfl]
  · have hie : l.isEmpty = false := by simpa using e
    rw [hie, Bool.false_or]
    by_cases h1 : kind = 1
    · subst h1
      have hj := right_j 1 a b n (ba l) (!rightB l)
      rw [Bool.not_not] at hj
      refine Ev.congr (fun k => ?_) hj
      unfold step_Right.f
      rw [ba_toList, if_neg e, if_pos rfl, right_eq l hl, Option.bind_some]
    · rw [show (kind == 1) = false by simpa using h1, Bool.false_and]
      refine Ev.congr (fun k => ?_) (right_j kind a b n (ba l) true)
      unfold step_Right.f
      rw [ba_toList, if_neg e, if_neg h1]
theorem tail_eq (kind a b : Int) : (if kind ≥ 1 then (if kind ≤ 8 then (if a ≥ 0 then (if a ≤ 2147483647 then (if b ≥ 0 then (some (decide (b ≤ 2147483647))) else (some false)) else (some false)) else (some false)) else (some false)) else (some false)) = some (decide (1 ≤ kind) && (decide (kind ≤ 8) && (numB a && numB b))) := by
  unfold numB
  by_cases h1 : 1 ≤ kind
  · rw [if_pos h1, decide_eq_true h1]
    by_cases h2 : kind ≤ 8
    · rw [if_pos h2, decide_eq_true h2]
      by_cases h3 : 0 ≤ a
      · rw [if_pos h3, decide_eq_true h3]
        by_cases h4 : a ≤ 2147483647
        · rw [if_pos h4, decide_eq_true h4]
          by_cases h5 : 0 ≤ b
          · rw [if_pos h5, decide_eq_true h5]; simp
          · rw [if_neg h5, decide_eq_false h5]; simp
        · rw [if_neg h4, decide_eq_false h4]; simp
      · rw [if_neg h3, decide_eq_false h3]; simp
    · rw [if_neg h2, decide_eq_false h2]; simp
  · rw [if_neg h1, decide_eq_false h1]; simp
theorem ref_step_right (kind a b n : Int) (l : List UInt8) (hl : l.length ≤ 1000000000) : Ev (fun k => rootcellarref12_Right.f k kind a b n (ba l)) (rightS kind a b l) := by
  unfold rightS
  by_cases e : l = []
  · subst e
    refine Ev.congr (f := fun _ => some _) (fun k => ?_) (Ev.now _)
    unfold rootcellarref12_Right.f
    rw [ba_toList, if_pos rfl, tail_eq]
    rfl
  · have hie : l.isEmpty = false := by simpa using e
    rw [hie, Bool.false_or]
    by_cases h1 : kind = 1
    · subst h1
      refine Ev.congr (fun k => by unfold rootcellarref12_Right.f; rw [ba_toList, if_neg e, if_pos rfl]) (Ev.bind (ref_right l hl) ?_)
      refine Ev.congr (f := fun _ => some _) (fun k => ?_) (Ev.now _)
      rw [tail_eq]
      cases rightB l <;> rfl
    · rw [show (kind == 1) = false by simpa using h1, Bool.false_and]
      refine Ev.congr (f := fun _ => some _) (fun k => ?_) (Ev.now _)
      unfold rootcellarref12_Right.f
      rw [ba_toList, if_neg e, if_neg h1]
      rfl
/-- A record's text, behind the two bytes that say how long it is. -/
def bodyS (kind a b n : Nat) (t : List UInt8) : List UInt8 := putN kind 1 ++ putN a 4 ++ putN b 4 ++ putN n 8 ++ t
def recordS (kind a b n : Nat) (t : List UInt8) : List UInt8 := putN (sealed (bodyS kind a b n t)).length 2 ++ sealed (bodyS kind a b n t)
theorem bodyS_length (kind a b n : Nat) (t : List UInt8) : (bodyS kind a b n t).length = 17 + t.length := by simp [bodyS, putN_length]; omega
theorem recordS_length (kind a b n : Nat) (t : List UInt8) : (recordS kind a b n t).length = 23 + t.length := by simp [recordS, putN_length, sealed_length, bodyS_length]; omega
theorem bodyS_is (kk a b n : Nat) (l : List UInt8) : putN kk 1 ++ putN a 4 ++ putN b 4 ++ putN n 8 ++ l = bodyS kk a b n l := by unfold bodyS; rfl
theorem seal_body (kk a b n : Nat) (l : List UInt8) (hl : l.length ≤ 100000000) : seal_Put.f (ba (bodyS kk a b n l)) = some (ba (sealed (bodyS kk a b n l))) := by
  have hb := bodyS_length kk a b n l
  exact seal_put_eq _ (by omega)
theorem size_body (kk a b n : Nat) (l : List UInt8) (hl : l.length ≤ 100000000) : (sealed (bodyS kk a b n l)).length < 18446744073709551616 := by
  have hb := bodyS_length kk a b n l
  have hs := sealed_length (bodyS kk a b n l)
  omega
/-- What Put tells of a step. -/
def putS (kind a b n : Int) (t : List UInt8) : ByteArray × Int := if rightS kind a b t = true then (ba (recordS kind.toNat a.toNat b.toNat n.toNat t), 0) else (ba [], 1)
theorem rightS_bounds {kind a b : Int} {t : List UInt8} (h : rightS kind a b t = true) : (1 ≤ kind ∧ kind ≤ 8) ∧ (0 ≤ a ∧ a ≤ 2147483647) ∧ (0 ≤ b ∧ b ≤ 2147483647) := by
  unfold rightS numB at h
  simp only [Bool.and_eq_true, decide_eq_true_eq] at h
  omega
theorem m1 : many8 1 = 1 := by decide
theorem m2 : many8 2 = 2 := by decide
theorem m4 : many8 4 = 4 := by decide
theorem m8 : many8 8 = 8 := by decide
theorem ev_put (n : Nat) (m : Int) (h : n < 18446744073709551616) : Ev (fun _ => le_Put.f (n : Int) m) (ba (putN n (many8 m))) := Ev.congr (fun _ => put_eq n h m) (Ev.now _)
theorem step_put (kind a b n : Int) (l : List UInt8) (hl : l.length ≤ 100000000) (hn : 0 ≤ n ∧ n < 18446744073709551616) : Ev (fun k => step_Put.f k kind a b n (ba l)) (putS kind a b n l) := by
  have hr := step_right kind a b n l (by omega)
  unfold putS
  by_cases h : rightS kind a b l = true
  · rw [if_pos h]
    rw [h] at hr
    refine Ev.bind hr ?_
    refine Ev.congr (fun k => if_pos rfl) ?_
    obtain ⟨⟨k1, k2⟩, ⟨a1, a2⟩, ⟨b1, b2⟩⟩ := rightS_bounds h
    obtain ⟨kk, rfl⟩ := Int.eq_ofNat_of_zero_le (show 0 ≤ kind by omega)
    obtain ⟨a, rfl⟩ := Int.eq_ofNat_of_zero_le a1
    obtain ⟨b, rfl⟩ := Int.eq_ofNat_of_zero_le b1
    obtain ⟨n, rfl⟩ := Int.eq_ofNat_of_zero_le hn.1
    simp only [Int.toNat_natCast]
    have hb := bodyS_length kk a b n l
    have hs := sealed_length (bodyS kk a b n l)
    refine Ev.congr (fun k => by rw [u64_nat kk (by omega), u64_nat a (by omega), u64_nat b (by omega)]) (Ev.bind (ev_put kk 1 (by omega)) ?_)
    refine Ev.bind (ev_put a 4 (by omega)) ?_
    refine Ev.congr (fun k => by rw [m1, m4]; simp only [ba_size, putN_length, ba_append]; rw [if_pos (by omega)]) (Ev.bind (ev_put b 4 (by omega)) ?_)
    refine Ev.congr (fun k => by rw [m4]; simp only [ba_size, putN_length, ba_append]; rw [if_pos (by omega)]) (Ev.bind (ev_put n 8 (by omega)) ?_)
    refine Ev.congr (fun k => by rw [m8]; simp only [ba_size, putN_length, ba_append]; rw [if_pos (by omega), if_pos (by omega), bodyS_is]) (Ev.bind (Ev.congr (fun _ => seal_body kk a b n l hl) (Ev.now _)) ?_)
    refine Ev.congr (fun k => by rw [ba_size, u64_nat _ (size_body kk a b n l hl)]) (Ev.bind (ev_put _ 2 (size_body kk a b n l hl)) ?_)
    refine Ev.congr (f := fun _ => some _) (fun k => ?_) (Ev.now _)
    rw [m2]
    simp only [ba_size, putN_length, ba_append]
    rw [if_pos (by omega)]
    unfold recordS
    trivial
  · rw [if_neg h]
    rw [Bool.eq_false_iff.2 h] at hr
    refine Ev.bind hr ?_
    exact Ev.congr (fun k => by rw [if_neg (by decide)]; rfl) (Ev.now _)
theorem ref_step_put (kind a b n : Int) (l : List UInt8) (hl : l.length ≤ 100000000) (hn : 0 ≤ n ∧ n < 18446744073709551616) : Ev (fun k => rootcellarref12_Put.f k kind a b n (ba l)) (putS kind a b n l) := by
  have hr := ref_step_right kind a b n l (by omega)
  unfold putS
  by_cases h : rightS kind a b l = true
  · rw [if_pos h]
    rw [h] at hr
    refine Ev.bind hr ?_
    refine Ev.congr (fun k => if_pos rfl) ?_
    obtain ⟨⟨k1, k2⟩, ⟨a1, a2⟩, ⟨b1, b2⟩⟩ := rightS_bounds h
    obtain ⟨kk, rfl⟩ := Int.eq_ofNat_of_zero_le (show 0 ≤ kind by omega)
    obtain ⟨a, rfl⟩ := Int.eq_ofNat_of_zero_le a1
    obtain ⟨b, rfl⟩ := Int.eq_ofNat_of_zero_le b1
    obtain ⟨n, rfl⟩ := Int.eq_ofNat_of_zero_le hn.1
    simp only [Int.toNat_natCast]
    have hb := bodyS_length kk a b n l
    have hs := sealed_length (bodyS kk a b n l)
    refine Ev.congr (fun k => by rw [u64_nat kk (by omega), u64_nat a (by omega), u64_nat b (by omega)]) (Ev.bind (ref_put1 kk (by omega)) ?_)
    refine Ev.bind (ref_put4 a (by omega)) ?_
    refine Ev.congr (fun k => by simp only [ba_size, putN_length, ba_append]; rw [if_pos (by omega)]) (Ev.bind (ref_put4 b (by omega)) ?_)
    refine Ev.congr (fun k => by simp only [ba_size, putN_length, ba_append]; rw [if_pos (by omega)]) (Ev.bind (ref_put8 n (by omega)) ?_)
    refine Ev.congr (fun k => by simp only [ba_size, putN_length, ba_append]; rw [if_pos (by omega), if_pos (by omega), bodyS_is]) (Ev.bind (ref_seal_put _ (by omega)) ?_)
    refine Ev.congr (fun k => by rw [ba_size, u64_nat _ (by omega)]) (Ev.bind (ref_put2 _ (by omega)) ?_)
    refine Ev.congr (f := fun _ => some _) (fun k => ?_) (Ev.now _)
    simp only [ba_size, putN_length, ba_append]
    rw [if_pos (by omega)]
    unfold recordS
    trivial
  · rw [if_neg h]
    rw [Bool.eq_false_iff.2 h] at hr
    refine Ev.bind hr ?_
    exact Ev.congr (fun k => by rw [if_neg (by decide)]; rfl) (Ev.now _)
end Go.Proofs.YtboommbclbjlnaaDoor.Pu
end
section
/- Chapter 12's example, and steps as the reference has them, in plain words. -/



namespace Go.Proofs.YtboommbclbjlnaaDoor.Pu
open Go Go.Lib Go.RowKit Go.Proofs.YtboommbclbjlnaaDoor.Pl Go.Proofs.YtboommbclbjlnaaDoor.Lf Go.Proofs.YtboommbclbjlnaaDoor.Fn Go.Proofs.YtboommbclbjlnaaDoorW.PrintWords
theorem shown_take : (ba (recordS 3 5 0 0 [])).extract 0 19 = ba [21, 0, 3, 5, 0, 0, 0, 0, 0, 0, 0, 0, 0, 0, 0, 0, 0, 0, 0] := by
  have key : (recordS 3 5 0 0 []).take 19 = [21, 0, 3, 5, 0, 0, 0, 0, 0, 0, 0, 0, 0, 0, 0, 0, 0, 0, 0] := by
    have hb : bodyS 3 5 0 0 [] = [3, 5, 0, 0, 0, 0, 0, 0, 0, 0, 0, 0, 0, 0, 0, 0, 0] := by decide +kernel
    have hl : (sealed (bodyS 3 5 0 0 [])).length = 21 := by rw [sealed_length, bodyS_length]; rfl
    have hp : putN 21 2 = [21, 0] := by decide +kernel
    unfold recordS
    rw [hl, hp]
    unfold sealed
    rw [hb]
    rfl
  rw [ba_take, key]
theorem shown12 : Ev (fun k => rootcellarlaw12_shown.f k) true := by
  have h := step_put 3 5 0 0 [] (by simp) (by omega)
  have e : putS 3 5 0 0 [] = (ba (recordS 3 5 0 0 []), 0) := by
    unfold putS
    rw [if_pos (by decide)]
    rfl
  rw [e] at h
  refine Ev.bind h ?_
  refine Ev.congr (f := fun _ => some true) (fun k => ?_) (Ev.now _)
  have hl := recordS_length 3 5 0 0 []
  rw [if_pos rfl, ba_size, hl, if_pos (by decide), if_pos (by decide), if_pos (by decide)]
  show some (((ba (recordS 3 5 0 0 [])).extract 0 19).toList == _) = _
  rw [shown_take, ba_toList]
  rfl
def as26 (x : S24) : S26 := ⟨x.f0, x.f1, x.f2, x.f3, x.f4⟩
theorem steps_l (l : List S24) (h : l.length ≤ 1000000000) : ∀ (d i : Nat) (acc : List S26), i + d = l.length → acc.length = i →
    Ev (fun k => rootcellarlaw12_steps.l0 k l acc (i : Int)) (acc ++ (l.drop i).map as26) := by
  intro d
  induction d with
  | zero =>
    intro i acc hi ha
    refine Ev.step (f := fun _ => some _) (fun k => ?_) (Ev.now _)
    simp only [rootcellarlaw12_steps.l0]
    rw [if_neg (by omega), List.drop_eq_nil_of_le (by omega), List.map_nil, List.append_nil]
  | succ d ih =>
    intro i acc hi ha
    have hlt : i < l.length := by omega
    have hd := List.drop_eq_getElem_cons hlt
    have hr : rd_T24 l (i : Int) = l[i]'hlt := by
      unfold rd_T24
      rw [Int.toNat_natCast, List.getD_eq_getElem?_getD, List.getElem?_eq_getElem hlt]; rfl
    have h2 := ih (i + 1) (acc ++ [as26 (l[i]'hlt)]) (by omega) (by simp [ha])
    rw [List.append_assoc, List.singleton_append, ← List.map_cons, ← hd] at h2
    refine Ev.step (fun k => ?_) h2
    simp only [rootcellarlaw12_steps.l0]
    rw [if_pos (by omega), if_pos (by omega), if_pos (by omega), hr, w64 _ (by omega) (by omega)]
    rfl
theorem steps12 (l : List S24) (h : l.length ≤ 1000000000) : Ev (fun k => rootcellarlaw12_steps.f k l) (l.map as26) := by
  have := steps_l l h l.length 0 [] (by omega) rfl
  rw [List.nil_append, List.drop_zero] at this
  exact this
end Go.Proofs.YtboommbclbjlnaaDoor.Pu
end
section
/- step.Groups and the reference's, in plain words: groups of a list of steps. -/





namespace Go.Proofs.YtboommbclbjlnaaDoor.Pu
open Go Go.Lib Go.RowKit Go.Proofs.YtboommbclbjlnaaDoor.Pl Go.Proofs.YtboommbclbjlnaaDoor.Lf Go.Proofs.YtboommbclbjlnaaDoor.Fn Go.Proofs.YtboommbclbjlnaaDoorW.PrintWords
/-- The groups of steps, o open ahead of them. -/
def gs : List S24 → List S24 → List S44
  | _, [] => []
  | o, x :: l => if x.f0 = 8 then ⟨x.f3, o⟩ :: gs [] l else gs (o ++ [x]) l
/-- Of how many steps they are made; i: how many were gone through, u: of these. -/
def us : Nat → Nat → List S24 → Nat
  | u, _, [] => u
  | u, i, x :: l => if x.f0 = 8 then us (i + 1) (i + 1) l else us u (i + 1) l
def as46 (g : S44) : S46 := ⟨g.f0, g.f1.map as26⟩
theorem rd24 (l : List S24) (i : Nat) (h : i < l.length) : rd_T24 l (i : Int) = l[i]'h := by
  unfold rd_T24
  rw [Int.toNat_natCast, List.getD_eq_getElem?_getD, List.getElem?_eq_getElem h]; rfl
theorem rd26 (l : List S26) (i : Nat) (h : i < l.length) : rd_T26 l (i : Int) = l[i]'h := by
  unfold rd_T26
  rw [Int.toNat_natCast, List.getD_eq_getElem?_getD, List.getElem?_eq_getElem h]; rfl
theorem rd44 (l : List S44) (i : Nat) (h : i < l.length) : rd_T44 l (i : Int) = l[i]'h := by
  unfold rd_T44
  rw [Int.toNat_natCast, List.getD_eq_getElem?_getD, List.getElem?_eq_getElem h]; rfl
theorem rd46 (l : List S46) (i : Nat) (h : i < l.length) : rd_T46 l (i : Int) = l[i]'h := by
  unfold rd_T46
  rw [Int.toNat_natCast, List.getD_eq_getElem?_getD, List.getElem?_eq_getElem h]; rfl
theorem w64s (i : Nat) (h : i ≤ 1000000000) : wrap64 ((i : Int) + 1) = ((i + 1 : Nat) : Int) := by
  rw [w64 _ (by omega) (by omega)]; rfl
theorem groups_l (l : List S24) (h : l.length ≤ 1000000) : ∀ (d i from_ : Nat) (out : List S44), i + d = l.length → from_ ≤ i → out.length ≤ i →
    Ev (fun k => step_Groups.l0 k l out (from_ : Int) l (l.length : Int) (i : Int)) (out ++ gs ((l.take i).drop from_) (l.drop i), ((us from_ i (l.drop i) : Nat) : Int)) := by
  intro d
  induction d with
  | zero =>
    intro i from_ out hi hf ho
    refine Ev.step (f := fun _ => some _) (fun k => ?_) (Ev.now _)
    simp only [step_Groups.l0]
    rw [if_neg (by omega), show l.drop i = [] from List.drop_eq_nil_of_le (by omega), gs, us, List.append_nil]
  | succ d ih =>
    intro i from_ out hi hf ho
    have hlt : i < l.length := by omega
    have hd := List.drop_eq_getElem_cons hlt
    have hr := rd24 l i hlt
    by_cases h8 : (l[i]'hlt).f0 = 8
    · have h2 := ih (i + 1) (i + 1) (out ++ [⟨(l[i]'hlt).f3, (l.take i).drop from_⟩]) (by omega) (by omega) (by simp; omega)
      rw [List.append_assoc, List.singleton_append, show (l.take (i + 1)).drop (i + 1) = [] from List.drop_eq_nil_of_le (by rw [List.length_take]; omega)] at h2
      rw [hd, gs, us, if_pos h8, if_pos h8]
      refine Ev.step (fun k => ?_) h2
      simp only [step_Groups.l0]
      rw [if_pos (by omega), if_pos (by omega), if_pos (by omega), hr, if_pos h8, if_pos (by omega), if_pos (by omega), if_pos (by omega), Int.toNat_natCast, Int.toNat_natCast, w64s i (by omega)]
      unfold step_Step.f
      rw [if_pos (by rw [List.length_drop, List.length_take]; omega)]
      show (if out.length < 4398046511104 then _ else _) = _
      rw [if_pos (by omega)]
    · have h2 := ih (i + 1) from_ out (by omega) (by omega) (by omega)
      have ht : (l.take (i + 1)).drop from_ = (l.take i).drop from_ ++ [l[i]'hlt] := by
        rw [List.take_succ_eq_append_getElem hlt, List.drop_append_of_le_length (by rw [List.length_take]; omega)]
      rw [ht] at h2
      rw [hd, gs, us, if_neg h8, if_neg h8]
      refine Ev.step (fun k => ?_) h2
      simp only [step_Groups.l0]
      rw [if_pos (by omega), if_pos (by omega), if_pos (by omega), hr, if_neg h8, w64s i (by omega)]
theorem groups (l : List S24) (h : l.length ≤ 1000000) : Ev (fun k => step_Groups.f k l) (gs [] l, ((us 0 0 l : Nat) : Int)) := by
  have := groups_l l h l.length 0 0 [] (by omega) (by omega) (by simp)
  show Ev (fun k => step_Groups.l0 k l [] 0 l (l.length : Int) 0) _
  simpa using this
theorem ref_groups_l (l : List S24) (h : l.length ≤ 1000000) : ∀ (d i u : Nat) (out : List S44) (o : List S24), i + d = l.length → out.length ≤ i → o.length ≤ i →
    Ev (fun k => rootcellarref12_Groups.l0 k (l.map as26) (out.map as46) (o.map as26) (u : Int) (i : Int)) ((out ++ gs o (l.drop i)).map as46, ((us u i (l.drop i) : Nat) : Int)) := by
  intro d
  induction d with
  | zero =>
    intro i u out o hi ho h3
    refine Ev.step (f := fun _ => some _) (fun k => ?_) (Ev.now _)
    simp only [rootcellarref12_Groups.l0]
    rw [if_neg (by rw [List.length_map]; omega), show l.drop i = [] from List.drop_eq_nil_of_le (by omega), gs, us, List.append_nil]
  | succ d ih =>
    intro i u out o hi ho h3
    have hlt : i < l.length := by omega
    have hd := List.drop_eq_getElem_cons hlt
    have hr : rd_T26 (l.map as26) (i : Int) = as26 (l[i]'hlt) := by rw [rd26 _ i (by rw [List.length_map]; exact hlt), List.getElem_map]
    by_cases h8 : (l[i]'hlt).f0 = 8
    · have h2 := ih (i + 1) (i + 1) (out ++ [⟨(l[i]'hlt).f3, o⟩]) [] (by omega) (by simp; omega) (by simp)
      rw [List.append_assoc, List.singleton_append] at h2
      rw [hd, gs, us, if_pos h8, if_pos h8]
      refine Ev.step (fun k => ?_) h2
      simp only [rootcellarref12_Groups.l0]
      rw [if_pos (by rw [List.length_map]; omega), if_pos (by omega), hr, if_pos (show (as26 (l[i]'hlt)).f0 = 8 from h8), if_pos (by rw [List.length_map]; omega), w64s i (by omega), List.map_append]
      rfl
    · have h2 := ih (i + 1) u out (o ++ [l[i]'hlt]) (by omega) (by omega) (by simp; omega)
      rw [hd, gs, us, if_neg h8, if_neg h8]
      refine Ev.step (fun k => ?_) h2
      simp only [rootcellarref12_Groups.l0]
      rw [if_pos (by rw [List.length_map]; omega), if_pos (by omega), hr, if_neg (show ¬ (as26 (l[i]'hlt)).f0 = 8 from h8), if_pos (by rw [List.length_map]; omega), w64s i (by omega), List.map_append]
      rfl
theorem ref_groups (l : List S24) (h : l.length ≤ 1000000) : Ev (fun k => rootcellarref12_Groups.f k (l.map as26)) ((gs [] l).map as46, ((us 0 0 l : Nat) : Int)) := by
  have := ref_groups_l l h l.length 0 0 [] [] (by omega) (by simp) (by simp)
  show Ev (fun k => rootcellarref12_Groups.l0 k (l.map as26) [] [] 0 0) _
  simpa using this
theorem same_l (l : List S24) (h : l.length ≤ 1000000) : ∀ (d i : Nat), i + d = l.length → Ev (fun k => rootcellarlaw12_sameSteps.l0 k l (l.map as26) (i : Int)) true := by
  intro d
  induction d with
  | zero =>
    intro i hi
    refine Ev.step (f := fun _ => some _) (fun k => ?_) (Ev.now _)
    simp only [rootcellarlaw12_sameSteps.l0]
    rw [if_neg (by omega)]
  | succ d ih =>
    intro i hi
    have hlt : i < l.length := by omega
    have hr := rd24 l i hlt
    have hr' : rd_T26 (l.map as26) (i : Int) = as26 (l[i]'hlt) := by rw [rd26 _ i (by rw [List.length_map]; exact hlt), List.getElem_map]
    refine Ev.step (fun k => ?_) (ih (i + 1) (by omega))
    simp only [rootcellarlaw12_sameSteps.l0]
    rw [if_pos (by omega), if_pos (by omega), if_pos (by rw [List.length_map]; omega), hr, hr', w64s i (by omega)]
    exact (if_pos rfl).trans ((if_pos rfl).trans ((if_pos rfl).trans ((if_pos rfl).trans (if_pos rfl))))
theorem same (l : List S24) (h : l.length ≤ 1000000) : Ev (fun k => rootcellarlaw12_sameSteps.f k l (l.map as26)) true := by
  refine Ev.congr (fun k => ?_) (same_l l h l.length 0 (by omega))
  unfold rootcellarlaw12_sameSteps.f
  rw [if_pos (by rw [List.length_map])]
  rfl
theorem short_l (l : List S24) (h : l.length ≤ 60) : ∀ (d i : Nat), i + d = l.length → ∃ b, Ev (fun k => rootcellarlaw12_shortSteps.l0 k l (i : Int)) b := by
  intro d
  induction d with
  | zero =>
    intro i hi
    refine ⟨true, Ev.step (f := fun _ => some _) (fun k => ?_) (Ev.now _)⟩
    simp only [rootcellarlaw12_shortSteps.l0]
    rw [if_neg (by omega)]
  | succ d ih =>
    intro i hi
    have hlt : i < l.length := by omega
    by_cases hs : (((rd_T24 l (i : Int)).f4).size : Int) > 200
    · refine ⟨false, Ev.step (f := fun _ => some _) (fun k => ?_) (Ev.now _)⟩
      simp only [rootcellarlaw12_shortSteps.l0]
      rw [if_pos (by omega), if_pos (by omega), if_pos hs]
    · obtain ⟨b, hb⟩ := ih (i + 1) (by omega)
      refine ⟨b, Ev.step (fun k => ?_) hb⟩
      simp only [rootcellarlaw12_shortSteps.l0]
      rw [if_pos (by omega), if_pos (by omega), if_neg hs, w64s i (by omega)]
theorem short (l : List S24) : ∃ b, Ev (fun k => rootcellarlaw12_shortSteps.f k l) b ∧ (b = true → l.length ≤ 60) := by
  by_cases h : (l.length : Int) > 60
  · refine ⟨false, Ev.congr (f := fun _ => some false) (fun k => ?_) (Ev.now _), fun h => by cases h⟩
    unfold rootcellarlaw12_shortSteps.f
    rw [if_pos h]
  · obtain ⟨b, hb⟩ := short_l l (by omega) l.length 0 (by omega)
    refine ⟨b, Ev.congr (fun k => ?_) hb, fun _ => by omega⟩
    unfold rootcellarlaw12_shortSteps.f
    rw [if_neg h]
    rfl
theorem gs_len (l : List S24) : ∀ (o : List S24) (g : S44), g ∈ gs o l → g.f1.length ≤ o.length + l.length := by
  induction l with
  | nil => intro o g hg; simp [gs] at hg
  | cons x l ih =>
    intro o g hg
    rw [gs] at hg
    split at hg
    · rcases List.mem_cons.1 hg with rfl | hg
      · simp
      · have := ih _ _ hg; simp at this ⊢; omega
    · have := ih _ _ hg; simp at this ⊢; omega
theorem gs_count (l : List S24) : ∀ (o : List S24), (gs o l).length ≤ l.length := by
  induction l with
  | nil => intro o; simp [gs]
  | cons x l ih =>
    intro o
    rw [gs]
    split
    · have := ih []; simp; exact this
    · have := ih (o ++ [x]); simp; omega
end Go.Proofs.YtboommbclbjlnaaDoor.Pu
end
section
/- StepParts, in plain words: true of all steps. -/


namespace Go.Proofs.YtboommbclbjlnaaDoor.Pu
open Go Go.Lib Go.RowKit Go.Proofs.YtboommbclbjlnaaDoor.Pl Go.Proofs.YtboommbclbjlnaaDoor.Lf Go.Proofs.YtboommbclbjlnaaDoor.Fn Go.Proofs.YtboommbclbjlnaaDoorW.PrintWords
theorem gs_open (m : List S24) (hm : ∀ x ∈ m, x.f0 ≠ 8) : ∀ (o : List S24) (u i : Nat), gs o m = [] ∧ us u i m = u := by
  induction m with
  | nil => intro o u i; exact ⟨rfl, rfl⟩
  | cons x m ih =>
    intro o u i
    rw [gs, us, if_neg (hm x (List.mem_cons_self ..)), if_neg (hm x (List.mem_cons_self ..))]
    exact ih (fun y hy => hm y (List.mem_cons_of_mem _ hy)) _ _ _
theorem gs_commit (c : S24) (hc : c.f0 = 8) (m : List S24) (a : List S24) (ha : ∀ x ∈ a, x.f0 ≠ 8) : ∀ (o : List S24) (u i : Nat), gs o (a ++ c :: m) = ⟨c.f3, o ++ a⟩ :: gs [] m ∧ us u i (a ++ c :: m) = us (i + a.length + 1) (i + a.length + 1) m := by
  induction a with
  | nil => intro o u i; rw [List.nil_append, gs, us, if_pos hc, if_pos hc, List.append_nil]; exact ⟨rfl, rfl⟩
  | cons x a ih =>
    intro o u i
    rw [List.cons_append, gs, us, if_neg (ha x (List.mem_cons_self ..)), if_neg (ha x (List.mem_cons_self ..))]
    obtain ⟨h1, h2⟩ := ih (fun y hy => ha y (List.mem_cons_of_mem _ hy)) (o ++ [x]) u (i + 1)
    refine ⟨by rw [h1, List.append_assoc]; rfl, by rw [h2, List.length_cons]; congr 1 <;> omega⟩
theorem gs_split (m : List S24) : (∀ x ∈ m, x.f0 ≠ 8) ∨ ∃ a c m', m = a ++ c :: m' ∧ c.f0 = 8 ∧ ∀ x ∈ a, x.f0 ≠ 8 := by
  induction m with
  | nil => left; intro x hx; cases hx
  | cons x m ih =>
    by_cases h : x.f0 = 8
    · right; exact ⟨[], x, m, rfl, h, fun y hy => by cases hy⟩
    · rcases ih with h1 | ⟨a, c, m', rfl, hc, ha⟩
      · left; intro y hy
        rcases List.mem_cons.1 hy with rfl | hy
        · exact h
        · exact h1 y hy
      · right
        refine ⟨x :: a, c, m', rfl, hc, fun y hy => ?_⟩
        rcases List.mem_cons.1 hy with rfl | hy
        · exact h
        · exact ha y hy
def opn : List S24 → List S24 → List S24
  | o, [] => o
  | o, x :: l => if x.f0 = 8 then opn [] l else opn (o ++ [x]) l
theorem gs_close (c : S24) (hc : c.f0 = 8) (m : List S24) : ∀ (o : List S24) (u i : Nat), gs o (m ++ [c]) = gs o m ++ [⟨c.f3, opn o m⟩] ∧ us u i (m ++ [c]) = i + m.length + 1 := by
  induction m with
  | nil => intro o u i; rw [List.nil_append, gs.eq_2, us.eq_2, if_pos hc, if_pos hc]; exact ⟨rfl, rfl⟩
  | cons x m ih =>
    intro o u i
    rw [List.cons_append, gs, us, gs, opn, List.length_cons]
    by_cases h : x.f0 = 8
    · rw [if_pos h, if_pos h, if_pos h, if_pos h]
      obtain ⟨h1, h2⟩ := ih [] (i + 1) (i + 1)
      exact ⟨by rw [h1]; rfl, by rw [h2]; omega⟩
    · rw [if_neg h, if_neg h, if_neg h, if_neg h]
      obtain ⟨h1, h2⟩ := ih (o ++ [x]) u (i + 1)
      exact ⟨h1, by rw [h2]; omega⟩
theorem opn_len (m : List S24) : ∀ (o : List S24) (u i : Nat), o.length + u = i → (opn o m).length + us u i m = i + m.length := by
  induction m with
  | nil => intro o u i h; exact h
  | cons x m ih =>
    intro o u i h
    rw [opn, us, List.length_cons]
    by_cases h8 : x.f0 = 8
    · rw [if_pos h8, if_pos h8]
      have := ih [] (i + 1) (i + 1) (by simp)
      omega
    · rw [if_neg h8, if_neg h8]
      have := ih (o ++ [x]) u (i + 1) (by simp; omega)
      omega
theorem parts_end (l : List S24) (x1 : Int) (hl : l.length ≤ 60) (p : Nat) (hp : us 0 0 l = p) (hno : ∀ x ∈ l.drop p, x.f0 ≠ 8) : ∀ (d i : Nat), i + d = l.length → p ≤ i →
    Ev (fun k => rootcellarlaw12_StepParts.l2 k l x1 (gs [] l) (p : Int) (i : Int)) true := by
  intro d
  induction d with
  | zero =>
    intro i hi hpi
    have hc := gs_count l []
    obtain ⟨e1, e2⟩ := gs_close ⟨8, 0, 0, x1, ⟨#[]⟩⟩ rfl l [] 0 0
    have e3 := opn_len l [] 0 0 (by simp)
    have hg := groups (l ++ [⟨8, 0, 0, x1, ⟨#[]⟩⟩]) (by simp; omega)
    rw [e1, e2] at hg
    have hr : rd_T44 (gs [] l ++ [(⟨x1, opn [] l⟩ : S44)]) ((gs [] l).length : Int) = ⟨x1, opn [] l⟩ := by
      rw [rd44 _ _ (by simp)]
      simp
    refine Ev.step (fun k => by
      simp only [rootcellarlaw12_StepParts.l2]
      rw [if_neg (by omega), Option.bind_some, if_pos (by simp; omega), Option.bind_some, if_pos (by simp; omega), List.nil_append]) ?_
    refine Ev.bind hg (Ev.congr (f := fun _ => some true) (fun k => ?_) (Ev.now _))
    · show (if ((0 + l.length + 1 : Nat) : Int) = wrap64 ((l.length : Int) + 1) then (if ((gs [] l ++ [(⟨x1, opn [] l⟩ : S44)]).length : Int) = wrap64 (((gs [] l).length : Int) + 1) then (if 0 ≤ ((gs [] l).length : Int) then (if ((gs [] l).length : Int) < ((gs [] l ++ [(⟨x1, opn [] l⟩ : S44)]).length : Int) then (if (rd_T44 (gs [] l ++ [(⟨x1, opn [] l⟩ : S44)]) ((gs [] l).length : Int)).f0 = x1 then some (((rd_T44 (gs [] l ++ [(⟨x1, opn [] l⟩ : S44)]) ((gs [] l).length : Int)).f1.length : Int) == wrap64 ((l.length : Int) - (p : Int))) else some false) else none) else none) else some false) else some false) = some true
      rw [w64s l.length (by omega), w64s _ (by omega), if_pos (by omega), if_pos (by simp), if_pos (by omega), if_pos (by simp; omega), hr, if_pos rfl]
      show some (((opn [] l).length : Int) == wrap64 ((l.length : Int) - (p : Int))) = some true
      rw [w64 _ (by omega) (by omega), show ((opn [] l).length : Int) = (l.length : Int) - (p : Int) by omega, beq_self_eq_true]
  | succ d ih =>
    intro i hi hpi
    have hlt : i < l.length := by omega
    have hr := rd24 l i hlt
    have hn : (l[i]'hlt).f0 ≠ 8 := hno _ (by
      rw [List.mem_iff_getElem?]
      exact ⟨i - p, by rw [List.getElem?_drop, show p + (i - p) = i by omega, List.getElem?_eq_getElem hlt]⟩)
    refine Ev.step (fun k => ?_) (ih (i + 1) (by omega) (by omega))
    simp only [rootcellarlaw12_StepParts.l2]
    rw [if_pos (by omega), if_pos (by omega), hr, if_neg hn, w64s i (by omega)]
theorem parts_in (l : List S24) (x1 u : Int) (hl : l.length ≤ 60) (gl : List S44) (j p : Nat) (hj : j < gl.length) (a : List S24) (c : S24) (hg : gl[j]'hj = ⟨c.f3, a⟩) (ha : ∀ x ∈ a, x.f0 ≠ 8) (hpa : p + a.length < l.length) (ht : (l.drop p).take a.length = a) (hcc : l[p + a.length]'hpa = c) (hc8 : c.f0 = 8)
    (hj1 : j ≤ 60) (R : Bool) (hend : Ev (fun k => rootcellarlaw12_StepParts.l0 k l x1 gl u (l.take (p + a.length + 1)) ((j + 1 : Nat) : Int)) R) : ∀ (d t : Nat), t + d = a.length →
    Ev (fun k => rootcellarlaw12_StepParts.l1 k l x1 gl u (l.take (p + t)) (j : Int) (t : Int)) R := by
  have hrj := rd44 gl j hj
  intro d
  induction d with
  | zero =>
    intro t hta
    have hlen : (l.take (p + t)).length = p + a.length := by rw [List.length_take]; omega
    have hr : rd_T24 l ((p + a.length : Nat) : Int) = c := by rw [rd24 l _ hpa, hcc]
    have happ : l.take (p + t) ++ [c] = l.take (p + a.length + 1) := by
      rw [show p + t = p + a.length by omega, ← hcc]
      exact (List.take_succ_eq_append_getElem hpa).symm
    rw [← happ] at hend
    refine Ev.step (fun k => ?_) hend
    simp only [rootcellarlaw12_StepParts.l1]
    rw [if_pos (by omega), if_pos (by omega), hrj, hg, if_neg (by show ¬ (t : Int) < (a.length : Int); omega), hlen, if_neg (by omega), if_pos (by omega), if_pos (by omega), hr, if_pos hc8]
    refine (if_pos rfl).trans ?_
    rw [if_pos (by omega), w64s j (by omega)]
  | succ d ih =>
    intro t hta
    have hlt : t < a.length := by omega
    have hr : rd_T24 a (t : Int) = a[t]'hlt := rd24 a t hlt
    have hpt : p + t < l.length := by omega
    have hat : a[t]'hlt = l[p + t]'hpt := by
      have h1 : a[t]? = ((l.drop p).take a.length)[t]? := by rw [ht]
      rw [List.getElem?_take_of_lt hlt, List.getElem?_drop, List.getElem?_eq_getElem hlt, List.getElem?_eq_getElem hpt] at h1
      exact Option.some.inj h1
    have happ : l.take (p + t) ++ [a[t]'hlt] = l.take (p + (t + 1)) := by
      rw [hat]
      exact (List.take_succ_eq_append_getElem hpt).symm
    have h2 := ih (t + 1) (by omega)
    rw [← happ] at h2
    refine Ev.step (fun k => ?_) h2
    simp only [rootcellarlaw12_StepParts.l1]
    rw [if_pos (by omega), if_pos (by omega), hrj, hg, if_pos (by show (t : Int) < (a.length : Int); omega), if_pos (by omega)]
    show (if (rd_T24 a (t : Int)).f0 = 8 then _ else _) = _
    rw [hr, if_neg (ha _ (List.getElem_mem hlt)), if_pos (by rw [List.length_take]; omega), w64s t (by omega)]
theorem parts_out (l : List S24) (x1 : Int) (hl : l.length ≤ 60) : ∀ (n j p : Nat), p ≤ l.length → j ≤ 60 → (gs [] l).drop j = gs [] (l.drop p) → (gs [] (l.drop p)).length = n → us 0 0 l = us p p (l.drop p) →
    Ev (fun k => rootcellarlaw12_StepParts.l0 k l x1 (gs [] l) ((us 0 0 l : Nat) : Int) (l.take p) (j : Int)) true := by
  intro n
  induction n with
  | zero =>
    intro j p hp hj hd hn hu
    have hno : ∀ x ∈ l.drop p, x.f0 ≠ 8 := by
      rcases gs_split (l.drop p) with h | ⟨a, c, m', e, hc, ha⟩
      · exact h
      · rw [e, (gs_commit c hc m' a ha [] 0 0).1] at hn; simp at hn
    have hup : us 0 0 l = p := by rw [hu, (gs_open _ hno [] p p).2]
    have hjl : (gs [] l).length ≤ j := by
      have := congrArg List.length hd
      rw [List.length_drop, hn] at this; omega
    have hlen : (l.take p).length = p := by rw [List.length_take]; omega
    have h2 := parts_end l x1 hl p hup hno (l.length - p) p (by omega) (by omega)
    have hs := steps12 (l.take p) (by omega)
    have hm := same (l.take p) (by omega)
    rw [hup]
    refine Ev.step (fun k => by
      simp only [rootcellarlaw12_StepParts.l0]
      rw [if_neg (by omega), hlen, if_pos rfl, if_pos (by omega), if_pos (by omega), Int.toNat_natCast]) ?_
    refine Ev.bind hs ?_
    refine Ev.bind hm ?_
    refine Ev.step (fun k => ?_) h2
    simp only [rootcellarlaw12_StepParts.j3]
    exact if_neg (by decide)
  | succ n ih =>
    intro j p hp hj hd hn hu
    rcases gs_split (l.drop p) with h | ⟨a, c, m', e, hc, ha⟩
    · rw [(gs_open _ h [] 0 0).1] at hn; simp at hn
    · have hpl : (l.drop p).length = a.length + (m'.length + 1) := by rw [e]; simp
      rw [List.length_drop] at hpl
      have hpa : p + a.length < l.length := by omega
      have hjl : j < (gs [] l).length := by
        have := congrArg List.length hd
        rw [List.length_drop, hn] at this; omega
      obtain ⟨g1, g2⟩ := gs_commit c hc m' a ha [] p p
      have hg : (gs [] l)[j]'hjl = ⟨c.f3, a⟩ := by
        have h1 : (gs [] l)[j]? = (gs [] (l.drop p))[0]? := by rw [← hd, List.getElem?_drop]; rfl
        rw [List.getElem?_eq_getElem hjl, e, g1] at h1
        exact Option.some.inj h1
      have ht : (l.drop p).take a.length = a := by rw [e]; simp
      have hcc : l[p + a.length]'hpa = c := by
        have h1 : l[p + a.length]? = (l.drop p)[a.length]? := by rw [List.getElem?_drop]
        rw [List.getElem?_eq_getElem hpa, e] at h1
        simpa using h1
      have hd' : l.drop (p + a.length + 1) = m' := by
        rw [show p + a.length + 1 = p + (a.length + 1) by omega, ← List.drop_drop, e]
        simp
      have hjc := gs_count l []
      have h3 := ih (j + 1) (p + a.length + 1) (by omega) (by omega) (by rw [hd', ← List.drop_drop, hd, e, g1]; rfl) (by rw [hd']; rw [e, g1] at hn; simpa using hn) (by rw [hu, hd', e, g2])
      have h4 := parts_in l x1 _ hl (gs [] l) j p hjl a c hg ha hpa ht hcc hc (by omega) true h3 a.length 0 (by omega)
      refine Ev.step (fun k => ?_) h4
      simp only [rootcellarlaw12_StepParts.l0]
      rw [if_pos (by omega)]
      rfl
theorem StepParts (l : List S24) (a1 : Int) (_hw : ∀ x ∈ l, 0 ≤ x.f3 ∧ x.f3 < 18446744073709551616) (_hn : (Lit.int .u64 a1).wf = true) : ∃ k, rootcellarlaw12_StepParts.f k l a1 = some true := by
  obtain ⟨b, hb, h60⟩ := short l
  refine Ev.rounds (Ev.bind shown12 (Ev.bind hb (Ev.congr (fun k => if_pos rfl) ?_)))
  cases b with
  | false =>
    refine Ev.step (f := fun _ => some true) (fun k => ?_) (Ev.now _)
    simp only [rootcellarlaw12_StepParts.j0]
    exact if_pos rfl
  | true =>
    have hl := h60 rfl
    have h := parts_out l a1 hl _ 0 0 (by omega) (by omega) rfl rfl rfl
    exact Ev.step (fun k => by simp only [rootcellarlaw12_StepParts.j0]; exact if_neg (by decide)) (Ev.bind (groups l (by omega)) h)
end Go.Proofs.YtboommbclbjlnaaDoor.Pu
end
section
/- What all rows of this seat share: the tables that are laid, the witness' world, an argument that is a step. -/















namespace Go.Proofs.YtboommbclbjlnaaDoor.RowB
open Go.Shelf Go.ChangeShapes Go.WideShapes Go.ChangeAt Go.RowKit Go.Lib Go.Deep
theorem own : ownKnob Tryd.prog.godebug = none := by kernel_rfl
theorem laidOut : laidOutB Tryd.prog = true := by kernel_rfl
theorem accept_eq : (Rows.laid_unicode_utf8_acceptRanges : DataW Unit) = acceptData := by kernel_rfl
theorem first_eq : Rows.laid_unicode_utf8_first = firstData := by unfold Rows.laid_unicode_utf8_first; exact Pinned.utf8First_eq
theorem tabs {W : World} (h : laidMetH Tryd.prog [("unicode/utf8.acceptRanges", Rows.laid_unicode_utf8_acceptRanges), ("unicode/utf8.first", Rows.laid_unicode_utf8_first)] W) : Lf.Tabs W := by
  have h' : laidMet Tryd.prog [("unicode/utf8.acceptRanges", Rows.laid_unicode_utf8_acceptRanges), ("unicode/utf8.first", Rows.laid_unicode_utf8_first)] W := h
  have h1 := Lib.laidMet.reads h' (.head _)
  have h2 := Lib.laidMet.reads h' (.tail _ (.head _))
  rw [accept_eq] at h1
  rw [first_eq] at h2
  exact ⟨utf8Tabs_of_readsT (U8Types.of196 Lf.laysValid) ⟨by kernel_rfl, by kernel_rfl, by kernel_rfl, by kernel_rfl, by kernel_rfl, by kernel_rfl, by kernel_rfl⟩ h2 h1⟩
/-- A world for the witness: the settled one, the two variables holding what their initialisers lay. -/
noncomputable def laidWorld (os : Os) : World :=
  let w0 := World.holding Tryd.prog os ⟨#[], #[], []⟩
  let put (h : Array Obj) (g : Nat) (cs : Array Value) : Array Obj := h.modify g fun
    | .cells _ t frozen => .cells cs t frozen
    | o => o
  let h1 := put w0.heap 0 (Lib.firstTab.map fun z => Value.int .u8 z).toArray
  let h2 := put h1 1 ((List.range 16).flatMap fun i => [Value.int .u8 (Lib.accLo i), Value.int .u8 (Lib.accHi i)]).toArray
  { w0 with heap := h2 }
theorem laid_met (os : Os) (args : Array Value) : laidMet Tryd.prog [("unicode/utf8.acceptRanges", Rows.laid_unicode_utf8_acceptRanges), ("unicode/utf8.first", Rows.laid_unicode_utf8_first)] ((laidWorld os).forCall (fun _ _ => 0) ⟨#[], args, []⟩).memory := by
  rw [accept_eq, first_eq]
  exact laidMet_of_run' 8 (by kernel_rfl) (by kernel_rfl)
end Go.Proofs.YtboommbclbjlnaaDoor.RowB
end
section
/- Arguments of the rows, opened: a number, a text, a step by value. -/


namespace Go.Proofs.YtboommbclbjlnaaDoor.RowA
open Go.Shelf Go.ChangeShapes Go.WideShapes Go.ChangeAt Go.RowKit Go.Lib Go.Deep
open Go.ChangeMaps (open_string shut_string)
set_option maxRecDepth 100000
section
variable {H : Type} {enc : TypeId × Value → H} {W : World} {base b0 : Nat} {sp : Nat → Bool} {held : Bool}
theorem open_num {t : TypeId} {k : IntKind} (ht : Tryd.prog.underlying t = some (.int k)) {r : Reach} {v : Value} {d : DataW H} {p : List MemPlace} (hv : Value.okWide Tryd.prog W r b0 t v)
    (h : DataW.Trod enc Tryd.prog W base sp held t v d p) : ∃ a : Int, v = .int k a ∧ (Lit.int k a).wf = true := by
  obtain ⟨a, rfl, _, _, w⟩ := open_int ht hv h
  exact ⟨a, rfl, w⟩
theorem open_text {r : Reach} {v : Value} {d : DataW H} {p : List MemPlace} (hv : Value.okWide Tryd.prog W r b0 9 v)
    (h : DataW.Trod enc Tryd.prog W base sp held 9 v d p) : ∃ s : ByteArray, v = .string s ∧ s.size ≤ maxLen := by
  obtain ⟨s, rfl, _, _, w⟩ := open_string Tryd.underlying9 hv h
  exact ⟨s, rfl, w⟩
theorem cells3 : Tryd.prog.cellsOf 3 = 1 := by kernel_rfl
theorem cells9 : Tryd.prog.cellsOf 9 = 1 := by kernel_rfl
theorem cells22 : Tryd.prog.cellsOf 22 = 1 := by kernel_rfl
theorem cells24 : Tryd.prog.cellsOf 24 = 5 := by kernel_rfl
theorem one24 : oneCellFields Tryd.prog (Tryd.prog.fieldsOf 24) = true := by kernel_rfl
theorem open_step {r : Reach} {v : Value} {d : DataW H} {p : List MemPlace} (hv : Value.okWide Tryd.prog W r b0 24 v)
    (h : DataW.Trod enc Tryd.prog W base sp held 24 v d p) : ∃ (a0 a1 a2 a3 : Int) (a4 : ByteArray), v = .agg #[.int .i64 a0, .int .i64 a1, .int .i64 a2, .int .u64 a3, .string a4] ∧ (0 ≤ a3 ∧ a3 < 18446744073709551616) ∧ a4.size ≤ maxLen := by
  obtain ⟨cs, rfl, hsz⟩ := okWide_struct Tryd.underlying24 hv
  obtain ⟨l⟩ := cs
  match l, hsz.trans cells24 with
  | [c0, c1, c2, c3, c4], _ =>
    obtain ⟨fuel, hf⟩ := h
    obtain ⟨xs, n, _, hx, _, hlen, hg⟩ := DataW.trod_struct Tryd.underlying24 hf
    match xs, hlen with
    | [y0, y1, y2, y3, y4], _ =>
      have g0 := hg 0 _ rfl
      change DataW.trod enc Tryd.prog W base sp held n 3 (([c0, c1, c2, c3, c4].drop 0).take (Tryd.prog.cellsOf 3)) = some y0 at g0
      rw [cells3] at g0
      have g1 := hg 1 _ rfl
      change DataW.trod enc Tryd.prog W base sp held n 3 (([c0, c1, c2, c3, c4].drop 1).take (Tryd.prog.cellsOf 3)) = some y1 at g1
      rw [cells3] at g1
      have g2 := hg 2 _ rfl
      change DataW.trod enc Tryd.prog W base sp held n 3 (([c0, c1, c2, c3, c4].drop 2).take (Tryd.prog.cellsOf 3)) = some y2 at g2
      rw [cells3] at g2
      have g3 := hg 3 _ rfl
      change DataW.trod enc Tryd.prog W base sp held n 22 (([c0, c1, c2, c3, c4].drop 3).take (Tryd.prog.cellsOf 22)) = some y3 at g3
      rw [cells22] at g3
      have g4 := hg 4 _ rfl
      change DataW.trod enc Tryd.prog W base sp held n 9 (([c0, c1, c2, c3, c4].drop 4).take (Tryd.prog.cellsOf 9)) = some y4 at g4
      rw [cells9] at g4
      obtain ⟨m0, e0, _, w0⟩ := DataW.trod_int Tryd.underlying3 g0
      obtain ⟨m1, e1, _, w1⟩ := DataW.trod_int Tryd.underlying3 g1
      obtain ⟨m2, e2, _, w2⟩ := DataW.trod_int Tryd.underlying3 g2
      obtain ⟨m3, e3, _, w3⟩ := DataW.trod_int Tryd.underlying22 g3
      obtain ⟨m4, e4, _, w4⟩ := DataW.trod_string Tryd.underlying9 g4
      cases e0; cases e1; cases e2; cases e3; cases e4
      refine ⟨m0, m1, m2, m3, m4, rfl, ?_, w4⟩
      have hb := bounds_u64 w3
      omega
end
end Go.Proofs.YtboommbclbjlnaaDoor.RowA
end
section
/- Arguments of the rows, opened: steps, and rows of steps. -/



namespace Go.Proofs.YtboommbclbjlnaaDoor.RowA
open Go.Shelf Go.ChangeShapes Go.WideShapes Go.ChangeAt Go.RowKit Go.Lib Go.Deep Go.Proofs.YtboommbclbjlnaaDoorW.PrintWords Go.Proofs.YtboommbclbjlnaaDoor.Fn
set_option maxRecDepth 100000
section
variable {H : Type} {enc : TypeId × Value → H} {W : World} {base b0 : Nat} {sp : Nat → Bool} {held : Bool}
/-- What a number of a step may be. -/
def okStep (x : S24) : Prop := 0 ≤ x.f3 ∧ x.f3 < 18446744073709551616
theorem core24 {fuel : Nat} {cs : List Value} {y : DataW H × List MemPlace} (h : DataW.trod enc Tryd.prog W base sp held fuel 24 cs = some y) : ∃ x : S24, k24.K W x cs ∧ okStep x := by
  obtain ⟨xs, n, _, hx, hl, hlen, hg⟩ := DataW.trod_struct Tryd.underlying24 h
  match cs, hl.trans cells24 with
  | [c0, c1, c2, c3, c4], _ =>
    match xs, hlen with
    | [y0, y1, y2, y3, y4], _ =>
      have g0 := hg 0 _ rfl
      change DataW.trod enc Tryd.prog W base sp held n 3 (([c0, c1, c2, c3, c4].drop 0).take (Tryd.prog.cellsOf 3)) = some y0 at g0
      rw [cells3] at g0
      have g1 := hg 1 _ rfl
      change DataW.trod enc Tryd.prog W base sp held n 3 (([c0, c1, c2, c3, c4].drop 1).take (Tryd.prog.cellsOf 3)) = some y1 at g1
      rw [cells3] at g1
      have g2 := hg 2 _ rfl
      change DataW.trod enc Tryd.prog W base sp held n 3 (([c0, c1, c2, c3, c4].drop 2).take (Tryd.prog.cellsOf 3)) = some y2 at g2
      rw [cells3] at g2
      have g3 := hg 3 _ rfl
      change DataW.trod enc Tryd.prog W base sp held n 22 (([c0, c1, c2, c3, c4].drop 3).take (Tryd.prog.cellsOf 22)) = some y3 at g3
      rw [cells22] at g3
      have g4 := hg 4 _ rfl
      change DataW.trod enc Tryd.prog W base sp held n 9 (([c0, c1, c2, c3, c4].drop 4).take (Tryd.prog.cellsOf 9)) = some y4 at g4
      rw [cells9] at g4
      obtain ⟨m0, e0, _, w0⟩ := DataW.trod_int Tryd.underlying3 g0
      obtain ⟨m1, e1, _, w1⟩ := DataW.trod_int Tryd.underlying3 g1
      obtain ⟨m2, e2, _, w2⟩ := DataW.trod_int Tryd.underlying3 g2
      obtain ⟨m3, e3, _, w3⟩ := DataW.trod_int Tryd.underlying22 g3
      obtain ⟨m4, e4, _, w4⟩ := DataW.trod_string Tryd.underlying9 g4
      cases e0; cases e1; cases e2; cases e3; cases e4
      refine ⟨⟨m0, m1, m2, m3, m4⟩, k24_mk W _, ?_⟩
      have hb := bounds_u64 w3
      exact ⟨hb.1, by show m3 < _; omega⟩
theorem open_row {α : Type} (d : Kd α) (Q : α → Prop) {t e : TypeId} (ht : Tryd.prog.underlying t = some (.slice e)) (hsz : Tryd.prog.cellsOf e = d.sz)
    (core : ∀ (fuel : Nat) (cs : List Value) (y : DataW H × List MemPlace), DataW.trod enc Tryd.prog W base sp held fuel e cs = some y → ∃ x : α, d.K W x cs ∧ Q x)
    {fuel : Nat} {cs : List Value} {y : DataW H × List MemPlace} (h : DataW.trod enc Tryd.prog W base sp held fuel t cs = some y) :
    ∃ (A : Option Addr) (l : List α) (c : Nat), cs = [.slice A l.length c] ∧ d.C W A l.length l ∧ l.length ≤ c ∧ ∀ x ∈ l, Q x := by
  rcases open_slice ht h with ⟨rfl, _⟩ | ⟨a, len, cap, m, n, D, Pl, rfl, hb, hl, hm, hmm, hx, hi⟩
  · exact ⟨none, [], 0, rfl, ⟨rfl, Nat.zero_le _, fun h => absurd h (by simp)⟩, Nat.le_refl _, fun x hx => by cases hx⟩
  · have hml : len ≤ m := by rw [hmm]; split <;> omega
    have hall : ∀ k, k ≤ len → ∃ l : List α, l.length = k ∧ (∀ x ∈ l, Q x) ∧ ∀ j p, l[j]? = some p → ∃ c, c.length = d.sz ∧ d.K W p c ∧ ∀ i u, c[i]? = some u → W.cell? (a.add (j * d.sz + i)) = some u := by
      intro k
      induction k with
      | zero => intro _; exact ⟨[], rfl, (fun x hx => by cases hx), (fun j p hj => by simp at hj)⟩
      | succ k ih =>
        intro hk
        obtain ⟨l, hlen, hq, hg⟩ := ih (by omega)
        obtain ⟨cs', hc, ht'⟩ := hi k (by omega)
        obtain ⟨x, hK, hQ⟩ := core _ _ _ ht'
        obtain ⟨_, hcl, hat⟩ := World.cells?_some hc
        rw [hsz] at hcl hat
        refine ⟨l ++ [x], by simp [hlen], fun z hz => ?_, fun j p hj => ?_⟩
        · rcases List.mem_append.1 hz with hz | hz
          · exact hq z hz
          · rw [List.mem_singleton.1 hz]; exact hQ
        · rcases Nat.lt_or_ge j l.length with hjl | hjl
          · rw [List.getElem?_append_left hjl] at hj
            exact hg j p hj
          · rw [List.getElem?_append_right hjl] at hj
            have hj0 : j - l.length = 0 := by
              rcases Nat.eq_zero_or_pos (j - l.length) with h0 | h0
              · exact h0
              · rw [List.getElem?_eq_none (by simp only [List.length_singleton]; omega)] at hj; cases hj
            rw [hj0] at hj
            cases hj
            refine ⟨cs', hcl, hK, fun i u hu => ?_⟩
            have hil : i < d.sz := by rw [← hcl]; exact (List.getElem?_eq_some_iff.1 hu).1
            have h1 := hat i hil
            rw [← Go.Deep.add_add, show j = k by omega, h1, hu]
    obtain ⟨l, hlen, hq, hg⟩ := hall len (Nat.le_refl _)
    subst hlen
    exact ⟨some a, l, cap, rfl, ⟨rfl, by unfold maxLen at hm; omega, fun _ => ⟨a, rfl, hg⟩⟩, hl, hq⟩
theorem one29 : Tryd.prog.cellsOf 29 = 1 := by kernel_rfl
theorem open_steps {r : Reach} {v : Value} {d : DataW H} {p : List MemPlace} (hv : Value.okWide Tryd.prog W r b0 29 v) (h : DataW.Trod enc Tryd.prog W base sp held 29 v d p) :
    ∃ (A : Option Addr) (l : List S24) (c : Nat), v = .slice A l.length c ∧ Kd.C k24 W A l.length l ∧ l.length ≤ c ∧ ∀ x ∈ l, okStep x := by
  obtain ⟨a, n, c, rfl⟩ := okWide_slice Tryd.underlying29 hv
  obtain ⟨fuel, hf⟩ := h
  obtain ⟨A, l, c', e, h1, h2, h3⟩ := open_row k24 okStep Tryd.underlying29 cells24 (fun _ _ _ => core24) hf
  exact ⟨A, l, c', List.singleton_inj.1 e, h1, h2, h3⟩
theorem open_rows {r : Reach} {v : Value} {d : DataW H} {p : List MemPlace} (hv : Value.okWide Tryd.prog W r b0 63 v) (h : DataW.Trod enc Tryd.prog W base sp held 63 v d p) :
    ∃ (A : Option Addr) (l : List (List S24)) (c : Nat), v = .slice A l.length c ∧ Kd.C (Kd.slice 24 k24) W A l.length l ∧ l.length ≤ c ∧ ∀ x ∈ l, ∀ s ∈ x, okStep s := by
  obtain ⟨a, n, c, rfl⟩ := okWide_slice Tryd.underlying63 hv
  obtain ⟨fuel, hf⟩ := h
  obtain ⟨A, l, c', e, h1, h2, h3⟩ := open_row (Kd.slice 24 k24) (fun x => ∀ s ∈ x, okStep s) Tryd.underlying63 one29 (fun fuel cs y hy => by
    obtain ⟨A, l, c, e, h1, h2, h3⟩ := open_row k24 okStep Tryd.underlying29 cells24 (fun _ _ _ => core24) hy
    exact ⟨l, ⟨A, c, e, h2, h1⟩, h3⟩) hf
  exact ⟨A, l, c', List.singleton_inj.1 e, h1, h2, h3⟩
end
end Go.Proofs.YtboommbclbjlnaaDoor.RowA
end
