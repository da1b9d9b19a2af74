-- Packed by pack.py, a program of this session, out of texts of this claim.
import Derived.Test.YtfoniidbkbmjeaaDoorPlBytes
import Derived.Test.YtfoniidbkbmjeaaDoorPlCrc
import Derived.Test.YtfoniidbkbmjeaaDoorClStreamFinds1
import Derived.Test.YtfoniidbkbmjeaaDoorPlRunes
import Derived.Test.YtfoniidbkbmjeaaDoorClStreamFinds2
import Derived.Test.YtfoniidbkbmjeaaDoorRows
import Derived.Test.YtfoniidbkbmjeaaDoorLfRight
import Derived.Lib.LaidU8T
import Derived.Lib.LaidTab
import Derived.Lib.LaidU8
import Derived.PinnedBridge
import Derived.WalkKit
import Derived.ProofKit
import Derived.OpenShut
import Derived.ChangeOld
import Derived.Below
import Derived.SizedLaws
import Derived.Carry
import Derived.Deep.DeepHandedRow
import Derived.Deep.DeepWitnessRowRef
import Derived.Deep.Fields
import Derived.Deep.DeepLaidRun
import Derived.Lib.TrailingZeros
import Derived.Stop.LaidErr
import Derived.Shelf.Vars
import Derived.ChangeShapes
import Derived.Lib.SmallJoins
section
/- What the printed functions of le and seal, and the references to them, tell, in plain words. -/






namespace Go.Proofs.YtfoniidbkbmjeaaDoor.Pu
open Go Go.RowKit Go.Proofs.YtfoniidbkbmjeaaDoor.Pl Go.Proofs.YtfoniidbkbmjeaaDoor.Lf Go.Proofs.YtfoniidbkbmjeaaDoor.Fn Go.Proofs.YtfoniidbkbmjeaaDoorW.PrintWords
theorem u64_nat (n : Nat) (h : n < 18446744073709551616) : IntKind.u64.wrap (n : Int) = (n : Int) := by
  simp [IntKind.wrap, IntKind.bits, IntKind.signed]; omega
theorem w64 (x : Int) (h0 : -9223372036854775808 ≤ x) (h1 : x < 9223372036854775808) : wrap64 x = x := by unfold wrap64; omega
theorem str_put (n m : Nat) : strOfNums (Go.Proofs.YtfoniidbkbmjeaaDoor.Lf.bytesOf (n : Int) m) = ba (putN n m) := by
  unfold strOfNums Go.Proofs.YtfoniidbkbmjeaaDoor.Lf.bytesOf putN ba
  rw [List.map_map]
  congr 2
theorem put_eq (n : Nat) (h : n < 18446744073709551616) (m : Int) : le_Put.f (n : Int) m = some (ba (putN n (many8 m))) := by
  unfold le_Put.f
  rw [if_pos ⟨by omega, by omega⟩, str_put]
theorem ref_put_l (m : Nat) (hm : m ≤ 8) : ∀ (d n : Nat) (acc : List Int) (i : Nat), n < 18446744073709551616 → acc.length = i → i + d = m →
    Ev (fun k => rootcellarref2_Put.l0 k (n : Int) (m : Int) acc (i : Int)) (strOfNums (acc ++ (List.range d).map fun j => ((n / 256 ^ j % 256 : Nat) : Int))) := by
  intro d
  induction d with
  | zero =>
    intro n acc i hn ha hi
    refine Ev.step (f := fun _ => some (strOfNums (acc ++ []))) (fun k => ?_) (Ev.now _)
    simp only [rootcellarref2_Put.l0]
    rw [if_neg (by omega), List.append_nil]
  | succ d ih =>
    intro n acc i hn ha hi
    have e1 : IntKind.u64.wrap (Int.tdiv (n : Int) 256) = ((n / 256 : Nat) : Int) := by
      rw [show Int.tdiv (n : Int) 256 = ((n / 256 : Nat) : Int) by rw [Int.tdiv_eq_ediv_of_nonneg (by omega)]; omega]
      exact u64_nat _ (by omega)
    have e2 : (Int.tmod (n : Int) 256) % 256 = ((n % 256 : Nat) : Int) := by
      rw [Int.tmod_eq_emod_of_nonneg (by omega)]; omega
    have e3 : wrap64 ((i : Int) + 1) = ((i + 1 : Nat) : Int) := by rw [w64 _ (by omega) (by omega)]; omega
    have h := ih (n / 256) (acc ++ [((n % 256 : Nat) : Int)]) (i + 1) (by omega) (by simp [ha]) (by omega)
    have es : acc ++ [((n % 256 : Nat) : Int)] ++ (List.range d).map (fun j => ((n / 256 / 256 ^ j % 256 : Nat) : Int)) = acc ++ (List.range (d + 1)).map (fun j => ((n / 256 ^ j % 256 : Nat) : Int)) := by
      rw [List.range_succ_eq_map, List.map_cons, List.map_map, List.append_assoc]
      congr 1
      simp only [List.singleton_append, Nat.pow_zero, Nat.div_one]
      congr 1
      apply List.map_congr_left
      intro j _
      simp only [Function.comp, Nat.succ_eq_add_one, Nat.pow_succ, Nat.div_div_eq_div_mul]
      rw [Nat.mul_comm 256 (256 ^ j)]
    rw [es] at h
    refine Ev.step (fun k => ?_) h
    simp only [rootcellarref2_Put.l0]
    rw [if_pos (by omega), if_pos (by omega), if_pos (by omega), e1, e2, e3]
theorem ref_put (n m : Nat) (hn : n < 18446744073709551616) (hm : m ≤ 8) : Ev (fun k => rootcellarref2_Put.f k (n : Int) (m : Int)) (ba (putN n m)) := by
  have h := ref_put_l m hm m n [] 0 hn rfl (by omega)
  have e : strOfNums ([] ++ (List.range m).map fun j => ((n / 256 ^ j % 256 : Nat) : Int)) = ba (putN n m) := by
    unfold strOfNums putN ba
    rw [List.nil_append, List.map_map]
    rfl
  rw [e] at h
  exact h
theorem ref_put1 (n : Nat) (hn : n < 18446744073709551616) : Ev (fun k => rootcellarref2_Put.f k (n : Int) 1) (ba (putN n 1)) := ref_put n 1 hn (by omega)
theorem ref_put2 (n : Nat) (hn : n < 18446744073709551616) : Ev (fun k => rootcellarref2_Put.f k (n : Int) 2) (ba (putN n 2)) := ref_put n 2 hn (by omega)
theorem ref_put4 (n : Nat) (hn : n < 18446744073709551616) : Ev (fun k => rootcellarref2_Put.f k (n : Int) 4) (ba (putN n 4)) := ref_put n 4 hn (by omega)
theorem ref_put8 (n : Nat) (hn : n < 18446744073709551616) : Ev (fun k => rootcellarref2_Put.f k (n : Int) 8) (ba (putN n 8)) := ref_put n 8 hn (by omega)
/-! ### the sums -/
theorem bx (a b : BitVec 32) : bits .xor .u32 ((a.toNat : Nat) : Int) ((b.toNat : Nat) : Int) = (((a ^^^ b).toNat : Nat) : Int) := by
  rw [u32_xor_nat _ _ a.isLt b.isLt, BitVec.toNat_xor]
theorem nib_eq (r : BitVec 32) : nib ((r.toNat : Nat) : Int) = (((ticks 4 r).toNat : Nat) : Int) := by
  unfold nib
  have e1 : ((r.toNat : Nat) : Int) / (16 : Int) = (((r >>> 4).toNat : Nat) : Int) := by
    rw [BitVec.toNat_ushiftRight, Nat.shiftRight_eq_div_pow]; omega
  have e2 : bits .and .u32 ((r.toNat : Nat) : Int) 15 = (((r &&& 15#32).toNat : Nat) : Int) := by
    have := u32_and_nat r.toNat 15 r.isLt (by omega)
    rw [show ((15 : Nat) : Int) = 15 from rfl] at this
    rw [this, BitVec.toNat_and]; rfl
  have e3 : ((tabL.getD ((r &&& 15#32).toNat : Int).toNat 0 : Nat) : Int) = (((ticks 4 (r &&& 15#32)).toNat : Nat) : Int) := by
    have hlt : (r &&& 15#32).toNat < 16 := by
      rw [BitVec.toNat_and]; exact Nat.and_lt_two_pow (n := 4) _ (by decide)
    have key : ∀ i : Fin 16, tabL.getD i.val 0 = (ticks 4 (BitVec.ofNat 32 i.val)).toNat := by decide +kernel
    have := key ⟨(r &&& 15#32).toNat, hlt⟩
    simp only [BitVec.ofNat_toNat, BitVec.setWidth_eq] at this
    rw [Int.toNat_natCast, this]
  rw [e1, e2, e3, bx, ← ticks4_split]
theorem byteStep_eq (r : BitVec 32) (c : UInt8) : byteStep ((r.toNat : Nat) : Int) c = (((crcB r c).toNat : Nat) : Int) := by
  unfold byteStep crcB
  have hc := c.toNat_lt
  have e : (c.toNat : Int) % 4294967296 = (((BitVec.ofNat 32 c.toNat).toNat : Nat) : Int) := by
    rw [BitVec.toNat_ofNat, Nat.mod_eq_of_lt (by omega)]; omega
  rw [e, bx, nib_eq, nib_eq, ← ticks8]
theorem sumI_eq (l : List UInt8) : sumI l = (((crcR (BitVec.allOnes 32) l).toNat : Nat) : Int) := by
  have key : ∀ (l : List UInt8) (r : BitVec 32), l.foldl byteStep ((r.toNat : Nat) : Int) = (((crcR r l).toNat : Nat) : Int) := by
    intro l
    induction l with
    | nil => intro r; rfl
    | cons c l ih => intro r; rw [List.foldl_cons, byteStep_eq, ih]; rfl
  exact key l (BitVec.allOnes 32)
theorem not_eq (r : BitVec 32) : bits .xor .u32 4294967295 ((r.toNat : Nat) : Int) = (((~~~r).toNat : Nat) : Int) := by
  have := bx (BitVec.allOnes 32) r
  rw [BitVec.allOnes_xor] at this
  exact this
theorem not_eq' (r : BitVec 32) : bits .xor .u32 ((r.toNat : Nat) : Int) 4294967295 = (((~~~r).toNat : Nat) : Int) := by
  have := bx r (BitVec.allOnes 32)
  rw [BitVec.xor_allOnes] at this
  exact this
theorem sum_eq (l : List UInt8) (h : l.length ≤ 9223372036854775807) : seal_Sum.f (ba l) = some (((crc l).toNat : Nat) : Int) := by
  unfold seal_Sum.f
  rw [ba_size, if_pos h, ba_list, sumI_eq, not_eq]
  rfl
/-- A text with its sum behind it. -/
def sealed (l : List UInt8) : List UInt8 := l ++ putN (crc l).toNat 4
theorem sealed_length (l : List UInt8) : (sealed l).length = l.length + 4 := by simp [sealed, putN_length]
theorem seal_put_eq (l : List UInt8) (h : l.length ≤ 1000000000) : seal_Put.f (ba l) = some (ba (sealed l)) := by
  unfold seal_Put.f
  have hc := (crc l).isLt
  rw [sum_eq l (by omega), Option.bind_some, u64_nat _ (by omega), put_eq _ (by omega), Option.bind_some]
  have : many8 4 = 4 := by decide
  rw [this, ba_size, ba_size, putN_length, if_pos (by omega), ba_append]
  rfl
/-! ### the reference's sum: bit by bit, the byte beside the register -/
theorem ref_bit (k : Nat) (s : ByteArray) (r c : BitVec 32) (i : Int) (j : Nat) (hj : j < 8) :
    rootcellarref3_Sum.l1 (k + 1) s ((r.toNat : Nat) : Int) i ((c.toNat : Nat) : Int) (j : Int) =
      rootcellarref3_Sum.l1 k s ((((r >>> 1) ^^^ (if (r ^^^ c).getLsbD 0 then poly else 0#32)).toNat : Nat) : Int) i (((c >>> 1).toNat : Nat) : Int) ((j + 1 : Nat) : Int) := by
  have e1 : ∀ x : BitVec 32, Int.tdiv ((x.toNat : Nat) : Int) 2 % (4294967296 : Int) = (((x >>> 1).toNat : Nat) : Int) := fun x => by
    have hx := x.isLt
    rw [Int.tdiv_eq_ediv_of_nonneg (by omega), BitVec.toNat_ushiftRight, Nat.shiftRight_eq_div_pow]
    omega
  have e2 : wrap64 ((j : Int) + 1) = ((j + 1 : Nat) : Int) := by rw [w64 _ (by omega) (by omega)]; omega
  have e3 : bits .and .u32 (bits .xor .u32 ((r.toNat : Nat) : Int) ((c.toNat : Nat) : Int)) 1 = (if (r ^^^ c).getLsbD 0 then 1 else 0) := by
    rw [bx]
    have h := u32_and_nat (r ^^^ c).toNat 1 (r ^^^ c).isLt (by omega)
    rw [show ((1 : Nat) : Int) = 1 from rfl] at h
    rw [h, nat_mask1]
    have : (r ^^^ c).getLsbD 0 = decide ((r ^^^ c).toNat % 2 = 1) := by
      simp [BitVec.getLsbD, Nat.testBit_zero]
    rw [this]
    by_cases hb : (r ^^^ c).toNat % 2 = 1
    · rw [hb]; rfl
    · rw [show (r ^^^ c).toNat % 2 = 0 by omega]; rfl
  have e4 : ∀ x : BitVec 32, bits .xor .u32 ((x.toNat : Nat) : Int) 3988292384 = (((x ^^^ poly).toNat : Nat) : Int) := fun x => bx x poly
  simp only [rootcellarref3_Sum.l1]
  rw [if_pos (by omega), e3, e1, e1, e2]
  cases (r ^^^ c).getLsbD 0
  · rw [if_neg (by decide), if_neg (by decide), BitVec.xor_zero]
  · rw [if_pos (by decide), if_pos (by decide), e4]
theorem ref_bits (s : ByteArray) (i : Int) (R : Int) : ∀ (d j : Nat) (r c : BitVec 32), j + d = 8 → c.toNat < 2 ^ d →
    Ev (fun k => rootcellarref3_Sum.l0 k s (((ticks d (r ^^^ c)).toNat : Nat) : Int) (wrap64 (i + 1))) R →
    Ev (fun k => rootcellarref3_Sum.l1 k s ((r.toNat : Nat) : Int) i ((c.toNat : Nat) : Int) (j : Int)) R := by
  intro d
  induction d with
  | zero =>
    intro j r c hj hc h
    have hc0 : c = 0#32 := BitVec.eq_of_toNat_eq (by simpa using hc)
    subst hc0
    rw [BitVec.xor_zero] at h
    refine Ev.step (fun k => ?_) h
    simp only [rootcellarref3_Sum.l1]
    rw [if_neg (by omega)]
    rfl
  | succ d ih =>
    intro j r c hj hc h
    refine Ev.step (fun k => ref_bit k s r c i j (by omega)) (ih (j + 1) _ (c >>> 1) (by omega) ?_ ?_)
    · rw [BitVec.toNat_ushiftRight, Nat.shiftRight_eq_div_pow]
      have : (2 : Nat) ^ (d + 1) = 2 * 2 ^ d := by rw [Nat.pow_succ, Nat.mul_comm]
      omega
    · have e : (r >>> 1 ^^^ if (r ^^^ c).getLsbD 0 = true then poly else 0#32) ^^^ c >>> 1 = tick (r ^^^ c) := by
        unfold tick
        generalize (if (r ^^^ c).getLsbD 0 = true then poly else 0#32) = q
        rw [BitVec.ushiftRight_xor_distrib, BitVec.xor_assoc, BitVec.xor_comm q, ← BitVec.xor_assoc]
      rw [e]
      exact h
theorem bt_ba (l : List UInt8) (i : Nat) (h : i < l.length) : bt (ba l) (i : Int) = ((l[i]'h).toNat : Int) := by
  unfold bt
  have h2 : (i : Int).toNat < (ba l).size := by rw [ba_size]; simpa using h
  rw [dif_pos h2]
  have : (ba l)[(i : Int).toNat]'h2 = l[i]'h := by
    show (ba l).data[(i : Int).toNat]'h2 = _
    simp [ba]
  rw [this]
theorem ref_sum_l (l : List UInt8) (hl : l.length ≤ 1000000000) : ∀ (d i : Nat) (r : BitVec 32), i + d = l.length →
    Ev (fun k => rootcellarref3_Sum.l0 k (ba l) ((r.toNat : Nat) : Int) (i : Int)) (((~~~(crcR r (l.drop i))).toNat : Nat) : Int) := by
  intro d
  induction d with
  | zero =>
    intro i r hi
    refine Ev.step (f := fun _ => some _) (fun k => ?_) (Ev.now _)
    simp only [rootcellarref3_Sum.l0]
    rw [ba_size, if_neg (by omega), List.drop_eq_nil_of_le (by omega), crcR_nil, not_eq']
  | succ d ih =>
    intro i r hi
    have hlt : i < l.length := by omega
    have hb := (l[i]'hlt).toNat_lt
    have h := ih (i + 1) (crcB r (l[i]'hlt)) (by omega)
    rw [← crcR_cons, ← List.drop_eq_getElem_cons hlt] at h
    have e : (bt (ba l) (i : Int)) % 4294967296 = (((BitVec.ofNat 32 (l[i]'hlt).toNat).toNat : Nat) : Int) := by
      rw [bt_ba l i hlt, BitVec.toNat_ofNat, Nat.mod_eq_of_lt (by omega)]; omega
    refine Ev.step (f := fun k => rootcellarref3_Sum.l1 k (ba l) ((r.toNat : Nat) : Int) (i : Int) (((BitVec.ofNat 32 (l[i]'hlt).toNat).toNat : Nat) : Int) ((0 : Nat) : Int)) (fun k => ?_) (ref_bits (ba l) (i : Int) _ 8 0 r _ rfl ?_ ?_)
    · simp only [rootcellarref3_Sum.l0]
      rw [ba_size, if_pos (by omega), if_pos (by omega), e]
      rfl
    · rw [BitVec.toNat_ofNat, Nat.mod_eq_of_lt (by omega)]; exact hb
    · rw [w64 _ (by omega) (by omega)]
      exact h
theorem ref_sum (l : List UInt8) (hl : l.length ≤ 1000000000) : Ev (fun k => rootcellarref3_Sum.f k (ba l)) (((crc l).toNat : Nat) : Int) :=
  ref_sum_l l hl l.length 0 (BitVec.allOnes 32) (by omega)
theorem ref_seal_put (l : List UInt8) (hl : l.length ≤ 1000000000) : Ev (fun k => rootcellarref3_Put.f k (ba l)) (ba (sealed l)) := by
  have hc := (crc l).isLt
  refine Ev.bind (ref_sum l hl) ?_
  rw [u64_nat _ (by omega)]
  refine Ev.bind (ref_put (crc l).toNat 4 (by omega) (by omega)) ?_
  refine Ev.congr (f := fun _ => some (ba (sealed l))) (fun k => ?_) (Ev.now _)
  rw [ba_size, ba_size, putN_length, if_pos (by omega), ba_append]
  rfl
end Go.Proofs.YtfoniidbkbmjeaaDoor.Pu
end
section
/- What the printed reference to label tells: its runes are the decoder's own. -/



namespace Go.Proofs.YtfoniidbkbmjeaaDoor.Pu
open Go Go.Lib Go.RowKit Go.Proofs.YtfoniidbkbmjeaaDoor.Pl Go.Proofs.YtfoniidbkbmjeaaDoor.Lf Go.Proofs.YtfoniidbkbmjeaaDoor.Fn Go.Proofs.YtfoniidbkbmjeaaDoorW.PrintWords
theorem bt_all (l : List UInt8) (i : Nat) : bt (ba l) (i : Int) = ((l.getD i 0).toNat : Int) := by
  by_cases h : i < l.length
  · rw [bt_ba l i h, List.getD_eq_getElem?_getD, List.getElem?_eq_getElem h]; rfl
  · unfold bt
    rw [dif_neg (by rw [ba_size]; simpa using h), List.getD_eq_getElem?_getD, List.getElem?_eq_none (by omega)]
    rfl
theorem more_eq (l : List UInt8) (i : Nat) : rootcellarref1_more.f (ba l) (i : Int) = some (decide (i < l.length ∧ 128 ≤ (l.getD i 0).toNat ∧ (l.getD i 0).toNat ≤ 191)) := by
  unfold rootcellarref1_more.f
  rw [ba_size, bt_all]
  generalize (l.getD i 0).toNat = b
  by_cases h1 : i < l.length
  · rw [if_pos (by omega), if_pos (by omega)]
    by_cases h2 : 128 ≤ b
    · rw [if_pos (by omega)]
      by_cases h3 : b ≤ 191
      · rw [decide_eq_true (by omega), decide_eq_true ⟨h1, h2, h3⟩]
      · rw [decide_eq_false (by omega), decide_eq_false (by omega)]
    · rw [if_neg (by omega), decide_eq_false (by omega)]
  · rw [if_neg (by omega), decide_eq_false (by omega)]
def refN (n b0 b1 b2 b3 : Nat) : Int × Int :=
  if b0 < 128 then ((b0 : Int), 1)
  else if (194 ≤ b0 ∧ b0 ≤ 223) ∧ (1 < n ∧ 128 ≤ b1 ∧ b1 ≤ 191) then (((b0 : Int) - 192) * 64 + b1 - 128, 2)
  else if (224 ≤ b0 ∧ b0 ≤ 239) ∧ (1 < n ∧ 128 ≤ b1 ∧ b1 ≤ 191) ∧ (2 < n ∧ 128 ≤ b2 ∧ b2 ≤ 191) ∧ (2048 ≤ ((b0 : Int) - 224) * 4096 + ((b1 : Int) - 128) * 64 + b2 - 128 ∧ ¬ (55296 ≤ ((b0 : Int) - 224) * 4096 + ((b1 : Int) - 128) * 64 + b2 - 128 ∧ ((b0 : Int) - 224) * 4096 + ((b1 : Int) - 128) * 64 + b2 - 128 ≤ 57343)) then (((b0 : Int) - 224) * 4096 + ((b1 : Int) - 128) * 64 + b2 - 128, 3)
  else if (240 ≤ b0 ∧ b0 ≤ 244) ∧ (1 < n ∧ 128 ≤ b1 ∧ b1 ≤ 191) ∧ (2 < n ∧ 128 ≤ b2 ∧ b2 ≤ 191) ∧ (3 < n ∧ 128 ≤ b3 ∧ b3 ≤ 191) ∧ (65536 ≤ ((b0 : Int) - 240) * 262144 + ((b1 : Int) - 128) * 4096 + ((b2 : Int) - 128) * 64 + b3 - 128 ∧ ((b0 : Int) - 240) * 262144 + ((b1 : Int) - 128) * 4096 + ((b2 : Int) - 128) * 64 + b3 - 128 ≤ 1114111) then (((b0 : Int) - 240) * 262144 + ((b1 : Int) - 128) * 4096 + ((b2 : Int) - 128) * 64 + b3 - 128, 4)
  else (-1, 1)
theorem refN_eq (n b0 b1 b2 b3 : Nat) (h0 : b0 < 256) (h1 : b1 < 256) (h2 : b2 < 256) (h3 : b3 < 256) :
    refN n b0 b1 b2 b3 = if (decodeN n b0 b1 b2 b3).1 = 65533 ∧ (decodeN n b0 b1 b2 b3).2 = 1 then ((-1 : Int), (1 : Int)) else (((decodeN n b0 b1 b2 b3).1 : Int), ((decodeN n b0 b1 b2 b3).2 : Int)) := by
  unfold refN decodeN
  repeat' split
  all_goals first | rfl | (exfalso; omega) | (apply Prod.ext <;> simp only <;> omega) | skip
theorem wb (b : Nat) (h : b < 256) : wrap64 (b : Int) = b := by unfold wrap64; omega
theorem wa2 (b0 b1 : Nat) (h0 : b0 < 256) (h1 : b1 < 256) : wrap64 (wrap64 (wrap64 (wrap64 ((b0 : Int) - 192) * 64) + b1) - 128) = ((b0 : Int) - 192) * 64 + b1 - 128 := by unfold wrap64; omega
theorem wa3 (b0 b1 b2 : Nat) (h0 : b0 < 256) (h1 : b1 < 256) (h2 : b2 < 256) : wrap64 (wrap64 (wrap64 (wrap64 (wrap64 ((b0 : Int) - 224) * 4096) + wrap64 (wrap64 ((b1 : Int) - 128) * 64)) + b2) - 128) = ((b0 : Int) - 224) * 4096 + ((b1 : Int) - 128) * 64 + b2 - 128 := by unfold wrap64; omega
theorem wa4 (b0 b1 b2 b3 : Nat) (h0 : b0 < 256) (h1 : b1 < 256) (h2 : b2 < 256) (h3 : b3 < 256) : wrap64 (wrap64 (wrap64 (wrap64 (wrap64 (wrap64 ((b0 : Int) - 240) * 262144) + wrap64 (wrap64 ((b1 : Int) - 128) * 4096)) + wrap64 (wrap64 ((b2 : Int) - 128) * 64)) + b3) - 128) = ((b0 : Int) - 240) * 262144 + ((b1 : Int) - 128) * 4096 + ((b2 : Int) - 128) * 64 + b3 - 128 := by unfold wrap64; omega
def c3 (b0 b1 b2 : Nat) : Int := ((b0 : Int) - 224) * 4096 + ((b1 : Int) - 128) * 64 + b2 - 128
def c4 (b0 b1 b2 b3 : Nat) : Int := ((b0 : Int) - 240) * 262144 + ((b1 : Int) - 128) * 4096 + ((b2 : Int) - 128) * 64 + b3 - 128
section
variable (s : ByteArray) (n b0 b1 b2 b3 : Nat) (h0 : b0 < 256) (h1 : b1 < 256) (h2 : b2 < 256) (h3 : b3 < 256) (S : (s.size : Int) = n)
    (B0 : bt s 0 = b0) (B1 : bt s 1 = b1) (B2 : bt s 2 = b2) (B3 : bt s 3 = b3)
include h0 h1 h2 h3 S B1 B2 B3
theorem rj3 (k : Nat) (q : Bool) (hq : q = true → 3 < n) : rootcellarref1_Rune.j3 (k + 1) s b0 q = some (if q = true ∧ (65536 ≤ c4 b0 b1 b2 b3 ∧ c4 b0 b1 b2 b3 ≤ 1114111) then (c4 b0 b1 b2 b3, 4) else (-1, 1)) := by
  cases q
  · rfl
  · have hn := hq rfl
    have g1 : (1 : Int) < n := by omega
    have g2 : (2 : Int) < n := by omega
    have g3 : (3 : Int) < n := by omega
    simp only [rootcellarref1_Rune.j3, S, if_pos g1, if_pos g2, if_pos g3, if_true, B1, B2, B3, wb b1 h1, wb b2 h2, wb b3 h3, wa4 b0 b1 b2 b3 h0 h1 h2 h3]
    show (if c4 b0 b1 b2 b3 ≥ 65536 then _ else _) = _
    by_cases x : c4 b0 b1 b2 b3 ≥ 65536
    · rw [if_pos x]
      by_cases y : c4 b0 b1 b2 b3 ≤ 1114111
      · rw [if_pos (show ((b0 : Int) - 240) * 262144 + ((b1 : Int) - 128) * 4096 + ((b2 : Int) - 128) * 64 + b3 - 128 ≤ 1114111 from y), if_pos ⟨trivial, x, y⟩]; rfl
      · rw [if_neg (show ¬ ((b0 : Int) - 240) * 262144 + ((b1 : Int) - 128) * 4096 + ((b2 : Int) - 128) * 64 + b3 - 128 ≤ 1114111 from y), if_neg (fun h => y h.2.2)]
    · rw [if_neg x, if_neg (fun h => x h.2.1)]
variable (m1 m2 m3 : Bool) (M1 : rootcellarref1_more.f s 1 = some m1) (M2 : rootcellarref1_more.f s 2 = some m2) (M3 : rootcellarref1_more.f s 3 = some m3) (q1 : m1 = true → 1 < n) (q2 : m2 = true → 2 < n) (q3 : m3 = true → 3 < n)
include M1 M2 M3 q3
theorem rj2 (k : Nat) : rootcellarref1_Rune.j2 (k + 2) s b0 = some (if (240 ≤ b0 ∧ b0 ≤ 244) ∧ m1 = true ∧ m2 = true ∧ m3 = true ∧ (65536 ≤ c4 b0 b1 b2 b3 ∧ c4 b0 b1 b2 b3 ≤ 1114111) then (c4 b0 b1 b2 b3, 4) else (-1, 1)) := by
  have J := fun q hq => rj3 s n b0 b1 b2 b3 h0 h1 h2 h3 S B1 B2 B3 k q hq
  have Jf := J false (fun h => by cases h)
  have J3 := J m3 q3
  rw [if_neg (by simp)] at Jf
  simp only [rootcellarref1_Rune.j2, M1, M2, M3, Option.bind_some]
  by_cases x : 240 ≤ b0
  · rw [if_pos (show (b0 : Int) ≥ 240 by omega)]
    by_cases y : b0 ≤ 244
    · rw [if_pos (show (b0 : Int) ≤ 244 by omega)]
      cases m1
      · rw [if_neg (by decide), Jf, if_neg (by simp)]
      · cases m2
        · rw [if_pos rfl, if_neg (by decide), Jf, if_neg (by simp)]
        · rw [if_pos rfl, if_pos rfl, J3]
          congr 1
          by_cases z : m3 = true ∧ (65536 ≤ c4 b0 b1 b2 b3 ∧ c4 b0 b1 b2 b3 ≤ 1114111)
          · rw [if_pos z, if_pos ⟨⟨x, y⟩, rfl, rfl, z⟩]
          · rw [if_neg z, if_neg (fun h => z h.2.2.2)]
    · rw [if_neg (show ¬ (b0 : Int) ≤ 244 by omega), Jf, if_neg (fun h => y h.1.2)]
  · rw [if_neg (show ¬ (b0 : Int) ≥ 240 by omega), Jf, if_neg (fun h => x h.1.1)]
include q2
theorem rj1 (k : Nat) (q : Bool) (hq : q = true → m2 = true) : rootcellarref1_Rune.j1 (k + 3) s b0 q = some (if q = true ∧ (2048 ≤ c3 b0 b1 b2 ∧ ¬ (55296 ≤ c3 b0 b1 b2 ∧ c3 b0 b1 b2 ≤ 57343)) then (c3 b0 b1 b2, 3) else if (240 ≤ b0 ∧ b0 ≤ 244) ∧ m1 = true ∧ m2 = true ∧ m3 = true ∧ (65536 ≤ c4 b0 b1 b2 b3 ∧ c4 b0 b1 b2 b3 ≤ 1114111) then (c4 b0 b1 b2 b3, 4) else (-1, 1)) := by
  have J2 := rj2 s n b0 b1 b2 b3 h0 h1 h2 h3 S B1 B2 B3 m1 m2 m3 M1 M2 M3 q3 k
  cases q
  · rw [if_neg (by simp), ← J2]
    simp only [rootcellarref1_Rune.j1]
    rw [if_neg (by decide)]
  · have hn := q2 (hq rfl)
    have g1 : (1 : Int) < n := by omega
    have g2 : (2 : Int) < n := by omega
    simp only [rootcellarref1_Rune.j1, S, if_pos g1, if_pos g2, if_true, B1, B2, wb b1 h1, wb b2 h2, wa3 b0 b1 b2 h0 h1 h2]
    show (if c3 b0 b1 b2 ≥ 2048 then (if c3 b0 b1 b2 ≥ 55296 then (if c3 b0 b1 b2 ≤ 57343 then _ else some (c3 b0 b1 b2, 3)) else some (c3 b0 b1 b2, 3)) else _) = _
    by_cases x : c3 b0 b1 b2 ≥ 2048
    · rw [if_pos x]
      by_cases y : c3 b0 b1 b2 ≥ 55296
      · rw [if_pos y]
        by_cases z : c3 b0 b1 b2 ≤ 57343
        · rw [if_pos z, if_neg (fun h => h.2.2 ⟨y, z⟩)]; exact J2
        · rw [if_neg z, if_pos ⟨trivial, x, fun h => z h.2⟩]
      · rw [if_neg y, if_pos ⟨trivial, x, fun h => y h.1⟩]
    · rw [if_neg x, if_neg (fun h => x h.2.1)]; exact J2
include q1
theorem rj0 (k : Nat) (q : Bool) (hq : q = true → m1 = true) : rootcellarref1_Rune.j0 (k + 4) s b0 q = some (if q = true then (((b0 : Int) - 192) * 64 + b1 - 128, 2) else if ((224 ≤ b0 ∧ b0 ≤ 239) ∧ m1 = true ∧ m2 = true) ∧ (2048 ≤ c3 b0 b1 b2 ∧ ¬ (55296 ≤ c3 b0 b1 b2 ∧ c3 b0 b1 b2 ≤ 57343)) then (c3 b0 b1 b2, 3) else if (240 ≤ b0 ∧ b0 ≤ 244) ∧ m1 = true ∧ m2 = true ∧ m3 = true ∧ (65536 ≤ c4 b0 b1 b2 b3 ∧ c4 b0 b1 b2 b3 ≤ 1114111) then (c4 b0 b1 b2 b3, 4) else (-1, 1)) := by
  have J := fun q hq => rj1 s n b0 b1 b2 b3 h0 h1 h2 h3 S B1 B2 B3 m1 m2 m3 M1 M2 M3 q2 q3 k q hq
  revert J
  generalize (if (240 ≤ b0 ∧ b0 ≤ 244) ∧ m1 = true ∧ m2 = true ∧ m3 = true ∧ (65536 ≤ c4 b0 b1 b2 b3 ∧ c4 b0 b1 b2 b3 ≤ 1114111) then (c4 b0 b1 b2 b3, 4) else ((-1 : Int), (1 : Int))) = E
  intro J
  have Jf := J false (fun h => by cases h)
  rw [if_neg (by simp)] at Jf
  have J2 := J m2 (fun h => h)
  cases q
  · rw [if_neg (by decide)]
    simp only [rootcellarref1_Rune.j0, M1, M2, Option.bind_some]
    rw [if_neg (by decide)]
    by_cases x : 224 ≤ b0
    · rw [if_pos (show (b0 : Int) ≥ 224 by omega)]
      by_cases y : b0 ≤ 239
      · rw [if_pos (show (b0 : Int) ≤ 239 by omega)]
        cases m1
        · rw [if_neg (by decide), Jf, if_neg (by simp)]
        · rw [if_pos rfl, J2]
          congr 1
          by_cases z : m2 = true ∧ (2048 ≤ c3 b0 b1 b2 ∧ ¬ (55296 ≤ c3 b0 b1 b2 ∧ c3 b0 b1 b2 ≤ 57343))
          · rw [if_pos z, if_pos ⟨⟨⟨x, y⟩, rfl, z.1⟩, z.2⟩]
          · rw [if_neg z, if_neg (fun h => z ⟨h.1.2.2, h.2⟩)]
      · rw [if_neg (show ¬ (b0 : Int) ≤ 239 by omega), Jf, if_neg (fun h => y h.1.1.2)]
    · rw [if_neg (show ¬ (b0 : Int) ≥ 224 by omega), Jf, if_neg (fun h => x h.1.1.1)]
  · have hn := q1 (hq rfl)
    have g1 : (1 : Int) < n := by omega
    simp only [rootcellarref1_Rune.j0, S, if_pos g1, if_true, B1, wb b1 h1, wa2 b0 b1 h0 h1]
include B0
theorem rune_N (hn : 1 ≤ n) (k : Nat) : rootcellarref1_Rune.f (k + 4) s = some (if b0 < 128 then ((b0 : Int), 1) else if (194 ≤ b0 ∧ b0 ≤ 223) ∧ m1 = true then (((b0 : Int) - 192) * 64 + b1 - 128, 2) else if ((224 ≤ b0 ∧ b0 ≤ 239) ∧ m1 = true ∧ m2 = true) ∧ (2048 ≤ c3 b0 b1 b2 ∧ ¬ (55296 ≤ c3 b0 b1 b2 ∧ c3 b0 b1 b2 ≤ 57343)) then (c3 b0 b1 b2, 3) else if (240 ≤ b0 ∧ b0 ≤ 244) ∧ m1 = true ∧ m2 = true ∧ m3 = true ∧ (65536 ≤ c4 b0 b1 b2 b3 ∧ c4 b0 b1 b2 b3 ≤ 1114111) then (c4 b0 b1 b2 b3, 4) else (-1, 1)) := by
  have J := fun q hq => rj0 s n b0 b1 b2 b3 h0 h1 h2 h3 S B1 B2 B3 m1 m2 m3 M1 M2 M3 q1 q2 q3 k q hq
  revert J
  generalize (if ((224 ≤ b0 ∧ b0 ≤ 239) ∧ m1 = true ∧ m2 = true) ∧ (2048 ≤ c3 b0 b1 b2 ∧ ¬ (55296 ≤ c3 b0 b1 b2 ∧ c3 b0 b1 b2 ≤ 57343)) then (c3 b0 b1 b2, (3 : Int)) else (if (240 ≤ b0 ∧ b0 ≤ 244) ∧ m1 = true ∧ m2 = true ∧ m3 = true ∧ (65536 ≤ c4 b0 b1 b2 b3 ∧ c4 b0 b1 b2 b3 ≤ 1114111) then (c4 b0 b1 b2 b3, 4) else ((-1 : Int), (1 : Int)))) = E
  intro J
  have Jf := J false (fun h => by cases h)
  rw [if_neg (by simp)] at Jf
  have J1 := J m1 (fun h => h)
  have g0 : (0 : Int) < n := by omega
  simp only [rootcellarref1_Rune.f, S, if_pos g0, B0, wb b0 h0, M1, Option.bind_some]
  by_cases w : b0 < 128
  · rw [if_pos (show (b0 : Int) < 128 by omega), if_pos w]
  · rw [if_neg (show ¬ (b0 : Int) < 128 by omega), if_neg w]
    by_cases x : 194 ≤ b0
    · rw [if_pos (show (b0 : Int) ≥ 194 by omega)]
      by_cases y : b0 ≤ 223
      · rw [if_pos (show (b0 : Int) ≤ 223 by omega), J1]
        congr 1
        by_cases z : m1 = true
        · rw [if_pos z, if_pos ⟨⟨x, y⟩, z⟩]
        · rw [if_neg z, if_neg (fun h => z h.2)]
      · rw [if_neg (show ¬ (b0 : Int) ≤ 223 by omega), Jf, if_neg (fun h => y h.1.2)]
    · rw [if_neg (show ¬ (b0 : Int) ≥ 194 by omega), Jf, if_neg (fun h => x h.1.1)]
end
/-- The rune in front, as the reference tells it. -/
def rr (l : List UInt8) : Int × Int := if (decodeL l).1 = 65533 ∧ (decodeL l).2 = 1 then (-1, 1) else (((decodeL l).1 : Int), ((decodeL l).2 : Int))
theorem rune_eq (l : List UInt8) (hl : l ≠ []) (k : Nat) : rootcellarref1_Rune.f (k + 4) (ba l) = some (rr l) := by
  have hn : 1 ≤ l.length := List.length_pos_iff.2 hl
  have e := refN_eq l.length _ _ _ _ (l.getD 0 0).toNat_lt (l.getD 1 0).toNat_lt (l.getD 2 0).toNat_lt (l.getD 3 0).toNat_lt
  rw [← decodeL_N] at e
  unfold rr
  rw [← e, rune_N (ba l) l.length _ _ _ _ (l.getD 0 0).toNat_lt (l.getD 1 0).toNat_lt (l.getD 2 0).toNat_lt (l.getD 3 0).toNat_lt (by rw [ba_size]) (bt_all l 0) (bt_all l 1) (bt_all l 2) (bt_all l 3) _ _ _ (more_eq l 1) (more_eq l 2) (more_eq l 3)
    (fun h => (of_decide_eq_true h).1) (fun h => (of_decide_eq_true h).1) (fun h => (of_decide_eq_true h).1) hn k]
  unfold refN c3 c4
  simp only [decide_eq_true_eq, and_assoc]
theorem ev_rune (l : List UInt8) (hl : l ≠ []) : Ev (fun k => rootcellarref1_Rune.f k (ba l)) (rr l) :=
  ⟨4, fun k hk => by obtain ⟨k, rfl⟩ : ∃ m, k = m + 4 := ⟨k - 4, by omega⟩; exact rune_eq l hl k⟩
theorem rr_width (l : List UInt8) (_hl : l ≠ []) : (rr l).2 = (((decodeL l).2 : Nat) : Int) := by
  unfold rr
  by_cases h : (decodeL l).1 = 65533 ∧ (decodeL l).2 = 1
  · rw [if_pos h, h.2]; rfl
  · rw [if_neg h]
theorem rr_bad (l : List UInt8) : ((rr l).1 < 0) = ((decodeL l).1 = 65533 ∧ (decodeL l).2 = 1) := by
  unfold rr
  by_cases h : (decodeL l).1 = 65533 ∧ (decodeL l).2 = 1
  · rw [if_pos h]; simp [h]
  · rw [if_neg h]; simp [h]
theorem ref_valid_l (l : List UInt8) : Ev (fun k => rootcellarref1_Valid.l0 k (ba l)) (validD l) := by
  induction hn : l.length using Nat.strongRecOn generalizing l with
  | _ n ih =>
    by_cases e : l = []
    · subst e
      refine Ev.step (f := fun _ => some true) (fun k => ?_) (Ev.now _)
      simp only [rootcellarref1_Valid.l0]
      rw [ba_toList, if_pos rfl]
    · have hw := decodeL_le l e
      have hs := drop_short l e
      refine Ev.step (f := fun k => (rootcellarref1_Rune.f k (ba l)).bind fun bt => (if bt.1 < 0 then (some false) else (if 0 ≤ bt.2 then (if bt.2 ≤ ((ba l).size : Int) then (rootcellarref1_Valid.l0 k ((ba l).extract (bt.2 : Int).toNat (ba l).size)) else (none)) else (none)))) (fun k => ?_) (Ev.bind (ev_rune l e) ?_)
      · simp only [rootcellarref1_Valid.l0]
        rw [ba_toList, if_neg e]
      · rw [validD_step l e]
        by_cases hb : (decodeL l).1 = 65533 ∧ (decodeL l).2 = 1
        · refine Ev.congr (f := fun _ => some false) (fun k => ?_) (by rw [if_pos hb]; exact Ev.now _)
          rw [if_pos (by rw [rr_bad]; exact hb)]
        · rw [if_neg hb]
          refine Ev.congr (fun k => ?_) (ih _ (by omega) (l.drop (decodeL l).2) rfl)
          rw [if_neg (by rw [rr_bad]; exact hb), rr_width l e, if_pos (by omega), if_pos (by rw [ba_size]; omega), Int.toNat_natCast, ba_drop]
theorem ref_count_l (l : List UInt8) : ∀ c : Nat, c + l.length ≤ 1000000000 → Ev (fun k => rootcellarref1_Count.l0 k (ba l) (c : Int)) (((c + (runes l).length : Nat)) : Int) := by
  induction hn : l.length using Nat.strongRecOn generalizing l with
  | _ n ih =>
    intro c hc
    by_cases e : l = []
    · subst e
      refine Ev.step (f := fun _ => some _) (fun k => ?_) (Ev.now _)
      simp only [rootcellarref1_Count.l0]
      rw [ba_toList, if_pos rfl, runes_nil]; rfl
    · have hw := decodeL_le l e
      have hs := drop_short l e
      refine Ev.step (f := fun k => (rootcellarref1_Rune.f k (ba l)).bind fun bt => (if 0 ≤ bt.2 then (if bt.2 ≤ ((ba l).size : Int) then (rootcellarref1_Count.l0 k ((ba l).extract (bt.2 : Int).toNat (ba l).size) (wrap64 ((c : Int) + 1))) else (none)) else (none))) (fun k => ?_) (Ev.bind (ev_rune l e) ?_)
      · simp only [rootcellarref1_Count.l0]
        rw [ba_toList, if_neg e]
      · have h := ih _ (by omega) (l.drop (decodeL l).2) rfl (c + 1) (by omega)
        rw [show c + (runes l).length = c + 1 + (runes (l.drop (decodeL l).2)).length by rw [runes_cons l e, List.length_cons]; omega]
        refine Ev.congr (fun k => ?_) h
        rw [rr_width l e, if_pos (by omega), if_pos (by rw [ba_size]; omega), Int.toNat_natCast, ba_drop, w64 _ (by omega) (by omega)]
        rfl
theorem ref_valid (l : List UInt8) : Ev (fun k => rootcellarref1_Valid.f k (ba l)) (validD l) := ref_valid_l l
theorem ref_count (l : List UInt8) (h : l.length ≤ 1000000000) : Ev (fun k => rootcellarref1_Count.f k (ba l)) (((runes l).length : Nat) : Int) := by
  have := ref_count_l l 0 (by omega)
  rw [Nat.zero_add] at this
  exact this
/-- Is a byte one that a name may have? -/
def fineB (b : UInt8) : Bool := decide (32 ≤ b.toNat) && !(b.toNat == 127)
theorem ref_right_l (l : List UInt8) (h : l.length ≤ 1000000000) : ∀ (d i : Nat), i + d = l.length → Ev (fun k => rootcellarref1_Right.l0 k (ba l) (i : Int)) ((l.drop i).all fineB) := by
  intro d
  induction d with
  | zero =>
    intro i hi
    refine Ev.step (f := fun _ => some _) (fun k => ?_) (Ev.now _)
    simp only [rootcellarref1_Right.l0]
    rw [ba_size, if_neg (by omega), List.drop_eq_nil_of_le (by omega)]; rfl
  | succ d ih =>
    intro i hi
    have hlt : i < l.length := by omega
    have hd := List.drop_eq_getElem_cons hlt
    have hb := bt_ba l i hlt
    by_cases h1 : (l[i]'hlt).toNat < 32
    · refine Ev.step (f := fun _ => some _) (fun k => ?_) (Ev.now _)
      simp only [rootcellarref1_Right.l0]
      rw [ba_size, if_pos (by omega), if_pos (by omega), hb, if_pos (by omega), hd, List.all_cons, show fineB (l[i]'hlt) = false by unfold fineB; rw [decide_eq_false (by omega)]; rfl]; rfl
    · by_cases h2 : (l[i]'hlt).toNat = 127
      · refine Ev.step (f := fun _ => some _) (fun k => ?_) (Ev.now _)
        simp only [rootcellarref1_Right.l0]
        rw [ba_size, if_pos (by omega), if_pos (by omega), hb, if_neg (by omega), if_pos (by omega), hd, List.all_cons, show fineB (l[i]'hlt) = false by unfold fineB; rw [h2]; rfl]; rfl
      · have e : (l.drop i).all fineB = (l.drop (i + 1)).all fineB := by
          rw [hd, List.all_cons, show fineB (l[i]'hlt) = true by unfold fineB; rw [decide_eq_true (by omega)]; simpa using h2]; rfl
        rw [e]
        refine Ev.step (fun k => ?_) (ih (i + 1) (by omega))
        simp only [rootcellarref1_Right.l0]
        rw [ba_size, if_pos (by omega), if_pos (by omega), hb, if_neg (by omega), if_neg (by omega), w64 _ (by omega) (by omega)]
        rfl
theorem shape (l : List UInt8) (hl : l ≠ []) (hv : ¬ ((decodeL l).1 = 65533 ∧ (decodeL l).2 = 1)) :
    (∃ (b : UInt8) (r : List UInt8), l = b :: r ∧ b.toNat < 128 ∧ decodeL l = (b.toNat, 1)) ∨ ((∀ b ∈ l.take (decodeL l).2, 128 ≤ b.toNat) ∧ 128 ≤ (decodeL l).1) := by
  have h0 := (l.getD 0 0).toNat_lt
  have h1 := (l.getD 1 0).toNat_lt
  have h2 := (l.getD 2 0).toNat_lt
  have h3 := (l.getD 3 0).toNat_lt
  have hlen : 0 < l.length := List.length_pos_iff.2 hl
  rw [decodeL_N] at hv ⊢
  have at_ : ∀ i, i < l.length → l[i]? = some (l.getD i 0) := fun i hi => by
    rw [List.getD_eq_getElem?_getD, List.getElem?_eq_getElem hi]; rfl
  have tk : ∀ w, w ≤ 4 → (∀ i, i < w → 128 ≤ (l.getD i 0).toNat) → ∀ b ∈ l.take w, 128 ≤ b.toNat := by
    intro w _ hw b hb
    obtain ⟨i, hi, e⟩ := List.mem_take_iff_getElem.1 hb
    have hi1 : i < w := by omega
    have := hw i hi1
    rw [List.getD_eq_getElem?_getD, List.getElem?_eq_getElem (by omega)] at this
    rw [← e]
    exact this
  rcases decodeN_shape l.length (l.getD 0 0).toNat (l.getD 1 0).toNat (l.getD 2 0).toNat (l.getD 3 0).toNat with ⟨c, e⟩ | ⟨c1, c2, c3, cv, e⟩ | ⟨c1, c2, c3, c4, cv, cs, e⟩ | ⟨c1, c2, c3, c4, c5, cv, cw, e⟩ | e
  · left
    cases l with
    | nil => exact absurd rfl hl
    | cons b r => exact ⟨b, r, rfl, c, e⟩
  · right
    rw [e]
    refine ⟨tk 2 (by omega) (fun i hi => ?_), cv⟩
    have : i = 0 ∨ i = 1 := by omega
    rcases this with rfl | rfl <;> omega
  · right
    rw [e]
    refine ⟨tk 3 (by omega) (fun i hi => ?_), by simp only; omega⟩
    have : i = 0 ∨ i = 1 ∨ i = 2 := by omega
    rcases this with rfl | rfl | rfl <;> omega
  · right
    rw [e]
    refine ⟨tk 4 (by omega) (fun i hi => ?_), by simp only; omega⟩
    have : i = 0 ∨ i = 1 ∨ i = 2 ∨ i = 3 := by omega
    rcases this with rfl | rfl | rfl | rfl <;> omega
  · exact absurd (by rw [e]; exact ⟨rfl, rfl⟩) hv
theorem bytes_fine (l : List UInt8) (hv : validD l = true) : (runes l).all fine = l.all fineB := by
  induction hn : l.length using Nat.strongRecOn generalizing l with
  | _ n ih =>
    by_cases e : l = []
    · subst e; rfl
    · have hs := drop_short l e
      rw [validD_step l e] at hv
      by_cases hb : (decodeL l).1 = 65533 ∧ (decodeL l).2 = 1
      · rw [if_pos hb] at hv; exact absurd hv (by decide)
      · rw [if_neg hb] at hv
        have h := ih _ (by omega) (l.drop (decodeL l).2) hv rfl
        rw [runes_cons l e, List.all_cons, h]
        conv => rhs; rw [← List.take_append_drop (decodeL l).2 l, List.all_append]
        congr 1
        rcases shape l e hb with ⟨b, r, rfl, hb1, hd⟩ | ⟨h1, h2⟩
        · rw [hd]
          simp only [List.take_succ_cons, List.take_zero, List.all_cons, List.all_nil, Bool.and_true]
          rfl
        · have : fine (decodeL l) = true := by unfold fine; rw [decide_eq_true (by omega)]; simp; omega
          rw [this]
          symm
          rw [List.all_eq_true]
          intro b hb
          have := h1 b hb
          unfold fineB; rw [decide_eq_true (by omega)]; simp; omega
theorem rightB_bytes (l : List UInt8) : rightB l = (validD l && (!l.isEmpty && (decide ((runes l).length ≤ 24) && (!(l.headD 0).toNat == 32 && (!(l.getLastD 0).toNat == 32 && l.all fineB))))) := by
  unfold rightB
  cases hv : validD l
  · simp
  · rw [bytes_fine l hv]
    cases l.all fineB <;> simp
theorem ref_right_j (l : List UInt8) (h : l.length ≤ 1000000000) (q : Bool) : Ev (fun k => rootcellarref1_Right.j0 k (ba l) q) (!q && l.all fineB) := by
  cases q
  · refine Ev.step (fun k => ?_) (ref_right_l l h l.length 0 (by omega))
    simp only [rootcellarref1_Right.j0]
    rw [if_neg (by decide)]
    rfl
  · refine Ev.step (f := fun _ => some false) (fun k => ?_) (Ev.now _)
    simp only [rootcellarref1_Right.j0]
    exact if_pos trivial
theorem ref_right (l : List UInt8) (h : l.length ≤ 1000000000) : Ev (fun k => rootcellarref1_Right.f k (ba l)) (rightB l) := by
  rw [rightB_bytes]
  refine Ev.bind (ref_valid l) ?_
  cases hv : validD l
  · refine Ev.congr (fun k => ?_) (ref_right_j l h true)
    rw [if_neg (by decide)]
  · by_cases e : l = []
    · subst e
      refine Ev.congr (fun k => ?_) (ref_right_j [] h true)
      rw [if_pos rfl, ba_toList, if_pos rfl]
    · have hlen : 0 < l.length := List.length_pos_iff.2 e
      have hie : l.isEmpty = false := by simpa using e
      rw [hie, Bool.not_false, Bool.true_and, Bool.true_and]
      refine Ev.congr (fun k => by rw [if_pos rfl, ba_toList, if_neg e]) (Ev.bind (ref_count l h) ?_)
      by_cases hc : (runes l).length ≤ 24
      · rw [decide_eq_true hc, Bool.true_and]
        have hw : wrap64 ((l.length : Int) - 1) = ((l.length - 1 : Nat) : Int) := by rw [w64 _ (by omega) (by omega)]; omega
        have hf : l.headD 0 = l.getD 0 0 := by cases l <;> rfl
        have hl : l.getLastD 0 = l.getD (l.length - 1) 0 := by
          rw [List.getLastD_eq_getLast?, List.getLast?_eq_getElem?, List.getD_eq_getElem?_getD]
        rw [hf, hl]
        have b0 := bt_all l 0
        have b1 := bt_all l (l.length - 1)
        by_cases hs : (l.getD 0 0).toNat = 32
        · rw [show ((l.getD 0 0).toNat == 32) = true by simpa using hs]
          refine Ev.congr (fun k => ?_) (ref_right_j l h true)
          rw [if_neg (by omega), ba_size, if_pos (by omega), if_pos (by rw [show (0 : Int) = ((0 : Nat) : Int) from rfl, b0]; omega)]
        · rw [show ((l.getD 0 0).toNat == 32) = false by simpa using hs, Bool.not_false, Bool.true_and]
          refine Ev.congr (fun k => ?_) (ref_right_j l h ((l.getD (l.length - 1) 0).toNat == 32))
          rw [if_neg (by omega), ba_size, if_pos (by omega), if_neg (by rw [show (0 : Int) = ((0 : Nat) : Int) from rfl, b0]; omega), hw, if_pos (by omega), if_pos (by omega), b1]
          congr 1
          by_cases z : (l.getD (l.length - 1) 0).toNat = 32
          · rw [z]; rfl
          · rw [show ((l.getD (l.length - 1) 0).toNat == 32) = false by simpa using z]
            simpa using (by omega : ¬ ((l.getD (l.length - 1) 0).toNat : Int) = 32)
      · rw [decide_eq_false hc]
        refine Ev.congr (fun k => ?_) (ref_right_j l h true)
        rw [if_pos (by omega)]
theorem right_eq (l : List UInt8) (h : l.length ≤ 1000000000) : label_Right.f (ba l) = some (rightB l) := by
  unfold label_Right.f
  rw [ba_size, if_pos (by omega), ba_list]
end Go.Proofs.YtfoniidbkbmjeaaDoor.Pu
end
section
/- Seals in plain words. -/


namespace Go.Proofs.YtfoniidbkbmjeaaDoor.Pu
open Go Go.Lib Go.RowKit Go.Proofs.YtfoniidbkbmjeaaDoor.Pl Go.Proofs.YtfoniidbkbmjeaaDoor.Lf Go.Proofs.YtfoniidbkbmjeaaDoor.Fn Go.Proofs.YtfoniidbkbmjeaaDoorW.PrintWords
theorem getN_eq (l : List UInt8) : getN l = getB l := by
  induction l with
  | nil => rfl
  | cons c l ih => simp [getN, getB, ih]
theorem get_eq (l : List UInt8) : le_Get.f (ba l) = some ((getB (l.take 8) : Nat) : Int) := by
  unfold le_Get.f
  rw [ba_list, getN_eq]
/-- What a seal holds, or what is wrong with it. -/
def unsealed (l : List UInt8) : List UInt8 × Int :=
  if l.length < 4 then ([], 10) else if getB (l.drop (l.length - 4)) = (crc (l.take (l.length - 4))).toNat then (l.take (l.length - 4), 0) else ([], 9)
theorem seal_take_eq (l : List UInt8) (h : l.length ≤ 1000000000) : seal_Take.f (ba l) = some (ba (unsealed l).1, (unsealed l).2) := by
  unfold seal_Take.f unsealed
  rw [ba_size, w64 _ (by omega) (by omega)]
  by_cases h4 : l.length < 4
  · rw [if_pos (by omega), if_pos h4]; rfl
  · have e : ((l.length : Int) - 4).toNat = l.length - 4 := by omega
    rw [if_neg (by omega), if_neg h4, if_pos (by omega), if_pos (by omega), e, ← ba_size, ba_drop, ba_size, get_eq, Option.bind_some, ba_take, sum_eq _ (by rw [List.length_take]; omega), Option.bind_some,
      u64_nat _ (by have := (crc (l.take (l.length - 4))).isLt; omega), List.take_of_length_le (by rw [List.length_drop]; omega)]
    by_cases hc : getB (l.drop (l.length - 4)) = (crc (l.take (l.length - 4))).toNat
    · rw [if_pos (by rw [hc]), if_pos hc]
    · rw [if_neg (by omega), if_neg hc]; rfl
theorem unsealed_sealed (l : List UInt8) : unsealed (sealed l) = (l, 0) := by
  unfold unsealed
  have h4 : (sealed l).length - 4 = l.length := by rw [sealed_length]; omega
  rw [if_neg (by rw [sealed_length]; omega), h4]
  unfold sealed
  rw [List.drop_left, List.take_left, getB_putN, if_pos]
  have := (crc l).isLt
  omega
theorem sealed_unsealed (l : List UInt8) (h : (unsealed l).2 = 0) : sealed (unsealed l).1 = l ∧ (unsealed l).1.length + 4 = l.length := by
  unfold unsealed at h ⊢
  split at h
  · cases h
  · rename_i h4
    rw [if_neg h4]
    split at h
    · rename_i hc
      rw [if_pos hc]
      refine ⟨?_, by show (l.take _).length + 4 = _; rw [List.length_take]; omega⟩
      show sealed (l.take (l.length - 4)) = l
      unfold sealed
      rw [← hc]
      have h1 := putN_getB (l.drop (l.length - 4))
      rw [List.length_drop, show l.length - (l.length - 4) = 4 by omega] at h1
      rw [h1, List.take_append_drop]
    · cases h
end Go.Proofs.YtfoniidbkbmjeaaDoor.Pu
end
section
/- Readers in plain words. -/


namespace Go.Proofs.YtfoniidbkbmjeaaDoor.Pu
open Go Go.Lib Go.RowKit Go.Proofs.YtfoniidbkbmjeaaDoor.Pl Go.Proofs.YtfoniidbkbmjeaaDoor.Lf Go.Proofs.YtfoniidbkbmjeaaDoor.Fn Go.Proofs.YtfoniidbkbmjeaaDoorW.PrintWords
theorem txt_ok (l : List UInt8) (n : Nat) (h : n ≤ l.length) : le_Reader_Text.f (ba l) false (n : Int) = some (ba (l.take n), ba (l.drop n), false) := by
  unfold le_Reader_Text.f
  rw [if_neg (by decide), if_neg (by omega), ba_size, if_neg (by omega), if_pos (by omega), if_pos (by omega), Int.toNat_natCast, ba_take, ← ba_size, ba_drop, decide_eq_false (by rw [ba_size]; omega)]
theorem txt_short (l : List UInt8) (n : Nat) (h : l.length < n) : le_Reader_Text.f (ba l) false (n : Int) = some (ba [], ba l, true) := by
  unfold le_Reader_Text.f
  rw [if_neg (by decide), if_neg (by omega), ba_size, if_pos (by omega), decide_eq_true (by omega)]
  rfl
theorem txt_true (l : List UInt8) (n : Int) : le_Reader_Text.f (ba l) true n = some (ba [], ba l, true) := by
  unfold le_Reader_Text.f
  rw [if_pos rfl]
  rfl
theorem num_ok (l : List UInt8) (m : Nat) (hm : m ≤ 8) (h : m ≤ l.length) : le_Reader_Number.f (ba l) false (m : Int) = some (((getB (l.take m) : Nat) : Int), ba (l.drop m), false) := by
  unfold le_Reader_Number.f
  rw [if_neg (by omega), txt_ok l m h, Option.bind_some, get_eq, Option.bind_some, List.take_take, Nat.min_eq_right hm]
theorem num_short (l : List UInt8) (m : Nat) (hm : m ≤ 8) (h : l.length < m) : le_Reader_Number.f (ba l) false (m : Int) = some (0, ba l, true) := by
  unfold le_Reader_Number.f
  rw [if_neg (by omega), txt_short l m h, Option.bind_some, get_eq, Option.bind_some]
  rfl
theorem num_true (l : List UInt8) (m : Nat) (hm : m ≤ 8) : le_Reader_Number.f (ba l) true (m : Int) = some (0, ba l, true) := by
  unfold le_Reader_Number.f
  rw [if_neg (by omega), txt_true l, Option.bind_some, get_eq, Option.bind_some]
  rfl
end Go.Proofs.YtfoniidbkbmjeaaDoor.Pu
end
section
/- Readers in plain words: whatever they are handed; the reference's readers. -/



namespace Go.Proofs.YtfoniidbkbmjeaaDoor.Pu
open Go Go.Lib Go.RowKit Go.Proofs.YtfoniidbkbmjeaaDoor.Pl Go.Proofs.YtfoniidbkbmjeaaDoor.Lf Go.Proofs.YtfoniidbkbmjeaaDoor.Fn Go.Proofs.YtfoniidbkbmjeaaDoorW.PrintWords
/-- What a reader's Text tells: its text, what is left, was it too much. -/
def txtP (l : List UInt8) (bad : Bool) (n : Int) : List UInt8 × List UInt8 × Bool :=
  if bad = true ∨ n < 0 ∨ (l.length : Int) < n then ([], l, true) else (l.take n.toNat, l.drop n.toNat, false)
theorem txt_all (l : List UInt8) (bad : Bool) (n : Int) : le_Reader_Text.f (ba l) bad n = some (ba (txtP l bad n).1, ba (txtP l bad n).2.1, (txtP l bad n).2.2) := by
  unfold txtP
  cases bad with
  | true => rw [if_pos (.inl rfl)]; exact txt_true l n
  | false =>
    by_cases h0 : n < 0
    · rw [if_pos (.inr (.inl h0))]
      unfold le_Reader_Text.f
      rw [if_neg (by decide), if_pos h0]
      rfl
    · obtain ⟨m, rfl⟩ : ∃ m : Nat, n = (m : Int) := ⟨n.toNat, by omega⟩
      by_cases h1 : l.length < m
      · rw [if_pos (.inr (.inr (by omega)))]; exact txt_short l m h1
      · rw [if_neg (by rintro (h | h | h) <;> first | cases h | omega), txt_ok l m (by omega), Int.toNat_natCast]
def numP (l : List UInt8) (bad : Bool) (m : Nat) : Nat × List UInt8 × Bool := (getB (txtP l bad (m : Int)).1, (txtP l bad (m : Int)).2.1, (txtP l bad (m : Int)).2.2)
theorem txtP_len (l : List UInt8) (bad : Bool) (m : Nat) : (txtP l bad (m : Int)).1.length ≤ m ∧ (txtP l bad (m : Int)).1.length ≤ l.length := by
  unfold txtP
  split
  · simp
  · simp only [Int.toNat_natCast, List.length_take]; omega
theorem txtP_left (l : List UInt8) (bad : Bool) (n : Int) : (txtP l bad n).2.1.length ≤ l.length := by
  unfold txtP
  split
  · exact Nat.le_refl _
  · simp only [List.length_drop]; omega
theorem num_all (l : List UInt8) (bad : Bool) (m : Nat) (hm : m ≤ 8) : le_Reader_Number.f (ba l) bad (m : Int) = some ((((numP l bad m).1 : Nat) : Int), ba (numP l bad m).2.1, (numP l bad m).2.2) := by
  unfold le_Reader_Number.f numP
  have := (txtP_len l bad m).1
  rw [if_neg (by omega), txt_all l bad m, Option.bind_some, get_eq, Option.bind_some, List.take_of_length_le (by omega)]
theorem numP_lt (l : List UInt8) (bad : Bool) (m : Nat) : (numP l bad m).1 < 256 ^ m := by
  have h := getB_lt (txtP l bad m).1
  have h2 := (txtP_len l bad m).1
  exact Nat.lt_of_lt_of_le h (Nat.pow_le_pow_right (by omega) h2)
theorem numP_put (n m : Nat) (r : List UInt8) (h : n < 256 ^ m) : numP (putN n m ++ r) false m = (n, r, false) := by
  unfold numP txtP
  have e : (putN n m).length = m := putN_length n m
  rw [if_neg (by rintro (h | h | h) <;> first | cases h | (simp only [List.length_append, putN_length] at h; omega) | omega), Int.toNat_natCast]
  simp only
  rw [List.take_left' e, List.drop_left' e, getB_putN, Nat.mod_eq_of_lt h]
theorem txtP_app (a r : List UInt8) : txtP (a ++ r) false (a.length : Int) = (a, r, false) := by
  unfold txtP
  rw [if_neg (by rintro (h | h | h) <;> first | cases h | (simp only [List.length_append] at h; omega) | omega), Int.toNat_natCast, List.take_left, List.drop_left]
/-! ### the reference's readers -/
theorem rtxt_all (l : List UInt8) (bad : Bool) (n : Int) : rootcellarref2_Reader_Text.f (ba l) bad n = some (ba (txtP l bad n).1, ba (txtP l bad n).2.1, (txtP l bad n).2.2) := by
  unfold rootcellarref2_Reader_Text.f txtP
  rw [ba_size]
  cases bad with
  | true => rw [if_pos rfl, if_pos (.inl rfl)]; rfl
  | false =>
    rw [if_neg (by decide)]
    by_cases h0 : n < 0
    · rw [if_pos h0, if_pos (.inr (.inl h0))]; rfl
    · rw [if_neg h0]
      by_cases h1 : (l.length : Int) < n
      · rw [if_pos (by omega), if_pos (.inr (.inr h1))]; rfl
      · rw [if_neg (by omega), if_pos (by omega), if_pos (by omega), if_neg (by rintro (h | h | h) <;> first | cases h | omega), ba_take, ← ba_size, ba_drop]
theorem wpre (d : Nat) (h : d ≤ 8) : wrap64 ((d : Int) - 1) = (d : Int) - 1 := w64 _ (by omega) (by omega)
theorem rget_l (l : List UInt8) (_hl : l.length ≤ 1000000000) : ∀ (d : Nat) (acc : Nat), d ≤ l.length → d ≤ 8 → acc * 256 ^ d + 256 ^ d ≤ 18446744073709551616 →
    Ev (fun k => rootcellarref2_Get.l0 k (ba l) (acc : Int) ((d : Int) - 1)) ((acc * 256 ^ d + getB (l.take d) : Nat) : Int) := by
  intro d
  induction d with
  | zero =>
    intro acc _ _ _
    refine Ev.step (f := fun _ => some ((acc * 256 ^ 0 + getB (l.take 0) : Nat) : Int)) (fun k => ?_) (Ev.now _)
    simp only [rootcellarref2_Get.l0]
    rw [if_neg (by omega)]
    simp [getB]
  | succ d ih =>
    intro acc hd h8 hb
    have hlt : d < l.length := by omega
    have hc := (l[d]'hlt).toNat_lt
    have hp : 256 ^ (d + 1) = 256 ^ d * 256 := Nat.pow_succ 256 d
    have hpos : 0 < 256 ^ d := Nat.pow_pos (by omega)
    have h1 : (acc * 256 + (l[d]'hlt).toNat) * 256 ^ d + 256 ^ d ≤ 18446744073709551616 := by
      have : (acc * 256 + (l[d]'hlt).toNat) * 256 ^ d + 256 ^ d = acc * (256 ^ d * 256) + ((l[d]'hlt).toNat + 1) * 256 ^ d := by
        rw [Nat.add_mul, Nat.add_mul (l[d]'hlt).toNat 1, Nat.one_mul, Nat.mul_assoc, Nat.mul_comm 256 (256 ^ d)]; omega
      rw [this, ← hp]
      have h2 : ((l[d]'hlt).toNat + 1) * 256 ^ d ≤ 256 * 256 ^ d := Nat.mul_le_mul_right _ (by omega)
      rw [Nat.mul_comm 256, ← hp] at h2
      omega
    have hsm : acc * 256 + (l[d]'hlt).toNat < 18446744073709551616 := by
      have := Nat.le_mul_of_pos_right (acc * 256 + (l[d]'hlt).toNat) hpos
      omega
    have h := ih (acc * 256 + (l[d]'hlt).toNat) (by omega) (by omega) h1
    have e : (acc * 256 + (l[d]'hlt).toNat) * 256 ^ d + getB (l.take d) = acc * 256 ^ (d + 1) + getB (l.take (d + 1)) := by
      rw [List.take_succ_eq_append_getElem hlt, getB_snoc, List.length_take, Nat.min_eq_left (by omega), hp, Nat.add_mul, Nat.mul_assoc, Nat.mul_comm 256 (256 ^ d)]
      omega
    rw [e] at h
    refine Ev.step (fun k => ?_) h
    simp only [rootcellarref2_Get.l0]
    have e1 : ((d + 1 : Nat) : Int) - 1 = (d : Int) := by omega
    have e2 : IntKind.u64.wrap ((acc : Int) * 256) = ((acc * 256 : Nat) : Int) := (congrArg IntKind.u64.wrap (show (acc : Int) * 256 = ((acc * 256 : Nat) : Int) by omega)).trans (u64_nat _ (Nat.lt_of_le_of_lt (Nat.le_add_right _ _) hsm))
    have e3 : IntKind.u64.wrap (((l[d]'hlt).toNat : Nat) : Int) = (((l[d]'hlt).toNat : Nat) : Int) := u64_nat _ (Nat.lt_of_lt_of_le hc (by decide))
    have e4 : IntKind.u64.wrap (((acc * 256 : Nat) : Int) + (((l[d]'hlt).toNat : Nat) : Int)) = ((acc * 256 + (l[d]'hlt).toNat : Nat) : Int) := by
      rw [show ((acc * 256 : Nat) : Int) + (((l[d]'hlt).toNat : Nat) : Int) = ((acc * 256 + (l[d]'hlt).toNat : Nat) : Int) by omega]; exact u64_nat _ hsm
    rw [e1, if_pos (by omega), if_pos (by omega), ba_size, if_pos (by omega), bt_ba l d hlt, e2, e3, e4, wpre d (by omega)]
theorem rget (l : List UInt8) (hl : l.length ≤ 8) : Ev (fun k => rootcellarref2_Get.f k (ba l)) ((getB l : Nat) : Int) := by
  have h9 : 256 ^ l.length ≤ 256 ^ 8 := Nat.pow_le_pow_right (by omega) hl
  rw [show (256 : Nat) ^ 8 = 18446744073709551616 by simp] at h9
  have h := rget_l l (by omega) l.length 0 (Nat.le_refl _) hl (by rw [Nat.zero_mul, Nat.zero_add]; exact h9)
  rw [Nat.zero_mul, Nat.zero_add, List.take_of_length_le (Nat.le_refl _)] at h
  refine Ev.congr (fun k => ?_) h
  unfold rootcellarref2_Get.f
  rw [ba_size, show mn (l.length : Int) 8 = (l.length : Int) by unfold mn; rw [if_neg (by omega)]]
  rfl
theorem rnum_all (l : List UInt8) (bad : Bool) (m : Nat) (hm : m ≤ 8) : Ev (fun k => rootcellarref2_Reader_Number.f k (ba l) bad (m : Int)) ((((numP l bad m).1 : Nat) : Int), ba (numP l bad m).2.1, (numP l bad m).2.2) := by
  have h := rget (txtP l bad (m : Int)).1 (by have := (txtP_len l bad m).1; omega)
  refine Ev.congr (fun k => ?_) (Ev.bind (f := fun _ t => some (t, ba (txtP l bad (m : Int)).2.1, (txtP l bad (m : Int)).2.2)) h (Ev.now _))
  unfold rootcellarref2_Reader_Number.f
  rw [if_neg (by omega), rtxt_all, Option.bind_some]
theorem rtake_eq (l : List UInt8) (h : l.length ≤ 1000000000) : Ev (fun k => rootcellarref3_Take.f k (ba l)) (ba (unsealed l).1, (unsealed l).2) := by
  by_cases h4 : l.length < 4
  · refine Ev.congr (f := fun _ => some _) (fun k => ?_) (Ev.now _)
    unfold rootcellarref3_Take.f unsealed
    rw [ba_size, if_pos (by omega), if_pos h4]
    rfl
  · have hs := ref_seal_put (l.take (l.length - 4)) (by rw [List.length_take]; omega)
    have e : (wrap64 ((l.length : Int) - 4)).toNat = l.length - 4 := by rw [w64 _ (by omega) (by omega)]; omega
    have key : Ev (fun k => (rootcellarref3_Put.f k (ba (l.take (l.length - 4)))).bind fun t => if t.toList = (ba l).toList then some (ba (l.take (l.length - 4)), (0 : Int)) else some ((⟨#[]⟩ : ByteArray), (9 : Int))) (ba (unsealed l).1, (unsealed l).2) := by
      refine Ev.bind hs ?_
      refine Ev.congr (f := fun _ => some _) (fun k => ?_) (Ev.now _)
      unfold unsealed
      rw [if_neg h4, ba_toList, ba_toList]
      by_cases hc : getB (l.drop (l.length - 4)) = (crc (l.take (l.length - 4))).toNat
      · rw [if_pos hc, if_pos]
        unfold sealed
        rw [← hc]
        have h1 := putN_getB (l.drop (l.length - 4))
        rw [List.length_drop, show l.length - (l.length - 4) = 4 by omega] at h1
        rw [h1, List.take_append_drop]
      · rw [if_neg hc, if_neg]
        · rfl
        · intro he
          apply hc
          have h2 := congrArg (List.drop (l.length - 4)) he
          unfold sealed at h2
          rw [List.drop_left' (by rw [List.length_take]; omega)] at h2
          rw [← h2, getB_putN]
          have := (crc (l.take (l.length - 4))).isLt
          exact Nat.mod_eq_of_lt (by omega)
    refine Ev.congr (fun k => ?_) key
    unfold rootcellarref3_Take.f
    rw [ba_size, if_neg (by omega), if_pos (by rw [w64 _ (by omega) (by omega)]; omega), if_pos (by rw [w64 _ (by omega) (by omega)]; omega), e, ba_take]
end Go.Proofs.YtfoniidbkbmjeaaDoor.Pu
end
section
/- What rows of this list of laid variables share: what is laid, and the witness' world. -/




















namespace Go.Proofs.YtfoniidbkbmjeaaDoor.RowB0
open Go.Shelf Go.ChangeShapes Go.WideShapes Go.ChangeAt Go.RowKit Go.Lib Go.Deep
theorem own : ownKnob Tryd.prog.godebug = none := by kernel_rfl
theorem laidOut : laidOutB Tryd.prog = true := by kernel_rfl
def litOf : DataW Unit → Value
  | .lit (.int k z) => .int k z
  | _ => .bool false
/-- The cells that an array of numbers, or of pairs of numbers, takes. -/
def cellsOf : DataW Unit → List Value
  | .agg l => l.flatMap fun | .agg m => m.map litOf | x => [litOf x]
  | x => [litOf x]
theorem tabIs_of_reads {P : Program} {W : World} {name : String} {k : IntKind} {zs : List Int} {g : Nat} {t e : TypeId} {n : Nat}
    (hg : P.globalNamed name = some g) (hty : (P.globals[g]?).map (·.type) = some t) (ht : P.underlying t = some (.array n e)) (he : P.underlying e = some (.int k)) (hce : P.cellsOf e = 1) (hct : P.cellsOf t = n)
    (h : VarReads P W name (tabData k zs)) : TabIs P W name k zs := by
  obtain ⟨g', t', cs, fuel, p, hg', ht', hvar, hd⟩ := h
  obtain rfl := Option.some.inj (hg.symm.trans hg')
  obtain rfl := Option.some.inj (hty.symm.trans ht')
  unfold TabIs
  rw [hvar, ← cells_of_tab ht he hce hct hd]
theorem accept_eq : (Rows.laid_unicode_utf8_acceptRanges : DataW Unit) = acceptData := by kernel_rfl
theorem first_eq : Rows.laid_unicode_utf8_first = firstData := by unfold Rows.laid_unicode_utf8_first; exact Pinned.utf8First_eq
abbrev laids : List (String × DataW Unit) := [("unicode/utf8.acceptRanges", Rows.laid_unicode_utf8_acceptRanges), ("unicode/utf8.first", Rows.laid_unicode_utf8_first)]
theorem tabs {W : World} (h : laidMetH Tryd.prog laids W) : Lf.Tabs W := by
  have h' : laidMet Tryd.prog laids W := h
  have h1 := Lib.laidMet.reads h' (n := "unicode/utf8.acceptRanges") (.head _)
  have h2 := Lib.laidMet.reads h' (n := "unicode/utf8.first") (.tail _ (.head _))
  rw [accept_eq] at h1
  rw [first_eq] at h2
  exact ⟨utf8Tabs_of_readsT (U8Types.of196 Lf.laysValid) ⟨by kernel_rfl, by kernel_rfl, by kernel_rfl, by kernel_rfl, by kernel_rfl, by kernel_rfl, by kernel_rfl⟩ h2 h1⟩
/-- A world for the witness: the settled one, the laid variables holding what their initialisers lay. -/
noncomputable def laidWorld (os : Os) : World :=
  let w0 := World.holding Tryd.prog os ⟨#[], #[], []⟩
  let put (h : Array Obj) (g : Nat) (cs : Array Value) : Array Obj := h.modify g fun
    | .cells _ t frozen => .cells cs t frozen
    | o => o
  let h0 := put w0.heap 1 (cellsOf Rows.laid_unicode_utf8_acceptRanges).toArray
  let h1 := put h0 0 (Lib.firstTab.map fun z => Value.int .u8 z).toArray
  { w0 with heap := h1 }
theorem laid_met (os : Os) (args : Array Value) : laidMet Tryd.prog laids ((laidWorld os).forCall (fun _ _ => 0) ⟨#[], args, []⟩).memory := by
  unfold laids
  rw [first_eq]
  exact laidMet_of_run' 8 (by kernel_rfl) (by kernel_rfl)
end Go.Proofs.YtfoniidbkbmjeaaDoor.RowB0
end
section
/- Arguments of the rows, opened: a number, a truth value, a text. -/














namespace Go.Proofs.YtfoniidbkbmjeaaDoor.RowN
open Go.Shelf Go.ChangeShapes Go.WideShapes Go.ChangeAt Go.RowKit Go.Lib Go.Deep
open Go.ChangeMaps (open_string shut_string)
set_option maxRecDepth 100000
section
variable {H : Type} {enc : TypeId × Value → H} {W : World} {base b0 : Nat} {sp : Nat → Bool} {held : Bool}
theorem open_num {t : TypeId} {k : IntKind} (ht : Tryd.prog.underlying t = some (.int k)) {r : Reach} {v : Value} {d : DataW H} {p : List MemPlace} (hv : Value.okWide Tryd.prog W r b0 t v)
    (h : DataW.Trod enc Tryd.prog W base sp held t v d p) : ∃ a : Int, v = .int k a ∧ (Lit.int k a).wf = true := by
  obtain ⟨a, rfl, _, _, w⟩ := open_int ht hv h
  exact ⟨a, rfl, w⟩
theorem open_truth {t : TypeId} (ht : Tryd.prog.underlying t = some .bool) {r : Reach} {v : Value} {d : DataW H} {p : List MemPlace} (hv : Value.okWide Tryd.prog W r b0 t v)
    (h : DataW.Trod enc Tryd.prog W base sp held t v d p) : ∃ a : Bool, v = .bool a := by
  obtain ⟨a, rfl, _⟩ := open_bool ht hv h
  exact ⟨a, rfl⟩
theorem open_text {t : TypeId} (ht : Tryd.prog.underlying t = some .string) {r : Reach} {v : Value} {d : DataW H} {p : List MemPlace} (hv : Value.okWide Tryd.prog W r b0 t v)
    (h : DataW.Trod enc Tryd.prog W base sp held t v d p) : ∃ s : ByteArray, v = .string s ∧ s.size ≤ maxLen := by
  obtain ⟨s, rfl, _, _, w⟩ := open_string ht hv h
  exact ⟨s, rfl, w⟩
theorem int_b {a : Int} (w : (Lit.int .i64 a).wf = true) : -9223372036854775808 ≤ a ∧ a ≤ 9223372036854775807 := bounds_i64 w
theorem u64_b {a : Int} (w : (Lit.int .u64 a).wf = true) : 0 ≤ a ∧ a < 18446744073709551616 := by have := bounds_u64 w; omega
theorem u32_b {a : Int} (w : (Lit.int .u32 a).wf = true) : 0 ≤ a ∧ a < 4294967296 := by have := bounds_u32 w; omega
theorem u8_b {a : Int} (w : (Lit.int .u8 a).wf = true) : 0 ≤ a ∧ a < 256 := by have := bounds_u8 w; omega
end
end Go.Proofs.YtfoniidbkbmjeaaDoor.RowN
end
section
/- An argument that is a struct of one-cell fields, opened. -/














namespace Go.Proofs.YtfoniidbkbmjeaaDoor.RowSnapshot
open Go.Shelf Go.ChangeShapes Go.WideShapes Go.ChangeAt Go.RowKit Go.Lib Go.Deep
open Go.ChangeMaps (open_string shut_string)
set_option maxRecDepth 100000
section
variable {H : Type} {enc : TypeId × Value → H} {W : World} {base b0 : Nat} {sp : Nat → Bool} {held : Bool}
theorem cells_str : Tryd.prog.cellsOf 9 = 1 := by kernel_rfl
theorem cells_u64 : Tryd.prog.cellsOf 22 = 1 := by kernel_rfl
theorem cells_all : Tryd.prog.cellsOf 24 = 3 := by kernel_rfl
theorem opened {r : Reach} {v : Value} {d : DataW H} {p : List MemPlace} (hv : Value.okWide Tryd.prog W r b0 24 v)
    (h : DataW.Trod enc Tryd.prog W base sp held 24 v d p) : ∃ (a0 : ByteArray) (a1 : Int) (a2 : ByteArray), v = .agg #[.string a0, .int .u64 a1, .string a2] ∧ (0 ≤ a1 ∧ a1 < 18446744073709551616) := by
  obtain ⟨cs, rfl, hsz⟩ := okWide_struct Tryd.underlying24 hv
  obtain ⟨l⟩ := cs
  match l, hsz.trans cells_all with
  | [c0, c1, c2], _ =>
    obtain ⟨fuel, hf⟩ := h
    obtain ⟨xs, n, _, hx, _, hlen, hg⟩ := DataW.trod_struct Tryd.underlying24 hf
    match xs, hlen with
    | [y0, y1, y2], _ =>
      have g0 := hg 0 _ rfl
      change DataW.trod enc Tryd.prog W base sp held n 9 (([c0, c1, c2].drop 0).take (Tryd.prog.cellsOf 9)) = some y0 at g0
      rw [cells_str] at g0
      have g1 := hg 1 _ rfl
      change DataW.trod enc Tryd.prog W base sp held n 22 (([c0, c1, c2].drop 1).take (Tryd.prog.cellsOf 22)) = some y1 at g1
      rw [cells_u64] at g1
      have g2 := hg 2 _ rfl
      change DataW.trod enc Tryd.prog W base sp held n 9 (([c0, c1, c2].drop 2).take (Tryd.prog.cellsOf 9)) = some y2 at g2
      rw [cells_str] at g2
      obtain ⟨m0, e0, _, w0⟩ := DataW.trod_string Tryd.underlying9 g0
      obtain ⟨m1, e1, _, w1⟩ := DataW.trod_int Tryd.underlying22 g1
      obtain ⟨m2, e2, _, w2⟩ := DataW.trod_string Tryd.underlying9 g2
      cases e0; cases e1; cases e2
      have hb1 := bounds_u64 w1
      exact ⟨m0, m1, m2, rfl, (by omega)⟩
end
end Go.Proofs.YtfoniidbkbmjeaaDoor.RowSnapshot
end
