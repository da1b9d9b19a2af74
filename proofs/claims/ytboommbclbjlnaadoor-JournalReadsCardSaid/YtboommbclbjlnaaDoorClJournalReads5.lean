-- Packed by pack.py, a program of this session, out of texts of this claim.
import Derived.Test.YtboommbclbjlnaaDoorPlBytes
import Derived.Test.YtboommbclbjlnaaDoorPlCrc
import Derived.Test.YtboommbclbjlnaaDoorClJournalReads1
import Derived.Test.YtboommbclbjlnaaDoorPlRunes
import Derived.Test.YtboommbclbjlnaaDoorClJournalReads2
import Derived.Test.YtboommbclbjlnaaDoorClJournalReads3
import Derived.Test.YtboommbclbjlnaaDoorClJournalReads4
import Derived.Test.YtboommbclbjlnaaDoorRows
import Derived.Test.YtboommbclbjlnaaDoorLfRight
import Derived.Lib.LaidU8T
import Derived.Lib.LaidTab
import Derived.Lib.LaidU8
import Derived.PinnedBridge
import Derived.WalkKit
import Derived.ProofKit
import Derived.OpenShut
import Derived.ChangeOld
import Derived.Below
import Derived.SizedLaws
import Derived.Carry
import Derived.Deep.DeepHandedRow
import Derived.Deep.DeepWitnessRowRef
import Derived.Deep.Fields
import Derived.Deep.DeepLaidRun
import Derived.Lib.TrailingZeros
import Derived.Stop.LaidErr
import Derived.Shelf.Vars
import Derived.ChangeShapes
import Derived.Lib.SmallJoins
section
namespace Go.Proofs.YtboommbclbjlnaaDoor.Pu
open Go Go.RowKit Go.Proofs.YtboommbclbjlnaaDoor.Pl Go.Proofs.YtboommbclbjlnaaDoor.Lf Go.Proofs.YtboommbclbjlnaaDoor.Fn Go.Proofs.YtboommbclbjlnaaDoorW.PrintWords
theorem u64_nat (n : Nat) (h : n < 18446744073709551616) : IntKind.u64.wrap (n : Int) = (n : Int) := by
 simp [IntKind.wrap, IntKind.bits, IntKind.signed]; omega
theorem w64 (x : Int) (h0 : -9223372036854775808 ≤ x) (h1 : x < 9223372036854775808) : wrap64 x = x := by unfold wrap64; omega
theorem str_put (n m : Nat) : strOfNums (Go.Proofs.YtboommbclbjlnaaDoor.Lf.bytesOf (n : Int) m) = ba (putN n m) := by
 unfold strOfNums Go.Proofs.YtboommbclbjlnaaDoor.Lf.bytesOf putN ba
 rw [List.map_map]
 congr 2
theorem put_eq (n : Nat) (h : n < 18446744073709551616) (m : Int) : le_Put.f (n : Int) m = some (ba (putN n (many8 m))) := by
 unfold le_Put.f
 rw [if_pos ⟨by omega, by omega⟩, str_put]
theorem ref_put_l (m : Nat) (hm : m ≤ 8) : ∀ (d n : Nat) (acc : List Int) (i : Nat), n < 18446744073709551616 → acc.length = i → i + d = m →
  Ev (fun k => r2_Put.l0 k (n : Int) (m : Int) acc (i : Int)) (strOfNums (acc ++ (List.range d).map fun j => ((n / 256 ^ j % 256 : Nat) : Int))) := by
 intro d
 induction d with
 | zero =>
  intro n acc i hn ha hi
  refine Ev.step (f := fun _ => some (strOfNums (acc ++ []))) (fun k => ?_) (Ev.now _)
  simp only [r2_Put.l0]
  rw [if_neg (by omega), List.append_nil]
 | succ d ih =>
  intro n acc i hn ha hi
  have e1 : IntKind.u64.wrap (Int.tdiv (n : Int) 256) = ((n / 256 : Nat) : Int) := by
   rw [show Int.tdiv (n : Int) 256 = ((n / 256 : Nat) : Int) by rw [Int.tdiv_eq_ediv_of_nonneg (by omega)]; omega]
   exact u64_nat _ (by omega)
  have e2 : (Int.tmod (n : Int) 256) % 256 = ((n % 256 : Nat) : Int) := by
   rw [Int.tmod_eq_emod_of_nonneg (by omega)]; omega
  have e3 : wrap64 ((i : Int) + 1) = ((i + 1 : Nat) : Int) := by rw [w64 _ (by omega) (by omega)]; omega
  have h := ih (n / 256) (acc ++ [((n % 256 : Nat) : Int)]) (i + 1) (by omega) (by simp [ha]) (by omega)
  have es : acc ++ [((n % 256 : Nat) : Int)] ++ (List.range d).map (fun j => ((n / 256 / 256 ^ j % 256 : Nat) : Int)) = acc ++ (List.range (d + 1)).map (fun j => ((n / 256 ^ j % 256 : Nat) : Int)) := by
   rw [List.range_succ_eq_map, List.map_cons, List.map_map, List.append_assoc]
   congr 1
   simp only [List.singleton_append, Nat.pow_zero, Nat.div_one]
   congr 1
   apply List.map_congr_left
   intro j _
   simp only [Function.comp, Nat.succ_eq_add_one, Nat.pow_succ, Nat.div_div_eq_div_mul]
   rw [Nat.mul_comm 256 (256 ^ j)]
  rw [es] at h
  refine Ev.step (fun k => ?_) h
  simp only [r2_Put.l0]
  rw [if_pos (by omega), if_pos (by omega), if_pos (by omega), e1, e2, e3]
theorem ref_put (n m : Nat) (hn : n < 18446744073709551616) (hm : m ≤ 8) : Ev (fun k => r2_Put.f k (n : Int) (m : Int)) (ba (putN n m)) := by
 have h := ref_put_l m hm m n [] 0 hn rfl (by omega)
 have e : strOfNums ([] ++ (List.range m).map fun j => ((n / 256 ^ j % 256 : Nat) : Int)) = ba (putN n m) := by
  unfold strOfNums putN ba
  rw [List.nil_append, List.map_map]
  rfl
 rw [e] at h
 exact h
theorem ref_put1 (n : Nat) (hn : n < 18446744073709551616) : Ev (fun k => r2_Put.f k (n : Int) 1) (ba (putN n 1)) := ref_put n 1 hn (by omega)
theorem ref_put2 (n : Nat) (hn : n < 18446744073709551616) : Ev (fun k => r2_Put.f k (n : Int) 2) (ba (putN n 2)) := ref_put n 2 hn (by omega)
theorem ref_put4 (n : Nat) (hn : n < 18446744073709551616) : Ev (fun k => r2_Put.f k (n : Int) 4) (ba (putN n 4)) := ref_put n 4 hn (by omega)
theorem ref_put8 (n : Nat) (hn : n < 18446744073709551616) : Ev (fun k => r2_Put.f k (n : Int) 8) (ba (putN n 8)) := ref_put n 8 hn (by omega)
theorem bx (a b : BitVec 32) : bits .xor .u32 ((a.toNat : Nat) : Int) ((b.toNat : Nat) : Int) = (((a ^^^ b).toNat : Nat) : Int) := by
 rw [u32_xor_nat _ _ a.isLt b.isLt, BitVec.toNat_xor]
theorem nib_eq (r : BitVec 32) : nib ((r.toNat : Nat) : Int) = (((ticks 4 r).toNat : Nat) : Int) := by
 unfold nib
 have e1 : ((r.toNat : Nat) : Int) / (16 : Int) = (((r >>> 4).toNat : Nat) : Int) := by
  rw [BitVec.toNat_ushiftRight, Nat.shiftRight_eq_div_pow]; omega
 have e2 : bits .and .u32 ((r.toNat : Nat) : Int) 15 = (((r &&& 15#32).toNat : Nat) : Int) := by
  have := u32_and_nat r.toNat 15 r.isLt (by omega)
  rw [show ((15 : Nat) : Int) = 15 from rfl] at this
  rw [this, BitVec.toNat_and]; rfl
 have e3 : ((tabL.getD ((r &&& 15#32).toNat : Int).toNat 0 : Nat) : Int) = (((ticks 4 (r &&& 15#32)).toNat : Nat) : Int) := by
  have hlt : (r &&& 15#32).toNat < 16 := by
   rw [BitVec.toNat_and]; exact Nat.and_lt_two_pow (n := 4) _ (by decide)
  have key : ∀ i : Fin 16, tabL.getD i.val 0 = (ticks 4 (BitVec.ofNat 32 i.val)).toNat := by decide +kernel
  have := key ⟨(r &&& 15#32).toNat, hlt⟩
  simp only [BitVec.ofNat_toNat, BitVec.setWidth_eq] at this
  rw [Int.toNat_natCast, this]
 rw [e1, e2, e3, bx, ← ticks4_split]
theorem byteStep_eq (r : BitVec 32) (c : UInt8) : byteStep ((r.toNat : Nat) : Int) c = (((crcB r c).toNat : Nat) : Int) := by
 unfold byteStep crcB
 have hc := c.toNat_lt
 have e : (c.toNat : Int) % 4294967296 = (((BitVec.ofNat 32 c.toNat).toNat : Nat) : Int) := by
  rw [BitVec.toNat_ofNat, Nat.mod_eq_of_lt (by omega)]; omega
 rw [e, bx, nib_eq, nib_eq, ← ticks8]
theorem sumI_eq (l : List UInt8) : sumI l = (((crcR (BitVec.allOnes 32) l).toNat : Nat) : Int) := by
 have key : ∀ (l : List UInt8) (r : BitVec 32), l.foldl byteStep ((r.toNat : Nat) : Int) = (((crcR r l).toNat : Nat) : Int) := by
  intro l
  induction l with
  | nil => intro r; rfl
  | cons c l ih => intro r; rw [List.foldl_cons, byteStep_eq, ih]; rfl
 exact key l (BitVec.allOnes 32)
theorem not_eq (r : BitVec 32) : bits .xor .u32 4294967295 ((r.toNat : Nat) : Int) = (((~~~r).toNat : Nat) : Int) := by
 have := bx (BitVec.allOnes 32) r
 rw [BitVec.allOnes_xor] at this
 exact this
theorem not_eq' (r : BitVec 32) : bits .xor .u32 ((r.toNat : Nat) : Int) 4294967295 = (((~~~r).toNat : Nat) : Int) := by
 have := bx r (BitVec.allOnes 32)
 rw [BitVec.xor_allOnes] at this
 exact this
theorem sum_eq (l : List UInt8) (h : l.length ≤ 9223372036854775807) : seal_Sum.f (ba l) = some (((crc l).toNat : Nat) : Int) := by
 unfold seal_Sum.f
 rw [ba_size, if_pos h, ba_list, sumI_eq, not_eq]
 rfl
def sealed (l : List UInt8) : List UInt8 := l ++ putN (crc l).toNat 4
theorem sealed_length (l : List UInt8) : (sealed l).length = l.length + 4 := by simp [sealed, putN_length]
theorem seal_put_eq (l : List UInt8) (h : l.length ≤ 1000000000) : seal_Put.f (ba l) = some (ba (sealed l)) := by
 unfold seal_Put.f
 have hc := (crc l).isLt
 rw [sum_eq l (by omega), Option.bind_some, u64_nat _ (by omega), put_eq _ (by omega), Option.bind_some]
 have : many8 4 = 4 := by decide
 rw [this, ba_size, ba_size, putN_length, if_pos (by omega), ba_append]
 rfl
theorem ref_bit (k : Nat) (s : ByteArray) (r c : BitVec 32) (i : Int) (j : Nat) (hj : j < 8) :
  r3_Sum.l1 (k + 1) s ((r.toNat : Nat) : Int) i ((c.toNat : Nat) : Int) (j : Int) =
   r3_Sum.l1 k s ((((r >>> 1) ^^^ (if (r ^^^ c).getLsbD 0 then poly else 0#32)).toNat : Nat) : Int) i (((c >>> 1).toNat : Nat) : Int) ((j + 1 : Nat) : Int) := by
 have e1 : ∀ x : BitVec 32, Int.tdiv ((x.toNat : Nat) : Int) 2 % (4294967296 : Int) = (((x >>> 1).toNat : Nat) : Int) := fun x => by
  have hx := x.isLt
  rw [Int.tdiv_eq_ediv_of_nonneg (by omega), BitVec.toNat_ushiftRight, Nat.shiftRight_eq_div_pow]
  omega
 have e2 : wrap64 ((j : Int) + 1) = ((j + 1 : Nat) : Int) := by rw [w64 _ (by omega) (by omega)]; omega
 have e3 : bits .and .u32 (bits .xor .u32 ((r.toNat : Nat) : Int) ((c.toNat : Nat) : Int)) 1 = (if (r ^^^ c).getLsbD 0 then 1 else 0) := by
  rw [bx]
  have h := u32_and_nat (r ^^^ c).toNat 1 (r ^^^ c).isLt (by omega)
  rw [show ((1 : Nat) : Int) = 1 from rfl] at h
  rw [h, nat_mask1]
  have : (r ^^^ c).getLsbD 0 = decide ((r ^^^ c).toNat % 2 = 1) := by
   simp [BitVec.getLsbD, Nat.testBit_zero]
  rw [this]
  by_cases hb : (r ^^^ c).toNat % 2 = 1
  ·rw [hb]; rfl
  ·rw [show (r ^^^ c).toNat % 2 = 0 by omega]; rfl
 have e4 : ∀ x : BitVec 32, bits .xor .u32 ((x.toNat : Nat) : Int) 3988292384 = (((x ^^^ poly).toNat : Nat) : Int) := fun x => bx x poly
 simp only [r3_Sum.l1]
 rw [if_pos (by omega), e3, e1, e1, e2]
 cases (r ^^^ c).getLsbD 0
 ·rw [if_neg (by decide), if_neg (by decide), BitVec.xor_zero]
 ·rw [if_pos (by decide), if_pos (by decide), e4]
theorem ref_bits (s : ByteArray) (i : Int) (R : Int) : ∀ (d j : Nat) (r c : BitVec 32), j + d = 8 → c.toNat < 2 ^ d →
  Ev (fun k => r3_Sum.l0 k s (((ticks d (r ^^^ c)).toNat : Nat) : Int) (wrap64 (i + 1))) R →
  Ev (fun k => r3_Sum.l1 k s ((r.toNat : Nat) : Int) i ((c.toNat : Nat) : Int) (j : Int)) R := by
 intro d
 induction d with
 | zero =>
  intro j r c hj hc h
  have hc0 : c = 0#32 := BitVec.eq_of_toNat_eq (by simpa using hc)
  subst hc0
  rw [BitVec.xor_zero] at h
  refine Ev.step (fun k => ?_) h
  simp only [r3_Sum.l1]
  rw [if_neg (by omega)]
  rfl
 | succ d ih =>
  intro j r c hj hc h
  refine Ev.step (fun k => ref_bit k s r c i j (by omega)) (ih (j + 1) _ (c >>> 1) (by omega) ?_ ?_)
  ·rw [BitVec.toNat_ushiftRight, Nat.shiftRight_eq_div_pow]
   have : (2 : Nat) ^ (d + 1) = 2 * 2 ^ d := by rw [Nat.pow_succ, Nat.mul_comm]
   omega
  ·have e : (r >>> 1 ^^^ if (r ^^^ c).getLsbD 0 = true then poly else 0#32) ^^^ c >>> 1 = tick (r ^^^ c) := by
    unfold tick
    generalize (if (r ^^^ c).getLsbD 0 = true then poly else 0#32) = q
    rw [BitVec.ushiftRight_xor_distrib, BitVec.xor_assoc, BitVec.xor_comm q, ← BitVec.xor_assoc]
   rw [e]
   exact h
theorem bt_ba (l : List UInt8) (i : Nat) (h : i < l.length) : bt (ba l) (i : Int) = ((l[i]'h).toNat : Int) := by
 unfold bt
 have h2 : (i : Int).toNat < (ba l).size := by rw [ba_size]; simpa using h
 rw [dif_pos h2]
 have : (ba l)[(i : Int).toNat]'h2 = l[i]'h := by
  show (ba l).data[(i : Int).toNat]'h2 = _
  simp [ba]
 rw [this]
theorem ref_sum_l (l : List UInt8) (hl : l.length ≤ 1000000000) : ∀ (d i : Nat) (r : BitVec 32), i + d = l.length →
  Ev (fun k => r3_Sum.l0 k (ba l) ((r.toNat : Nat) : Int) (i : Int)) (((~~~(crcR r (l.drop i))).toNat : Nat) : Int) := by
 intro d
 induction d with
 | zero =>
  intro i r hi
  refine Ev.step (f := fun _ => some _) (fun k => ?_) (Ev.now _)
  simp only [r3_Sum.l0]
  rw [ba_size, if_neg (by omega), List.drop_eq_nil_of_le (by omega), crcR_nil, not_eq']
 | succ d ih =>
  intro i r hi
  have hlt : i < l.length := by omega
  have hb := (l[i]'hlt).toNat_lt
  have h := ih (i + 1) (crcB r (l[i]'hlt)) (by omega)
  rw [← crcR_cons, ← List.drop_eq_getElem_cons hlt] at h
  have e : (bt (ba l) (i : Int)) % 4294967296 = (((BitVec.ofNat 32 (l[i]'hlt).toNat).toNat : Nat) : Int) := by
   rw [bt_ba l i hlt, BitVec.toNat_ofNat, Nat.mod_eq_of_lt (by omega)]; omega
  refine Ev.step (f := fun k => r3_Sum.l1 k (ba l) ((r.toNat : Nat) : Int) (i : Int) (((BitVec.ofNat 32 (l[i]'hlt).toNat).toNat : Nat) : Int) ((0 : Nat) : Int)) (fun k => ?_) (ref_bits (ba l) (i : Int) _ 8 0 r _ rfl ?_ ?_)
  ·simp only [r3_Sum.l0]
   rw [ba_size, if_pos (by omega), if_pos (by omega), e]
   rfl
  ·rw [BitVec.toNat_ofNat, Nat.mod_eq_of_lt (by omega)]; exact hb
  ·rw [w64 _ (by omega) (by omega)]
   exact h
theorem ref_sum (l : List UInt8) (hl : l.length ≤ 1000000000) : Ev (fun k => r3_Sum.f k (ba l)) (((crc l).toNat : Nat) : Int) :=
 ref_sum_l l hl l.length 0 (BitVec.allOnes 32) (by omega)
theorem ref_seal_put (l : List UInt8) (hl : l.length ≤ 1000000000) : Ev (fun k => r3_Put.f k (ba l)) (ba (sealed l)) := by
 have hc := (crc l).isLt
 refine Ev.bind (ref_sum l hl) ?_
 rw [u64_nat _ (by omega)]
 refine Ev.bind (ref_put (crc l).toNat 4 (by omega) (by omega)) ?_
 refine Ev.congr (f := fun _ => some (ba (sealed l))) (fun k => ?_) (Ev.now _)
 rw [ba_size, ba_size, putN_length, if_pos (by omega), ba_append]
 rfl
end Go.Proofs.YtboommbclbjlnaaDoor.Pu
end
section
namespace Go.Proofs.YtboommbclbjlnaaDoor.Pu
open Go Go.Lib Go.RowKit Go.Proofs.YtboommbclbjlnaaDoor.Pl Go.Proofs.YtboommbclbjlnaaDoor.Lf Go.Proofs.YtboommbclbjlnaaDoor.Fn Go.Proofs.YtboommbclbjlnaaDoorW.PrintWords
theorem bt_all (l : List UInt8) (i : Nat) : bt (ba l) (i : Int) = ((l.getD i 0).toNat : Int) := by
 by_cases h : i < l.length
 ·rw [bt_ba l i h, List.getD_eq_getElem?_getD, List.getElem?_eq_getElem h]; rfl
 ·unfold bt
  rw [dif_neg (by rw [ba_size]; simpa using h), List.getD_eq_getElem?_getD, List.getElem?_eq_none (by omega)]
  rfl
theorem more_eq (l : List UInt8) (i : Nat) : r1_more.f (ba l) (i : Int) = some (decide (i < l.length ∧ 128 ≤ (l.getD i 0).toNat ∧ (l.getD i 0).toNat ≤ 191)) := by
 unfold r1_more.f
 rw [ba_size, bt_all]
 generalize (l.getD i 0).toNat = b
 by_cases h1 : i < l.length
 ·rw [if_pos (by omega), if_pos (by omega)]
  by_cases h2 : 128 ≤ b
  ·rw [if_pos (by omega)]
   by_cases h3 : b ≤ 191
   ·rw [decide_eq_true (by omega), decide_eq_true ⟨h1, h2, h3⟩]
   ·rw [decide_eq_false (by omega), decide_eq_false (by omega)]
  ·rw [if_neg (by omega), decide_eq_false (by omega)]
 ·rw [if_neg (by omega), decide_eq_false (by omega)]
def refN (n b0 b1 b2 b3 : Nat) : Int × Int :=
 if b0 < 128 then ((b0 : Int), 1)
 else if (194 ≤ b0 ∧ b0 ≤ 223) ∧ (1 < n ∧ 128 ≤ b1 ∧ b1 ≤ 191) then (((b0 : Int) - 192) * 64 + b1 - 128, 2)
 else if (224 ≤ b0 ∧ b0 ≤ 239) ∧ (1 < n ∧ 128 ≤ b1 ∧ b1 ≤ 191) ∧ (2 < n ∧ 128 ≤ b2 ∧ b2 ≤ 191) ∧ (2048 ≤ ((b0 : Int) - 224) * 4096 + ((b1 : Int) - 128) * 64 + b2 - 128 ∧ ¬ (55296 ≤ ((b0 : Int) - 224) * 4096 + ((b1 : Int) - 128) * 64 + b2 - 128 ∧ ((b0 : Int) - 224) * 4096 + ((b1 : Int) - 128) * 64 + b2 - 128 ≤ 57343)) then (((b0 : Int) - 224) * 4096 + ((b1 : Int) - 128) * 64 + b2 - 128, 3)
 else if (240 ≤ b0 ∧ b0 ≤ 244) ∧ (1 < n ∧ 128 ≤ b1 ∧ b1 ≤ 191) ∧ (2 < n ∧ 128 ≤ b2 ∧ b2 ≤ 191) ∧ (3 < n ∧ 128 ≤ b3 ∧ b3 ≤ 191) ∧ (65536 ≤ ((b0 : Int) - 240) * 262144 + ((b1 : Int) - 128) * 4096 + ((b2 : Int) - 128) * 64 + b3 - 128 ∧ ((b0 : Int) - 240) * 262144 + ((b1 : Int) - 128) * 4096 + ((b2 : Int) - 128) * 64 + b3 - 128 ≤ 1114111) then (((b0 : Int) - 240) * 262144 + ((b1 : Int) - 128) * 4096 + ((b2 : Int) - 128) * 64 + b3 - 128, 4)
 else (-1, 1)
theorem refN_eq (n b0 b1 b2 b3 : Nat) (h0 : b0 < 256) (h1 : b1 < 256) (h2 : b2 < 256) (h3 : b3 < 256) :
  refN n b0 b1 b2 b3 = if (decodeN n b0 b1 b2 b3).1 = 65533 ∧ (decodeN n b0 b1 b2 b3).2 = 1 then ((-1 : Int), (1 : Int)) else (((decodeN n b0 b1 b2 b3).1 : Int), ((decodeN n b0 b1 b2 b3).2 : Int)) := by
 unfold refN decodeN
 repeat' split
 all_goals first | rfl | (exfalso; omega) | (apply Prod.ext <;> simp only <;> omega) | skip
theorem wb (b : Nat) (h : b < 256) : wrap64 (b : Int) = b := by unfold wrap64; omega
theorem wa2 (b0 b1 : Nat) (h0 : b0 < 256) (h1 : b1 < 256) : wrap64 (wrap64 (wrap64 (wrap64 ((b0 : Int) - 192) * 64) + b1) - 128) = ((b0 : Int) - 192) * 64 + b1 - 128 := by unfold wrap64; omega
theorem wa3 (b0 b1 b2 : Nat) (h0 : b0 < 256) (h1 : b1 < 256) (h2 : b2 < 256) : wrap64 (wrap64 (wrap64 (wrap64 (wrap64 ((b0 : Int) - 224) * 4096) + wrap64 (wrap64 ((b1 : Int) - 128) * 64)) + b2) - 128) = ((b0 : Int) - 224) * 4096 + ((b1 : Int) - 128) * 64 + b2 - 128 := by unfold wrap64; omega
theorem wa4 (b0 b1 b2 b3 : Nat) (h0 : b0 < 256) (h1 : b1 < 256) (h2 : b2 < 256) (h3 : b3 < 256) : wrap64 (wrap64 (wrap64 (wrap64 (wrap64 (wrap64 ((b0 : Int) - 240) * 262144) + wrap64 (wrap64 ((b1 : Int) - 128) * 4096)) + wrap64 (wrap64 ((b2 : Int) - 128) * 64)) + b3) - 128) = ((b0 : Int) - 240) * 262144 + ((b1 : Int) - 128) * 4096 + ((b2 : Int) - 128) * 64 + b3 - 128 := by unfold wrap64; omega
def c3 (b0 b1 b2 : Nat) : Int := ((b0 : Int) - 224) * 4096 + ((b1 : Int) - 128) * 64 + b2 - 128
def c4 (b0 b1 b2 b3 : Nat) : Int := ((b0 : Int) - 240) * 262144 + ((b1 : Int) - 128) * 4096 + ((b2 : Int) - 128) * 64 + b3 - 128
section
variable (s : ByteArray) (n b0 b1 b2 b3 : Nat) (h0 : b0 < 256) (h1 : b1 < 256) (h2 : b2 < 256) (h3 : b3 < 256) (S : (s.size : Int) = n)
  (B0 : bt s 0 = b0) (B1 : bt s 1 = b1) (B2 : bt s 2 = b2) (B3 : bt s 3 = b3)
include h0 h1 h2 h3 S B1 B2 B3
theorem rj3 (k : Nat) (q : Bool) (hq : q = true → 3 < n) : r1_Rune.j3 (k + 1) s b0 q = some (if q = true ∧ (65536 ≤ c4 b0 b1 b2 b3 ∧ c4 b0 b1 b2 b3 ≤ 1114111) then (c4 b0 b1 b2 b3, 4) else (-1, 1)) := by
 cases q
 ·rfl
 ·have hn := hq rfl
  have g1 : (1 : Int) < n := by omega
  have g2 : (2 : Int) < n := by omega
  have g3 : (3 : Int) < n := by omega
  simp only [r1_Rune.j3, S, if_pos g1, if_pos g2, if_pos g3, if_true, B1, B2, B3, wb b1 h1, wb b2 h2, wb b3 h3, wa4 b0 b1 b2 b3 h0 h1 h2 h3]
  show (if c4 b0 b1 b2 b3 ≥ 65536 then _ else _) = _
  by_cases x : c4 b0 b1 b2 b3 ≥ 65536
  ·rw [if_pos x]
   by_cases y : c4 b0 b1 b2 b3 ≤ 1114111
   ·rw [if_pos (show ((b0 : Int) - 240) * 262144 + ((b1 : Int) - 128) * 4096 + ((b2 : Int) - 128) * 64 + b3 - 128 ≤ 1114111 from y), if_pos ⟨trivial, x, y⟩]; rfl
   ·rw [if_neg (show ¬ ((b0 : Int) - 240) * 262144 + ((b1 : Int) - 128) * 4096 + ((b2 : Int) - 128) * 64 + b3 - 128 ≤ 1114111 from y), if_neg (fun h => y h.2.2)]
  ·rw [if_neg x, if_neg (fun h => x h.2.1)]
variable (m1 m2 m3 : Bool) (M1 : r1_more.f s 1 = some m1) (M2 : r1_more.f s 2 = some m2) (M3 : r1_more.f s 3 = some m3) (q1 : m1 = true → 1 < n) (q2 : m2 = true → 2 < n) (q3 : m3 = true → 3 < n)
include M1 M2 M3 q3
theorem rj2 (k : Nat) : r1_Rune.j2 (k + 2) s b0 = some (if (240 ≤ b0 ∧ b0 ≤ 244) ∧ m1 = true ∧ m2 = true ∧ m3 = true ∧ (65536 ≤ c4 b0 b1 b2 b3 ∧ c4 b0 b1 b2 b3 ≤ 1114111) then (c4 b0 b1 b2 b3, 4) else (-1, 1)) := by
 have J := fun q hq => rj3 s n b0 b1 b2 b3 h0 h1 h2 h3 S B1 B2 B3 k q hq
 have Jf := J false (fun h => by cases h)
 have J3 := J m3 q3
 rw [if_neg (by simp)] at Jf
 simp only [r1_Rune.j2, M1, M2, M3, Option.bind_some]
 by_cases x : 240 ≤ b0
 ·rw [if_pos (show (b0 : Int) ≥ 240 by omega)]
  by_cases y : b0 ≤ 244
  ·rw [if_pos (show (b0 : Int) ≤ 244 by omega)]
   cases m1
   ·rw [if_neg (by decide), Jf, if_neg (by simp)]
   ·cases m2
    ·rw [if_pos rfl, if_neg (by decide), Jf, if_neg (by simp)]
    ·rw [if_pos rfl, if_pos rfl, J3]
     congr 1
     by_cases z : m3 = true ∧ (65536 ≤ c4 b0 b1 b2 b3 ∧ c4 b0 b1 b2 b3 ≤ 1114111)
     ·rw [if_pos z, if_pos ⟨⟨x, y⟩, rfl, rfl, z⟩]
     ·rw [if_neg z, if_neg (fun h => z h.2.2.2)]
  ·rw [if_neg (show ¬ (b0 : Int) ≤ 244 by omega), Jf, if_neg (fun h => y h.1.2)]
 ·rw [if_neg (show ¬ (b0 : Int) ≥ 240 by omega), Jf, if_neg (fun h => x h.1.1)]
include q2
theorem rj1 (k : Nat) (q : Bool) (hq : q = true → m2 = true) : r1_Rune.j1 (k + 3) s b0 q = some (if q = true ∧ (2048 ≤ c3 b0 b1 b2 ∧ ¬ (55296 ≤ c3 b0 b1 b2 ∧ c3 b0 b1 b2 ≤ 57343)) then (c3 b0 b1 b2, 3) else if (240 ≤ b0 ∧ b0 ≤ 244) ∧ m1 = true ∧ m2 = true ∧ m3 = true ∧ (65536 ≤ c4 b0 b1 b2 b3 ∧ c4 b0 b1 b2 b3 ≤ 1114111) then (c4 b0 b1 b2 b3, 4) else (-1, 1)) := by
 have J2 := rj2 s n b0 b1 b2 b3 h0 h1 h2 h3 S B1 B2 B3 m1 m2 m3 M1 M2 M3 q3 k
 cases q
 ·rw [if_neg (by simp), ← J2]
  simp only [r1_Rune.j1]
  rw [if_neg (by decide)]
 ·have hn := q2 (hq rfl)
  have g1 : (1 : Int) < n := by omega
  have g2 : (2 : Int) < n := by omega
  simp only [r1_Rune.j1, S, if_pos g1, if_pos g2, if_true, B1, B2, wb b1 h1, wb b2 h2, wa3 b0 b1 b2 h0 h1 h2]
  show (if c3 b0 b1 b2 ≥ 2048 then (if c3 b0 b1 b2 ≥ 55296 then (if c3 b0 b1 b2 ≤ 57343 then _ else some (c3 b0 b1 b2, 3)) else some (c3 b0 b1 b2, 3)) else _) = _
  by_cases x : c3 b0 b1 b2 ≥ 2048
  ·rw [if_pos x]
   by_cases y : c3 b0 b1 b2 ≥ 55296
   ·rw [if_pos y]
    by_cases z : c3 b0 b1 b2 ≤ 57343
    ·rw [if_pos z, if_neg (fun h => h.2.2 ⟨y, z⟩)]; exact J2
    ·rw [if_neg z, if_pos ⟨trivial, x, fun h => z h.2⟩]
   ·rw [if_neg y, if_pos ⟨trivial, x, fun h => y h.1⟩]
  ·rw [if_neg x, if_neg (fun h => x h.2.1)]; exact J2
include q1
theorem rj0 (k : Nat) (q : Bool) (hq : q = true → m1 = true) : r1_Rune.j0 (k + 4) s b0 q = some (if q = true then (((b0 : Int) - 192) * 64 + b1 - 128, 2) else if ((224 ≤ b0 ∧ b0 ≤ 239) ∧ m1 = true ∧ m2 = true) ∧ (2048 ≤ c3 b0 b1 b2 ∧ ¬ (55296 ≤ c3 b0 b1 b2 ∧ c3 b0 b1 b2 ≤ 57343)) then (c3 b0 b1 b2, 3) else if (240 ≤ b0 ∧ b0 ≤ 244) ∧ m1 = true ∧ m2 = true ∧ m3 = true ∧ (65536 ≤ c4 b0 b1 b2 b3 ∧ c4 b0 b1 b2 b3 ≤ 1114111) then (c4 b0 b1 b2 b3, 4) else (-1, 1)) := by
 have J := fun q hq => rj1 s n b0 b1 b2 b3 h0 h1 h2 h3 S B1 B2 B3 m1 m2 m3 M1 M2 M3 q2 q3 k q hq
 revert J
 generalize (if (240 ≤ b0 ∧ b0 ≤ 244) ∧ m1 = true ∧ m2 = true ∧ m3 = true ∧ (65536 ≤ c4 b0 b1 b2 b3 ∧ c4 b0 b1 b2 b3 ≤ 1114111) then (c4 b0 b1 b2 b3, 4) else ((-1 : Int), (1 : Int))) = E
 intro J
 have Jf := J false (fun h => by cases h)
 rw [if_neg (by simp)] at Jf
 have J2 := J m2 (fun h => h)
 cases q
 ·rw [if_neg (by decide)]
  simp only [r1_Rune.j0, M1, M2, Option.bind_some]
  rw [if_neg (by decide)]
  by_cases x : 224 ≤ b0
  ·rw [if_pos (show (b0 : Int) ≥ 224 by omega)]
   by_cases y : b0 ≤ 239
   ·rw [if_pos (show (b0 : Int) ≤ 239 by omega)]
    cases m1
    ·rw [if_neg (by decide), Jf, if_neg (by simp)]
    ·rw [if_pos rfl, J2]
     congr 1
     by_cases z : m2 = true ∧ (2048 ≤ c3 b0 b1 b2 ∧ ¬ (55296 ≤ c3 b0 b1 b2 ∧ c3 b0 b1 b2 ≤ 57343))
     ·rw [if_pos z, if_pos ⟨⟨⟨x, y⟩, rfl, z.1⟩, z.2⟩]
     ·rw [if_neg z, if_neg (fun h => z ⟨h.1.2.2, h.2⟩)]
   ·rw [if_neg (show ¬ (b0 : Int) ≤ 239 by omega), Jf, if_neg (fun h => y h.1.1.2)]
  ·rw [if_neg (show ¬ (b0 : Int) ≥ 224 by omega), Jf, if_neg (fun h => x h.1.1.1)]
 ·have hn := q1 (hq rfl)
  have g1 : (1 : Int) < n := by omega
  simp only [r1_Rune.j0, S, if_pos g1, if_true, B1, wb b1 h1, wa2 b0 b1 h0 h1]
include B0
theorem rune_N (hn : 1 ≤ n) (k : Nat) : r1_Rune.f (k + 4) s = some (if b0 < 128 then ((b0 : Int), 1) else if (194 ≤ b0 ∧ b0 ≤ 223) ∧ m1 = true then (((b0 : Int) - 192) * 64 + b1 - 128, 2) else if ((224 ≤ b0 ∧ b0 ≤ 239) ∧ m1 = true ∧ m2 = true) ∧ (2048 ≤ c3 b0 b1 b2 ∧ ¬ (55296 ≤ c3 b0 b1 b2 ∧ c3 b0 b1 b2 ≤ 57343)) then (c3 b0 b1 b2, 3) else if (240 ≤ b0 ∧ b0 ≤ 244) ∧ m1 = true ∧ m2 = true ∧ m3 = true ∧ (65536 ≤ c4 b0 b1 b2 b3 ∧ c4 b0 b1 b2 b3 ≤ 1114111) then (c4 b0 b1 b2 b3, 4) else (-1, 1)) := by
 have J := fun q hq => rj0 s n b0 b1 b2 b3 h0 h1 h2 h3 S B1 B2 B3 m1 m2 m3 M1 M2 M3 q1 q2 q3 k q hq
 revert J
 generalize (if ((224 ≤ b0 ∧ b0 ≤ 239) ∧ m1 = true ∧ m2 = true) ∧ (2048 ≤ c3 b0 b1 b2 ∧ ¬ (55296 ≤ c3 b0 b1 b2 ∧ c3 b0 b1 b2 ≤ 57343)) then (c3 b0 b1 b2, (3 : Int)) else (if (240 ≤ b0 ∧ b0 ≤ 244) ∧ m1 = true ∧ m2 = true ∧ m3 = true ∧ (65536 ≤ c4 b0 b1 b2 b3 ∧ c4 b0 b1 b2 b3 ≤ 1114111) then (c4 b0 b1 b2 b3, 4) else ((-1 : Int), (1 : Int)))) = E
 intro J
 have Jf := J false (fun h => by cases h)
 rw [if_neg (by simp)] at Jf
 have J1 := J m1 (fun h => h)
 have g0 : (0 : Int) < n := by omega
 simp only [r1_Rune.f, S, if_pos g0, B0, wb b0 h0, M1, Option.bind_some]
 by_cases w : b0 < 128
 ·rw [if_pos (show (b0 : Int) < 128 by omega), if_pos w]
 ·rw [if_neg (show ¬ (b0 : Int) < 128 by omega), if_neg w]
  by_cases x : 194 ≤ b0
  ·rw [if_pos (show (b0 : Int) ≥ 194 by omega)]
   by_cases y : b0 ≤ 223
   ·rw [if_pos (show (b0 : Int) ≤ 223 by omega), J1]
    congr 1
    by_cases z : m1 = true
    ·rw [if_pos z, if_pos ⟨⟨x, y⟩, z⟩]
    ·rw [if_neg z, if_neg (fun h => z h.2)]
   ·rw [if_neg (show ¬ (b0 : Int) ≤ 223 by omega), Jf, if_neg (fun h => y h.1.2)]
  ·rw [if_neg (show ¬ (b0 : Int) ≥ 194 by omega), Jf, if_neg (fun h => x h.1.1)]
end
def rr (l : List UInt8) : Int × Int := if (decodeL l).1 = 65533 ∧ (decodeL l).2 = 1 then (-1, 1) else (((decodeL l).1 : Int), ((decodeL l).2 : Int))
theorem rune_eq (l : List UInt8) (hl : l ≠ []) (k : Nat) : r1_Rune.f (k + 4) (ba l) = some (rr l) := by
 have hn : 1 ≤ l.length := List.length_pos_iff.2 hl
 have e := refN_eq l.length _ _ _ _ (l.getD 0 0).toNat_lt (l.getD 1 0).toNat_lt (l.getD 2 0).toNat_lt (l.getD 3 0).toNat_lt
 rw [← decodeL_N] at e
 unfold rr
 rw [← e, rune_N (ba l) l.length _ _ _ _ (l.getD 0 0).toNat_lt (l.getD 1 0).toNat_lt (l.getD 2 0).toNat_lt (l.getD 3 0).toNat_lt (by rw [ba_size]) (bt_all l 0) (bt_all l 1) (bt_all l 2) (bt_all l 3) _ _ _ (more_eq l 1) (more_eq l 2) (more_eq l 3)
  (fun h => (of_decide_eq_true h).1) (fun h => (of_decide_eq_true h).1) (fun h => (of_decide_eq_true h).1) hn k]
 unfold refN c3 c4
 simp only [decide_eq_true_eq, and_assoc]
theorem ev_rune (l : List UInt8) (hl : l ≠ []) : Ev (fun k => r1_Rune.f k (ba l)) (rr l) :=
 ⟨4, fun k hk => by obtain ⟨k, rfl⟩ : ∃ m, k = m + 4 := ⟨k - 4, by omega⟩; exact rune_eq l hl k⟩
theorem rr_width (l : List UInt8) (_hl : l ≠ []) : (rr l).2 = (((decodeL l).2 : Nat) : Int) := by
 unfold rr
 by_cases h : (decodeL l).1 = 65533 ∧ (decodeL l).2 = 1
 ·rw [if_pos h, h.2]; rfl
 ·rw [if_neg h]
theorem rr_bad (l : List UInt8) : ((rr l).1 < 0) = ((decodeL l).1 = 65533 ∧ (decodeL l).2 = 1) := by
 unfold rr
 by_cases h : (decodeL l).1 = 65533 ∧ (decodeL l).2 = 1
 ·rw [if_pos h]; simp [h]
 ·rw [if_neg h]; simp [h]
theorem ref_valid_l (l : List UInt8) : Ev (fun k => r1_Valid.l0 k (ba l)) (validD l) := by
 induction hn : l.length using Nat.strongRecOn generalizing l with
 | _ n ih =>
  by_cases e : l = []
  ·subst e
   refine Ev.step (f := fun _ => some true) (fun k => ?_) (Ev.now _)
   simp only [r1_Valid.l0]
   rw [ba_toList, if_pos rfl]
  ·have hw := decodeL_le l e
   have hs := drop_short l e
   refine Ev.step (f := fun k => (r1_Rune.f k (ba l)).bind fun bt => (if bt.1 < 0 then (some false) else (if 0 ≤ bt.2 then (if bt.2 ≤ ((ba l).size : Int) then (r1_Valid.l0 k ((ba l).extract (bt.2 : Int).toNat (ba l).size)) else (none)) else (none)))) (fun k => ?_) (Ev.bind (ev_rune l e) ?_)
   ·simp only [r1_Valid.l0]
    rw [ba_toList, if_neg e]
   ·rw [validD_step l e]
    by_cases hb : (decodeL l).1 = 65533 ∧ (decodeL l).2 = 1
    ·refine Ev.congr (f := fun _ => some false) (fun k => ?_) (by rw [if_pos hb]; exact Ev.now _)
     rw [if_pos (by rw [rr_bad]; exact hb)]
    ·rw [if_neg hb]
     refine Ev.congr (fun k => ?_) (ih _ (by omega) (l.drop (decodeL l).2) rfl)
     rw [if_neg (by rw [rr_bad]; exact hb), rr_width l e, if_pos (by omega), if_pos (by rw [ba_size]; omega), Int.toNat_natCast, ba_drop]
theorem ref_count_l (l : List UInt8) : ∀ c : Nat, c + l.length ≤ 1000000000 → Ev (fun k => r1_Count.l0 k (ba l) (c : Int)) (((c + (runes l).length : Nat)) : Int) := by
 induction hn : l.length using Nat.strongRecOn generalizing l with
 | _ n ih =>
  intro c hc
  by_cases e : l = []
  ·subst e
   refine Ev.step (f := fun _ => some _) (fun k => ?_) (Ev.now _)
   simp only [r1_Count.l0]
   rw [ba_toList, if_pos rfl, runes_nil]; rfl
  ·have hw := decodeL_le l e
   have hs := drop_short l e
   refine Ev.step (f := fun k => (r1_Rune.f k (ba l)).bind fun bt => (if 0 ≤ bt.2 then (if bt.2 ≤ ((ba l).size : Int) then (r1_Count.l0 k ((ba l).extract (bt.2 : Int).toNat (ba l).size) (wrap64 ((c : Int) + 1))) else (none)) else (none))) (fun k => ?_) (Ev.bind (ev_rune l e) ?_)
   ·simp only [r1_Count.l0]
    rw [ba_toList, if_neg e]
   ·have h := ih _ (by omega) (l.drop (decodeL l).2) rfl (c + 1) (by omega)
    rw [show c + (runes l).length = c + 1 + (runes (l.drop (decodeL l).2)).length by rw [runes_cons l e, List.length_cons]; omega]
    refine Ev.congr (fun k => ?_) h
    rw [rr_width l e, if_pos (by omega), if_pos (by rw [ba_size]; omega), Int.toNat_natCast, ba_drop, w64 _ (by omega) (by omega)]
    rfl
theorem ref_valid (l : List UInt8) : Ev (fun k => r1_Valid.f k (ba l)) (validD l) := ref_valid_l l
theorem ref_count (l : List UInt8) (h : l.length ≤ 1000000000) : Ev (fun k => r1_Count.f k (ba l)) (((runes l).length : Nat) : Int) := by
 have := ref_count_l l 0 (by omega)
 rw [Nat.zero_add] at this
 exact this
def fineB (b : UInt8) : Bool := decide (32 ≤ b.toNat) && !(b.toNat == 127)
theorem ref_right_l (l : List UInt8) (h : l.length ≤ 1000000000) : ∀ (d i : Nat), i + d = l.length → Ev (fun k => r1_Right.l0 k (ba l) (i : Int)) ((l.drop i).all fineB) := by
 intro d
 induction d with
 | zero =>
  intro i hi
  refine Ev.step (f := fun _ => some _) (fun k => ?_) (Ev.now _)
  simp only [r1_Right.l0]
  rw [ba_size, if_neg (by omega), List.drop_eq_nil_of_le (by omega)]; rfl
 | succ d ih =>
  intro i hi
  have hlt : i < l.length := by omega
  have hd := List.drop_eq_getElem_cons hlt
  have hb := bt_ba l i hlt
  by_cases h1 : (l[i]'hlt).toNat < 32
  ·refine Ev.step (f := fun _ => some _) (fun k => ?_) (Ev.now _)
   simp only [r1_Right.l0]
   rw [ba_size, if_pos (by omega), if_pos (by omega), hb, if_pos (by omega), hd, List.all_cons, show fineB (l[i]'hlt) = false by unfold fineB; rw [decide_eq_false (by omega)]; rfl]; rfl
  ·by_cases h2 : (l[i]'hlt).toNat = 127
   ·refine Ev.step (f := fun _ => some _) (fun k => ?_) (Ev.now _)
    simp only [r1_Right.l0]
    rw [ba_size, if_pos (by omega), if_pos (by omega), hb, if_neg (by omega), if_pos (by omega), hd, List.all_cons, show fineB (l[i]'hlt) = false by unfold fineB; rw [h2]; rfl]; rfl
   ·have e : (l.drop i).all fineB = (l.drop (i + 1)).all fineB := by
     rw [hd, List.all_cons, show fineB (l[i]'hlt) = true by unfold fineB; rw [decide_eq_true (by omega)]; simpa using h2]; rfl
    rw [e]
    refine Ev.step (fun k => ?_) (ih (i + 1) (by omega))
    simp only [r1_Right.l0]
    rw [ba_size, if_pos (by omega), if_pos (by omega), hb, if_neg (by omega), if_neg (by omega), w64 _ (by omega) (by omega)]
    rfl
theorem shape (l : List UInt8) (hl : l ≠ []) (hv : ¬ ((decodeL l).1 = 65533 ∧ (decodeL l).2 = 1)) :
  (∃ (b : UInt8) (r : List UInt8), l = b :: r ∧ b.toNat < 128 ∧ decodeL l = (b.toNat, 1)) ∨ ((∀ b ∈ l.take (decodeL l).2, 128 ≤ b.toNat) ∧ 128 ≤ (decodeL l).1) := by
 have h0 := (l.getD 0 0).toNat_lt
 have h1 := (l.getD 1 0).toNat_lt
 have h2 := (l.getD 2 0).toNat_lt
 have h3 := (l.getD 3 0).toNat_lt
 have hlen : 0 < l.length := List.length_pos_iff.2 hl
 rw [decodeL_N] at hv ⊢
 have at_ : ∀ i, i < l.length → l[i]? = some (l.getD i 0) := fun i hi => by
  rw [List.getD_eq_getElem?_getD, List.getElem?_eq_getElem hi]; rfl
 have tk : ∀ w, w ≤ 4 → (∀ i, i < w → 128 ≤ (l.getD i 0).toNat) → ∀ b ∈ l.take w, 128 ≤ b.toNat := by
  intro w _ hw b hb
  obtain ⟨i, hi, e⟩ := List.mem_take_iff_getElem.1 hb
  have hi1 : i < w := by omega
  have := hw i hi1
  rw [List.getD_eq_getElem?_getD, List.getElem?_eq_getElem (by omega)] at this
  rw [← e]
  exact this
 rcases decodeN_shape l.length (l.getD 0 0).toNat (l.getD 1 0).toNat (l.getD 2 0).toNat (l.getD 3 0).toNat with ⟨c, e⟩ | ⟨c1, c2, c3, cv, e⟩ | ⟨c1, c2, c3, c4, cv, cs, e⟩ | ⟨c1, c2, c3, c4, c5, cv, cw, e⟩ | e
 ·left
  cases l with
  | nil => exact absurd rfl hl
  | cons b r => exact ⟨b, r, rfl, c, e⟩
 ·right
  rw [e]
  refine ⟨tk 2 (by omega) (fun i hi => ?_), cv⟩
  have : i = 0 ∨ i = 1 := by omega
  rcases this with rfl | rfl <;> omega
 ·right
  rw [e]
  refine ⟨tk 3 (by omega) (fun i hi => ?_), by simp only; omega⟩
  have : i = 0 ∨ i = 1 ∨ i = 2 := by omega
  rcases this with rfl | rfl | rfl <;> omega
 ·right
  rw [e]
  refine ⟨tk 4 (by omega) (fun i hi => ?_), by simp only; omega⟩
  have : i = 0 ∨ i = 1 ∨ i = 2 ∨ i = 3 := by omega
  rcases this with rfl | rfl | rfl | rfl <;> omega
 ·exact absurd (by rw [e]; exact ⟨rfl, rfl⟩) hv
theorem bytes_fine (l : List UInt8) (hv : validD l = true) : (runes l).all fine = l.all fineB := by
 induction hn : l.length using Nat.strongRecOn generalizing l with
 | _ n ih =>
  by_cases e : l = []
  ·subst e; rfl
  ·have hs := drop_short l e
   rw [validD_step l e] at hv
   by_cases hb : (decodeL l).1 = 65533 ∧ (decodeL l).2 = 1
   ·rw [if_pos hb] at hv; exact absurd hv (by decide)
   ·rw [if_neg hb] at hv
    have h := ih _ (by omega) (l.drop (decodeL l).2) hv rfl
    rw [runes_cons l e, List.all_cons, h]
    conv => rhs; rw [← List.take_append_drop (decodeL l).2 l, List.all_append]
    congr 1
    rcases shape l e hb with ⟨b, r, rfl, hb1, hd⟩ | ⟨h1, h2⟩
    ·rw [hd]
     simp only [List.take_succ_cons, List.take_zero, List.all_cons, List.all_nil, Bool.and_true]
     rfl
    ·have : fine (decodeL l) = true := by unfold fine; rw [decide_eq_true (by omega)]; simp; omega
     rw [this]
     symm
     rw [List.all_eq_true]
     intro b hb
     have := h1 b hb
     unfold fineB; rw [decide_eq_true (by omega)]; simp; omega
theorem rightB_bytes (l : List UInt8) : rightB l = (validD l && (!l.isEmpty && (decide ((runes l).length ≤ 24) && (!(l.headD 0).toNat == 32 && (!(l.getLastD 0).toNat == 32 && l.all fineB))))) := by
 unfold rightB
 cases hv : validD l
 ·simp
 ·rw [bytes_fine l hv]
  cases l.all fineB <;> simp
theorem ref_right_j (l : List UInt8) (h : l.length ≤ 1000000000) (q : Bool) : Ev (fun k => r1_Right.j0 k (ba l) q) (!q && l.all fineB) := by
 cases q
 ·refine Ev.step (fun k => ?_) (ref_right_l l h l.length 0 (by omega))
  simp only [r1_Right.j0]
  rw [if_neg (by decide)]
  rfl
 ·refine Ev.step (f := fun _ => some false) (fun k => ?_) (Ev.now _)
  simp only [r1_Right.j0]
  exact if_pos trivial
theorem ref_right (l : List UInt8) (h : l.length ≤ 1000000000) : Ev (fun k => r1_Right.f k (ba l)) (rightB l) := by
 rw [rightB_bytes]
 refine Ev.bind (ref_valid l) ?_
 cases hv : validD l
 ·refine Ev.congr (fun k => ?_) (ref_right_j l h true)
  rw [if_neg (by decide)]
 ·by_cases e : l = []
  ·subst e
   refine Ev.congr (fun k => ?_) (ref_right_j [] h true)
   rw [if_pos rfl, ba_toList, if_pos rfl]
  ·have hlen : 0 < l.length := List.length_pos_iff.2 e
   have hie : l.isEmpty = false := by simpa using e
   rw [hie, Bool.not_false, Bool.true_and, Bool.true_and]
   refine Ev.congr (fun k => by rw [if_pos rfl, ba_toList, if_neg e]) (Ev.bind (ref_count l h) ?_)
   by_cases hc : (runes l).length ≤ 24
   ·rw [decide_eq_true hc, Bool.true_and]
    have hw : wrap64 ((l.length : Int) - 1) = ((l.length - 1 : Nat) : Int) := by rw [w64 _ (by omega) (by omega)]; omega
    have hf : l.headD 0 = l.getD 0 0 := by cases l <;> rfl
    have hl : l.getLastD 0 = l.getD (l.length - 1) 0 := by
     rw [List.getLastD_eq_getLast?, List.getLast?_eq_getElem?, List.getD_eq_getElem?_getD]
    rw [hf, hl]
    have b0 := bt_all l 0
    have b1 := bt_all l (l.length - 1)
    by_cases hs : (l.getD 0 0).toNat = 32
    ·rw [show ((l.getD 0 0).toNat == 32) = true by simpa using hs]
     refine Ev.congr (fun k => ?_) (ref_right_j l h true)
     rw [if_neg (by omega), ba_size, if_pos (by omega), if_pos (by rw [show (0 : Int) = ((0 : Nat) : Int) from rfl, b0]; omega)]
    ·rw [show ((l.getD 0 0).toNat == 32) = false by simpa using hs, Bool.not_false, Bool.true_and]
     refine Ev.congr (fun k => ?_) (ref_right_j l h ((l.getD (l.length - 1) 0).toNat == 32))
     rw [if_neg (by omega), ba_size, if_pos (by omega), if_neg (by rw [show (0 : Int) = ((0 : Nat) : Int) from rfl, b0]; omega), hw, if_pos (by omega), if_pos (by omega), b1]
     congr 1
     by_cases z : (l.getD (l.length - 1) 0).toNat = 32
     ·rw [z]; rfl
     ·rw [show ((l.getD (l.length - 1) 0).toNat == 32) = false by simpa using z]
      simpa using (by omega : ¬ ((l.getD (l.length - 1) 0).toNat : Int) = 32)
   ·rw [decide_eq_false hc]
    refine Ev.congr (fun k => ?_) (ref_right_j l h true)
    rw [if_pos (by omega)]
theorem right_eq (l : List UInt8) (h : l.length ≤ 1000000000) : label_Right.f (ba l) = some (rightB l) := by
 unfold label_Right.f
 rw [ba_size, if_pos (by omega), ba_list]
def numB (n : Int) : Bool := decide (0 ≤ n) && decide (n ≤ 2147483647)
def rightS (kind a b : Int) (t : List UInt8) : Bool := (t.isEmpty || (kind == 1 && rightB t)) && (decide (1 ≤ kind) && (decide (kind ≤ 8) && (numB a && numB b)))
theorem number_eq (n : Int) : step_number.f n = some (numB n) := by
 unfold step_number.f numB
 by_cases h : 0 ≤ n
 ·rw [if_pos h, decide_eq_true h, Bool.true_and]
 ·rw [if_neg h, decide_eq_false h, Bool.false_and]
theorem right_j (kind a b n : Int) (t : ByteArray) (q : Bool) : Ev (fun k => step_Right.j0 k q kind a b n t) (!q && (decide (1 ≤ kind) && (decide (kind ≤ 8) && (numB a && numB b)))) := by
 refine Ev.step (f := fun _ => some (!q && (decide (1 ≤ kind) && (decide (kind ≤ 8) && (numB a && numB b))))) (fun k => ?_) (Ev.now _)
 simp only [step_Right.j0, number_eq, Option.bind_some]
 cases q
 ·rw [if_neg (by decide)]
  by_cases h1 : 1 ≤ kind
  ·rw [if_pos h1, decide_eq_true h1]
   by_cases h2 : kind ≤ 8
   ·rw [if_pos h2, decide_eq_true h2]
    cases numB a <;> simp
   ·rw [if_neg h2, decide_eq_false h2]; rfl
  ·rw [if_neg h1, decide_eq_false h1]; rfl
 ·rfl
theorem step_right (kind a b n : Int) (l : List UInt8) (hl : l.length ≤ 1000000000) : Ev (fun k => step_Right.f k kind a b n (ba l)) (rightS kind a b l) := by
 unfold rightS
 by_cases e : l = []
 ·subst e
  refine Ev.congr (fun k => ?_) (right_j kind a b n (ba []) false)
  unfold step_Right.f
  rw [ba_toList, if_pos rfl]
 ·have hie : l.isEmpty = false := by simpa using e
  rw [hie, Bool.false_or]
  by_cases h1 : kind = 1
  ·subst h1
   have hj := right_j 1 a b n (ba l) (!rightB l)
   rw [Bool.not_not] at hj
   refine Ev.congr (fun k => ?_) hj
   unfold step_Right.f
   rw [ba_toList, if_neg e, if_pos rfl, right_eq l hl, Option.bind_some]
  ·rw [show (kind == 1) = false by simpa using h1, Bool.false_and]
   refine Ev.congr (fun k => ?_) (right_j kind a b n (ba l) true)
   unfold step_Right.f
   rw [ba_toList, if_neg e, if_neg h1]
theorem tail_eq (kind a b : Int) : (if kind ≥ 1 then (if kind ≤ 8 then (if a ≥ 0 then (if a ≤ 2147483647 then (if b ≥ 0 then (some (decide (b ≤ 2147483647))) else (some false)) else (some false)) else (some false)) else (some false)) else (some false)) = some (decide (1 ≤ kind) && (decide (kind ≤ 8) && (numB a && numB b))) := by
 unfold numB
 by_cases h1 : 1 ≤ kind
 ·rw [if_pos h1, decide_eq_true h1]
  by_cases h2 : kind ≤ 8
  ·rw [if_pos h2, decide_eq_true h2]
   by_cases h3 : 0 ≤ a
   ·rw [if_pos h3, decide_eq_true h3]
    by_cases h4 : a ≤ 2147483647
    ·rw [if_pos h4, decide_eq_true h4]
     by_cases h5 : 0 ≤ b
     ·rw [if_pos h5, decide_eq_true h5]; simp
     ·rw [if_neg h5, decide_eq_false h5]; simp
    ·rw [if_neg h4, decide_eq_false h4]; simp
   ·rw [if_neg h3, decide_eq_false h3]; simp
  ·rw [if_neg h2, decide_eq_false h2]; simp
 ·rw [if_neg h1, decide_eq_false h1]; simp
theorem ref_step_right (kind a b n : Int) (l : List UInt8) (hl : l.length ≤ 1000000000) : Ev (fun k => r12_Right.f k kind a b n (ba l)) (rightS kind a b l) := by
 unfold rightS
 by_cases e : l = []
 ·subst e
  refine Ev.congr (f := fun _ => some _) (fun k => ?_) (Ev.now _)
  unfold r12_Right.f
  rw [ba_toList, if_pos rfl, tail_eq]
  rfl
 ·have hie : l.isEmpty = false := by simpa using e
  rw [hie, Bool.false_or]
  by_cases h1 : kind = 1
  ·subst h1
   refine Ev.congr (fun k => by unfold r12_Right.f; rw [ba_toList, if_neg e, if_pos rfl]) (Ev.bind (ref_right l hl) ?_)
   refine Ev.congr (f := fun _ => some _) (fun k => ?_) (Ev.now _)
   rw [tail_eq]
   cases rightB l <;> rfl
  ·rw [show (kind == 1) = false by simpa using h1, Bool.false_and]
   refine Ev.congr (f := fun _ => some _) (fun k => ?_) (Ev.now _)
   unfold r12_Right.f
   rw [ba_toList, if_neg e, if_neg h1]
   rfl
def bodyS (kind a b n : Nat) (t : List UInt8) : List UInt8 := putN kind 1 ++ putN a 4 ++ putN b 4 ++ putN n 8 ++ t
def recordS (kind a b n : Nat) (t : List UInt8) : List UInt8 := putN (sealed (bodyS kind a b n t)).length 2 ++ sealed (bodyS kind a b n t)
theorem bodyS_length (kind a b n : Nat) (t : List UInt8) : (bodyS kind a b n t).length = 17 + t.length := by simp [bodyS, putN_length]; omega
theorem recordS_length (kind a b n : Nat) (t : List UInt8) : (recordS kind a b n t).length = 23 + t.length := by simp [recordS, putN_length, sealed_length, bodyS_length]; omega
theorem bodyS_is (kk a b n : Nat) (l : List UInt8) : putN kk 1 ++ putN a 4 ++ putN b 4 ++ putN n 8 ++ l = bodyS kk a b n l := by unfold bodyS; rfl
theorem seal_body (kk a b n : Nat) (l : List UInt8) (hl : l.length ≤ 100000000) : seal_Put.f (ba (bodyS kk a b n l)) = some (ba (sealed (bodyS kk a b n l))) := by
 have hb := bodyS_length kk a b n l
 exact seal_put_eq _ (by omega)
theorem size_body (kk a b n : Nat) (l : List UInt8) (hl : l.length ≤ 100000000) : (sealed (bodyS kk a b n l)).length < 18446744073709551616 := by
 have hb := bodyS_length kk a b n l
 have hs := sealed_length (bodyS kk a b n l)
 omega
def putS (kind a b n : Int) (t : List UInt8) : ByteArray × Int := if rightS kind a b t = true then (ba (recordS kind.toNat a.toNat b.toNat n.toNat t), 0) else (ba [], 1)
theorem rightS_bounds {kind a b : Int} {t : List UInt8} (h : rightS kind a b t = true) : (1 ≤ kind ∧ kind ≤ 8) ∧ (0 ≤ a ∧ a ≤ 2147483647) ∧ (0 ≤ b ∧ b ≤ 2147483647) := by
 unfold rightS numB at h
 simp only [Bool.and_eq_true, decide_eq_true_eq] at h
 omega
theorem m1 : many8 1 = 1 := by decide
theorem m2 : many8 2 = 2 := by decide
theorem m4 : many8 4 = 4 := by decide
theorem m8 : many8 8 = 8 := by decide
theorem ev_put (n : Nat) (m : Int) (h : n < 18446744073709551616) : Ev (fun _ => le_Put.f (n : Int) m) (ba (putN n (many8 m))) := Ev.congr (fun _ => put_eq n h m) (Ev.now _)
theorem step_put (kind a b n : Int) (l : List UInt8) (hl : l.length ≤ 100000000) (hn : 0 ≤ n ∧ n < 18446744073709551616) : Ev (fun k => step_Put.f k kind a b n (ba l)) (putS kind a b n l) := by
 have hr := step_right kind a b n l (by omega)
 unfold putS
 by_cases h : rightS kind a b l = true
 ·rw [if_pos h]
  rw [h] at hr
  refine Ev.bind hr ?_
  refine Ev.congr (fun k => if_pos rfl) ?_
  obtain ⟨⟨k1, k2⟩, ⟨a1, a2⟩, ⟨b1, b2⟩⟩ := rightS_bounds h
  obtain ⟨kk, rfl⟩ := Int.eq_ofNat_of_zero_le (show 0 ≤ kind by omega)
  obtain ⟨a, rfl⟩ := Int.eq_ofNat_of_zero_le a1
  obtain ⟨b, rfl⟩ := Int.eq_ofNat_of_zero_le b1
  obtain ⟨n, rfl⟩ := Int.eq_ofNat_of_zero_le hn.1
  simp only [Int.toNat_natCast]
  have hb := bodyS_length kk a b n l
  have hs := sealed_length (bodyS kk a b n l)
  refine Ev.congr (fun k => by rw [u64_nat kk (by omega), u64_nat a (by omega), u64_nat b (by omega)]) (Ev.bind (ev_put kk 1 (by omega)) ?_)
  refine Ev.bind (ev_put a 4 (by omega)) ?_
  refine Ev.congr (fun k => by rw [m1, m4]; simp only [ba_size, putN_length, ba_append]; rw [if_pos (by omega)]) (Ev.bind (ev_put b 4 (by omega)) ?_)
  refine Ev.congr (fun k => by rw [m4]; simp only [ba_size, putN_length, ba_append]; rw [if_pos (by omega)]) (Ev.bind (ev_put n 8 (by omega)) ?_)
  refine Ev.congr (fun k => by rw [m8]; simp only [ba_size, putN_length, ba_append]; rw [if_pos (by omega), if_pos (by omega), bodyS_is]) (Ev.bind (Ev.congr (fun _ => seal_body kk a b n l hl) (Ev.now _)) ?_)
  refine Ev.congr (fun k => by rw [ba_size, u64_nat _ (size_body kk a b n l hl)]) (Ev.bind (ev_put _ 2 (size_body kk a b n l hl)) ?_)
  refine Ev.congr (f := fun _ => some _) (fun k => ?_) (Ev.now _)
  rw [m2]
  simp only [ba_size, putN_length, ba_append]
  rw [if_pos (by omega)]
  unfold recordS
  trivial
 ·rw [if_neg h]
  rw [Bool.eq_false_iff.2 h] at hr
  refine Ev.bind hr ?_
  exact Ev.congr (fun k => by rw [if_neg (by decide)]; rfl) (Ev.now _)
theorem ref_step_put (kind a b n : Int) (l : List UInt8) (hl : l.length ≤ 100000000) (hn : 0 ≤ n ∧ n < 18446744073709551616) : Ev (fun k => r12_Put.f k kind a b n (ba l)) (putS kind a b n l) := by
 have hr := ref_step_right kind a b n l (by omega)
 unfold putS
 by_cases h : rightS kind a b l = true
 ·rw [if_pos h]
  rw [h] at hr
  refine Ev.bind hr ?_
  refine Ev.congr (fun k => if_pos rfl) ?_
  obtain ⟨⟨k1, k2⟩, ⟨a1, a2⟩, ⟨b1, b2⟩⟩ := rightS_bounds h
  obtain ⟨kk, rfl⟩ := Int.eq_ofNat_of_zero_le (show 0 ≤ kind by omega)
  obtain ⟨a, rfl⟩ := Int.eq_ofNat_of_zero_le a1
  obtain ⟨b, rfl⟩ := Int.eq_ofNat_of_zero_le b1
  obtain ⟨n, rfl⟩ := Int.eq_ofNat_of_zero_le hn.1
  simp only [Int.toNat_natCast]
  have hb := bodyS_length kk a b n l
  have hs := sealed_length (bodyS kk a b n l)
  refine Ev.congr (fun k => by rw [u64_nat kk (by omega), u64_nat a (by omega), u64_nat b (by omega)]) (Ev.bind (ref_put1 kk (by omega)) ?_)
  refine Ev.bind (ref_put4 a (by omega)) ?_
  refine Ev.congr (fun k => by simp only [ba_size, putN_length, ba_append]; rw [if_pos (by omega)]) (Ev.bind (ref_put4 b (by omega)) ?_)
  refine Ev.congr (fun k => by simp only [ba_size, putN_length, ba_append]; rw [if_pos (by omega)]) (Ev.bind (ref_put8 n (by omega)) ?_)
  refine Ev.congr (fun k => by simp only [ba_size, putN_length, ba_append]; rw [if_pos (by omega), if_pos (by omega), bodyS_is]) (Ev.bind (ref_seal_put _ (by omega)) ?_)
  refine Ev.congr (fun k => by rw [ba_size, u64_nat _ (by omega)]) (Ev.bind (ref_put2 _ (by omega)) ?_)
  refine Ev.congr (f := fun _ => some _) (fun k => ?_) (Ev.now _)
  simp only [ba_size, putN_length, ba_append]
  rw [if_pos (by omega)]
  unfold recordS
  trivial
 ·rw [if_neg h]
  rw [Bool.eq_false_iff.2 h] at hr
  refine Ev.bind hr ?_
  exact Ev.congr (fun k => by rw [if_neg (by decide)]; rfl) (Ev.now _)
def txtS (x : S24) : List UInt8 := x.f4.data.toList
def okT (x : S24) : Prop := (0 ≤ x.f3 ∧ x.f3 < 18446744073709551616) ∧ (txtS x).length ≤ 4000
def goodS (x : S24) : Bool := rightS x.f0 x.f1 x.f2 (txtS x)
def recS (x : S24) : List UInt8 := recordS x.f0.toNat x.f1.toNat x.f2.toNat x.f3.toNat (txtS x)
theorem recS_len (x : S24) : (recS x).length = 23 + (txtS x).length := recordS_length _ _ _ _ _
def putO (x : S24) : ByteArray × Int := if goodS x = true then (ba (recS x), 0) else (ba [], 1)
theorem ev_put24 (x : S24) (h : okT x) : Ev (fun k => step_Put.f k x.f0 x.f1 x.f2 x.f3 x.f4) (putO x) := by
 have := step_put x.f0 x.f1 x.f2 x.f3 (txtS x) (by have := h.2; omega) h.1
 unfold txtS at this
 rw [ba_data] at this
 exact this
def recsL (l : List S24) : List UInt8 := l.flatMap recS
theorem recsL_len : ∀ (l : List S24), (∀ x ∈ l, okT x) → (recsL l).length ≤ 4023 * l.length
 | [], _ => by simp [recsL]
 | x :: l, h => by
  have ih := recsL_len l (fun y hy => h y (List.mem_cons_of_mem _ hy))
  have hx := (h x List.mem_cons_self).2
  have := recS_len x
  unfold recsL at ih ⊢
  rw [List.flatMap_cons, List.length_append, List.length_cons]
  omega
def a26 (x : S24) : S26 := ⟨x.f0, x.f1, x.f2, x.f3, x.f4⟩
def a46 (g : S44) : S46 := ⟨g.f0, g.f1.map a26⟩
theorem rj24 (l : List S24) (i : Nat) (h : i < l.length) : rd_T24 l (i : Int) = l[i]'h := by
 unfold rd_T24
 rw [Int.toNat_natCast, List.getD_eq_getElem?_getD, List.getElem?_eq_getElem h]; rfl
theorem rj26 (l : List S24) (i : Nat) (h : i < l.length) : rd_T26 (l.map a26) (i : Int) = a26 (l[i]'h) := by
 unfold rd_T26
 rw [Int.toNat_natCast, List.getD_eq_getElem?_getD, List.getElem?_eq_getElem (by rw [List.length_map]; exact h), List.getElem_map]; rfl
theorem rj44 (l : List S44) (i : Nat) (h : i < l.length) : rd_T44 l (i : Int) = l[i]'h := by
 unfold rd_T44
 rw [Int.toNat_natCast, List.getD_eq_getElem?_getD, List.getElem?_eq_getElem h]; rfl
theorem rj46 (l : List S44) (i : Nat) (h : i < l.length) : rd_T46 (l.map a46) (i : Int) = a46 (l[i]'h) := by
 unfold rd_T46
 rw [Int.toNat_natCast, List.getD_eq_getElem?_getD, List.getElem?_eq_getElem (by rw [List.length_map]; exact h), List.getElem_map]; rfl
theorem wj (i : Nat) (h : i ≤ 1000000000) : wrap64 ((i : Int) + 1) = ((i + 1 : Nat) : Int) := by rw [w64 _ (by omega) (by omega)]; rfl
def cm (seq : Nat) : S24 := ⟨8, 0, 0, (seq : Int), ⟨#[]⟩⟩
theorem cm_ok (seq : Nat) (h : seq < 18446744073709551616) : okT (cm seq) := ⟨⟨by show (0 : Int) ≤ (seq : Int); omega, by show (seq : Int) < _; omega⟩, by show (0 : Nat) ≤ 4000; omega⟩
theorem cm_good (seq : Nat) : goodS (cm seq) = true := rfl
theorem ev_put26 (x : S24) (h : okT x) : Ev (fun k => r12_Put.f k (a26 x).f0 (a26 x).f1 (a26 x).f2 (a26 x).f3 (a26 x).f4) (putO x) := by
 have := ref_step_put x.f0 x.f1 x.f2 x.f3 (txtS x) (by have := h.2; omega) h.1
 unfold txtS at this
 rw [ba_data] at this
 exact this
theorem puts_g : ∀ (l : List S24) (acc : List UInt8), (∀ x ∈ l, okT x) → l.length ≤ 100000 → acc.length + 4023 * l.length ≤ 1000000000 →
  Ev (fun k => journal_put.g k l (ba acc)) (if l.all goodS = true then (ba (acc ++ recsL l), 0) else (ba [], 1))
 | [], acc, _, _, _ => by
  refine Ev.congr (f := fun _ => some _) (fun k => ?_) (Ev.now _)
  rw [journal_put.g]
  simp [recsL]
 | x :: l, acc, h, hl, hb => by
  have hx := h x List.mem_cons_self
  have hr := recS_len x
  have hx2 := hx.2
  simp only [List.length_cons] at hl hb
  refine Ev.congr (fun k => by rw [journal_put.g]) ?_
  refine Ev.bind (ev_put24 x hx) ?_
  unfold putO
  cases hg : goodS x with
  | true =>
   have ih := puts_g l (acc ++ recS x) (fun y hy => h y (List.mem_cons_of_mem _ hy)) (by omega) (by rw [List.length_append]; omega)
   rw [if_pos rfl]
   refine Ev.congr (fun k => ?_) (show Ev (fun k => journal_put.g k l (ba (acc ++ recS x))) _ from ?_)
   ·simp only
    rw [if_pos trivial, if_pos (by rw [ba_size, ba_size]; omega), ba_append]
   ·rw [List.all_cons, hg, Bool.true_and]
    unfold recsL at ih ⊢
    rw [List.flatMap_cons, ← List.append_assoc]
    exact ih
  | false =>
   rw [if_neg (by decide), List.all_cons, hg, Bool.false_and]
   refine Ev.congr (f := fun _ => some (ba [], 1)) (fun k => ?_) (Ev.now _)
   simp only
   rw [if_neg (by decide)]
   rfl
theorem puts (l : List S24) (h : ∀ x ∈ l, okT x) (hl : l.length ≤ 100000) : Ev (fun k => journal_put.f k l) (if l.all goodS = true then (ba (recsL l), 0) else (ba [], 1)) := by
 have := puts_g l [] h hl (by simp; omega)
 rw [List.nil_append] at this
 refine Ev.congr (fun k => ?_) this
 unfold journal_put.f
 rw [if_pos (by omega)]
 rfl
def closedP (seq : Nat) (l : List S24) : Option (List UInt8) := if l.any isCommit = true ∨ l.all goodS = false then none else some (recsL l ++ recS (cm seq))
def closedO (seq : Nat) (l : List S24) : ByteArray × Int := match closedP seq l with | none => (ba [], 1) | some b => (ba b, 0)
theorem ev_closed (seq : Nat) (l : List S24) (hs : seq < 18446744073709551616) (h : ∀ x ∈ l, okT x) (hl : l.length ≤ 10000) : Ev (fun k => journal_closed.f k (seq : Int) l) (closedO seq l) := by
 unfold closedO closedP
 have e1 : step_Step_contains.f l = some (l.any isCommit) := if_pos (by omega)
 have e2 : step_Step.f l = some l := if_pos (by omega)
 refine Ev.congr (fun k => by unfold journal_closed.f; rw [e1, Option.bind_some, e2, Option.bind_some]) ?_
 cases hc : l.any isCommit with
 | true =>
  refine Ev.congr (f := fun _ => some (ba [], 1)) (fun k => ?_) (by simp only [true_or, if_true]; exact Ev.now _)
  rw [if_pos rfl]
  rfl
 | false =>
  have hp := puts (l ++ [cm seq]) (fun x hx => by
   rcases List.mem_append.1 hx with hx | hx
   ·exact h x hx
   ·rw [List.mem_singleton.1 hx]; exact cm_ok seq hs) (by simp; omega)
  have ea : (l ++ [cm seq]).all goodS = l.all goodS := by rw [List.all_append, List.all_cons, cm_good]; simp
  have er : recsL (l ++ [cm seq]) = recsL l ++ recS (cm seq) := by unfold recsL; rw [List.flatMap_append]; simp
  rw [ea, er] at hp
  have key : Ev (fun k => (journal_put.f k (l ++ [cm seq])).bind fun b => some (b.1, b.2)) (match if false = true ∨ l.all goodS = false then none else some (recsL l ++ recS (cm seq)) with | none => (ba [], 1) | some b => (ba b, 0)) := by
   refine Ev.bind hp ?_
   cases l.all goodS with
   | true => exact Ev.now _
   | false => exact Ev.now _
  refine Ev.congr (fun k => ?_) key
  rw [if_neg (by simp), Option.bind_some, if_pos (by simp only [List.length_singleton]; omega)]
  rfl
theorem ref_bytes_l (seq : Nat) (l : List S24) (hs : seq < 18446744073709551616) (h : ∀ x ∈ l, okT x) (hl : l.length ≤ 10000) : ∀ (d i : Nat) (acc : List UInt8), i + d = l.length → acc.length ≤ 4023 * i →
  Ev (fun k => r13_bytes.l0 k (ba acc) (i : Int) (seq : Int) (l.map a26)) (if (l.drop i).any isCommit = true ∨ (l.drop i).all goodS = false then (ba [], 1) else (ba (acc ++ recsL (l.drop i) ++ recS (cm seq)), 0)) := by
 intro d
 induction d with
 | zero =>
  intro i acc hi ha
  have hc := ev_put26 (cm seq) (cm_ok seq hs)
  have hr := recS_len (cm seq)
  rw [List.drop_eq_nil_of_le (by omega)]
  refine Ev.step (f := fun k => (r12_Put.f k (a26 (cm seq)).f0 (a26 (cm seq)).f1 (a26 (cm seq)).f2 (a26 (cm seq)).f3 (a26 (cm seq)).f4).bind fun bt => if (ba acc).size + bt.1.size ≤ 9223372036854775807 then some (ba acc ++ bt.1, 0) else none) (fun k => ?_) ?_
  ·simp only [r13_bytes.l0]
   rw [if_neg (by rw [List.length_map]; omega)]
   rfl
  ·refine Ev.bind hc ?_
   refine Ev.congr (f := fun _ => some _) (fun k => ?_) (Ev.now _)
   unfold putO
   rw [if_pos (cm_good seq)]
   simp only
   have : (txtS (cm seq)).length = 0 := rfl
   rw [ba_size, ba_size, if_pos (by omega), ba_append]
   simp [recsL]
 | succ d ih =>
  intro i acc hi ha
  have hlt : i < l.length := by omega
  have hx := h _ (List.getElem_mem hlt)
  have hr := recS_len (l[i]'hlt)
  have hx2 := hx.2
  have hp := ev_put26 (l[i]'hlt) hx
  rw [List.drop_eq_getElem_cons hlt, List.any_cons, List.all_cons]
  refine Ev.step (f := fun k => (r12_Put.f k (a26 (l[i]'hlt)).f0 (a26 (l[i]'hlt)).f1 (a26 (l[i]'hlt)).f2 (a26 (l[i]'hlt)).f3 (a26 (l[i]'hlt)).f4).bind fun bt =>
   if bt.2 = 0 then (if (a26 (l[i]'hlt)).f0 = 8 then some ((⟨#[]⟩ : ByteArray), 1) else (if (ba acc).size + bt.1.size ≤ 9223372036854775807 then r13_bytes.l0 k (ba acc ++ bt.1) ((i + 1 : Nat) : Int) (seq : Int) (l.map a26) else none)) else some ((⟨#[]⟩ : ByteArray), 1)) (fun k => ?_) ?_
  ·simp only [r13_bytes.l0]
   rw [if_pos (by rw [List.length_map]; omega), if_pos (by omega), rj26 l i hlt, wj i (by omega)]
  ·cases hg : goodS (l[i]'hlt) with
   | false =>
    have e : putO (l[i]'hlt) = (ba [], 1) := by unfold putO; rw [if_neg (by rw [hg]; decide)]
    rw [e] at hp
    refine Ev.bind hp ?_
    refine Ev.congr (f := fun _ => some (ba [], 1)) (fun k => ?_) (by simp only [Bool.false_and, or_true, if_true]; exact Ev.now _)
    simp only
    rw [if_neg (by decide)]
    rfl
   | true =>
    have e : putO (l[i]'hlt) = (ba (recS (l[i]'hlt)), 0) := by unfold putO; rw [if_pos hg]
    rw [e] at hp
    refine Ev.bind hp ?_
    cases hc : isCommit (l[i]'hlt) with
    | true =>
     have h8 : (a26 (l[i]'hlt)).f0 = 8 := by
      unfold isCommit at hc
      exact beq_iff_eq.1 hc
     refine Ev.congr (f := fun _ => some (ba [], 1)) (fun k => ?_) (by simp only [Bool.true_or, true_or, if_true]; exact Ev.now _)
     simp only
     rw [if_pos trivial, if_pos h8]
     rfl
    | false =>
     have h8 : ¬ (a26 (l[i]'hlt)).f0 = 8 := by
      unfold isCommit at hc
      exact beq_eq_false_iff_ne.1 hc
     have hE := ih (i + 1) (acc ++ recS (l[i]'hlt)) (by omega) (by rw [List.length_append]; omega)
     simp only [Bool.false_or, Bool.true_and]
     refine Ev.congr (fun k => ?_) (show Ev (fun k => r13_bytes.l0 k (ba (acc ++ recS (l[i]'hlt))) ((i + 1 : Nat) : Int) (seq : Int) (l.map a26)) _ from ?_)
     ·rw [if_pos trivial, if_neg h8, ba_size, ba_size, if_pos (by omega), ba_append]
     ·have e : acc ++ recsL (l[i]'hlt :: l.drop (i + 1)) = acc ++ recS (l[i]'hlt) ++ recsL (l.drop (i + 1)) := by unfold recsL; rw [List.flatMap_cons, List.append_assoc]
      rw [e]
      exact hE
theorem ev_bytes (seq : Nat) (l : List S24) (hs : seq < 18446744073709551616) (h : ∀ x ∈ l, okT x) (hl : l.length ≤ 10000) : Ev (fun k => r13_bytes.f k (seq : Int) (l.map a26)) (closedO seq l) := by
 have hE := ref_bytes_l seq l hs h hl l.length 0 [] (by omega) (by simp)
 rw [List.drop_zero, List.nil_append] at hE
 unfold closedO closedP
 have e : (match if l.any isCommit = true ∨ l.all goodS = false then none else some (recsL l ++ recS (cm seq)) with | none => (ba [], (1 : Int)) | some b => (ba b, 0)) = if l.any isCommit = true ∨ l.all goodS = false then (ba [], 1) else (ba (recsL l ++ recS (cm seq)), 0) := by
  split <;> rename_i hh <;> split at hh <;> rename_i hc
  ·rw [if_pos hc]
  ·cases hh
  ·cases hh
  ·cases hh; rw [if_neg hc]
 rw [e]
 exact hE
structure LogP where
 seq : Nat
 gr : List S44
 by_ : List UInt8
def zeroL : LogP := ⟨0, [], []⟩
def LogP.out (s : LogP) (e : Int) : Int × List S44 × ByteArray × Int := ((s.seq : Int), s.gr, ba s.by_, e)
def LogP.outR (s : LogP) (e : Int) : Int × List S46 × ByteArray × Int := ((s.seq : Int), s.gr.map a46, ba s.by_, e)
def withP (s : LogP) (seq : Nat) (l : List S24) : LogP × Int := match closedP seq l with | none => (zeroL, 1) | some b => (⟨seq, s.gr ++ [⟨(seq : Int), l⟩], s.by_ ++ b⟩, 0)
theorem closedP_len {seq : Nat} {l : List S24} {b : List UInt8} (h : ∀ x ∈ l, okT x) (hb : closedP seq l = some b) : b.length ≤ 4023 * l.length + 23 := by
 unfold closedP at hb
 split at hb
 ·cases hb
 ·cases hb
  have := recsL_len l h
  have h2 := recS_len (cm seq)
  have h3 : (txtS (cm seq)).length = 0 := rfl
  rw [List.length_append]
  omega
theorem ev_with (s : LogP) (a0 : Int) (seq : Nat) (l : List S24) (hs : seq < 18446744073709551616) (h : ∀ x ∈ l, okT x) (hl : l.length ≤ 10000) (hg : s.gr.length ≤ 100000) (hb : s.by_.length ≤ 1000000000) :
  Ev (fun k => journal_Log_with.f k a0 s.gr (ba s.by_) (seq : Int) l) ((withP s seq l).1.out (withP s seq l).2) := by
 refine Ev.bind (ev_closed seq l hs h hl) ?_
 unfold closedO withP
 cases hc : closedP seq l with
 | none =>
  refine Ev.congr (f := fun _ => some _) (fun k => ?_) (Ev.now _)
  simp only
  rw [if_neg (by decide)]
  rfl
 | some b =>
  have hbl := closedP_len h hc
  refine Ev.congr (f := fun _ => some _) (fun k => ?_) (Ev.now _)
  simp only
  unfold step_Step.f step_Group.f
  rw [if_pos trivial, if_pos (by omega), Option.bind_some, if_pos (by omega), Option.bind_some, Option.bind_some, if_pos (by simp only [List.length_singleton]; omega), ba_size, ba_size, if_pos (by omega), ba_append]
  rfl
def newP (seq : Nat) (l : List S24) : LogP × Int := withP zeroL seq l
theorem ev_new (seq : Nat) (l : List S24) (hs : seq < 18446744073709551616) (h : ∀ x ∈ l, okT x) (hl : l.length ≤ 10000) : Ev (fun k => journal_New.f k (seq : Int) l) ((newP seq l).1.out (newP seq l).2) := by
 exact Ev.bind (ev_with zeroL 0 seq l hs h hl (by simp [zeroL]) (by simp [zeroL])) (Ev.now _)
def addP (s : LogP) (l : List S24) : LogP × Int :=
 if (withP s ((s.seq + 1) % 18446744073709551616) l).2 = 0 then (if s.seq = 18446744073709551615 then (zeroL, 14) else ((withP s ((s.seq + 1) % 18446744073709551616) l).1, 0)) else (zeroL, (withP s ((s.seq + 1) % 18446744073709551616) l).2)
theorem wrapU (n : Nat) : IntKind.u64.wrap ((n : Int) + 1) = (((n + 1) % 18446744073709551616 : Nat) : Int) := by
 simp [IntKind.wrap, IntKind.bits, IntKind.signed]
theorem ev_add (s : LogP) (l : List S24) (h : ∀ x ∈ l, okT x) (hl : l.length ≤ 10000) (hg : s.gr.length ≤ 100000) (hb : s.by_.length ≤ 1000000000) :
  Ev (fun k => journal_Add.f k (s.seq : Int) s.gr (ba s.by_) l) ((addP s l).1.out (addP s l).2) := by
 have hw := ev_with s (s.seq : Int) ((s.seq + 1) % 18446744073709551616) l (Nat.mod_lt _ (by decide)) h hl hg hb
 unfold addP
 generalize withP s ((s.seq + 1) % 18446744073709551616) l = W at hw
 obtain ⟨t, e⟩ := W
 refine Ev.congr (fun k => by unfold journal_Add.f; rw [wrapU]) ?_
 refine Ev.bind hw ?_
 refine Ev.congr (f := fun _ => some _) (fun k => ?_) (Ev.now _)
 change (if e = 0 then (if (s.seq : Int) = 18446744073709551615 then some ((0 : Int), ([] : List S44), (⟨#[]⟩ : ByteArray), (14 : Int)) else some ((t.seq : Int), t.gr, ba t.by_, 0)) else some (0, [], ⟨#[]⟩, e)) = some ((if e = 0 then (if s.seq = 18446744073709551615 then (zeroL, (14 : Int)) else (t, 0)) else (zeroL, e)).1.out (if e = 0 then (if s.seq = 18446744073709551615 then (zeroL, (14 : Int)) else (t, 0)) else (zeroL, e)).2)
 by_cases he : e = 0
 ·rw [if_pos he, if_pos he]
  by_cases hm : s.seq = 18446744073709551615
  ·rw [if_pos hm, if_pos (by omega)]; rfl
  ·rw [if_neg hm, if_neg (by omega)]; rfl
 ·rw [if_neg he, if_neg he]; rfl
theorem sameS_yes_l (l : List S24) (h : l.length ≤ 1000000) : ∀ (d i : Nat), i + d = l.length → Ev (fun k => l13_sameSteps.l0 k l (l.map a26) (i : Int)) true := by
 intro d
 induction d with
 | zero =>
  intro i hi
  refine Ev.step (f := fun _ => some _) (fun k => ?_) (Ev.now _)
  simp only [l13_sameSteps.l0]
  rw [if_neg (by omega)]
 | succ d ih =>
  intro i hi
  have hlt : i < l.length := by omega
  have hr := rj24 l i hlt
  have hr' := rj26 l i hlt
  have hE := ih (i + 1) (by omega)
  generalize l[i]'hlt = x at hr hr'
  refine Ev.step (fun k => ?_) hE
  simp only [l13_sameSteps.l0]
  rw [if_pos (by omega), if_pos (by omega), if_pos (by rw [List.length_map]; omega), hr, hr', wj i (by omega)]
  exact (if_pos rfl).trans ((if_pos rfl).trans ((if_pos rfl).trans ((if_pos rfl).trans (if_pos rfl))))
theorem sameS_yes (l : List S24) (h : l.length ≤ 1000000) : Ev (fun k => l13_sameSteps.f k l (l.map a26)) true := by
 refine Ev.congr (fun k => ?_) (sameS_yes_l l h l.length 0 (by omega))
 unfold l13_sameSteps.f
 rw [if_pos (by rw [List.length_map])]
 rfl
def okL (s : LogP) : Prop := s.gr.length ≤ 100000 ∧ s.by_.length ≤ 1000000000 ∧ s.seq < 18446744073709551616 ∧ ∀ g ∈ s.gr, g.f1.length ≤ 1000000
theorem sameG_yes_l (s : LogP) (hs : okL s) : ∀ (d i : Nat), i + d = s.gr.length → Ev (fun k => l13_same.l0 k (i : Int) (s.seq : Int) s.gr (ba s.by_) (s.seq : Int) (s.gr.map a46) (ba s.by_)) true := by
 intro d
 induction d with
 | zero =>
  intro i hi
  refine Ev.step (f := fun _ => some _) (fun k => ?_) (Ev.now _)
  simp only [l13_same.l0]
  rw [if_neg (by omega)]
 | succ d ih =>
  intro i hi
  have hlt : i < s.gr.length := by omega
  have hr := rj44 s.gr i hlt
  have hr' := rj46 s.gr i hlt
  have hg := hs.2.2.2 _ (List.getElem_mem hlt)
  have hi9 := hs.1
  have hE := ih (i + 1) (by omega)
  generalize s.gr[i]'hlt = x at hr hr' hg
  refine Ev.step (f := fun k => (l13_sameSteps.f k x.f1 (x.f1.map a26)).bind fun t478 => if t478 = true then l13_same.l0 k ((i + 1 : Nat) : Int) (s.seq : Int) s.gr (ba s.by_) (s.seq : Int) (s.gr.map a46) (ba s.by_) else none) (fun k => ?_) (Ev.bind (sameS_yes x.f1 hg) (Ev.congr (fun k => by rw [if_pos rfl]) hE))
  simp only [l13_same.l0]
  rw [if_pos (by omega), if_pos (by omega), if_pos (by rw [List.length_map]; omega), hr, hr', wj i (by omega)]
  exact if_pos rfl
theorem sameG_yes (s : LogP) (hs : okL s) : Ev (fun k => l13_same.f k (s.seq : Int) s.gr (ba s.by_) (s.seq : Int) (s.gr.map a46) (ba s.by_)) true := by
 refine Ev.congr (f := fun k => l13_same.j0 k false (s.seq : Int) s.gr (ba s.by_) (s.seq : Int) (s.gr.map a46) (ba s.by_)) (fun k => ?_) (Ev.step (fun k => ?_) (sameG_yes_l s hs s.gr.length 0 (by omega)))
 ·unfold l13_same.f
  rw [if_pos rfl, if_pos rfl, List.length_map, bne_self_eq_false]
 ·simp only [l13_same.j0]
  rw [if_neg (by decide)]
  rfl
def okM (m : Nat) (s : LogP) : Prop := s.gr.length ≤ m ∧ s.by_.length ≤ 250000 * m ∧ s.seq < 18446744073709551616 ∧ ∀ g ∈ s.gr, g.f1.length ≤ 60
theorem okM_zero (m : Nat) : okM m zeroL := ⟨Nat.zero_le _, Nat.zero_le _, by decide, fun g hg => by cases hg⟩
theorem okM_with {m : Nat} {s : LogP} (h : okM m s) (seq : Nat) (l : List S24) (hs : seq < 18446744073709551616) (hl : l.length ≤ 60) (ho : ∀ x ∈ l, okT x) : okM (m + 1) (withP s seq l).1 := by
 unfold withP
 cases hc : closedP seq l with
 | none => exact okM_zero _
 | some b =>
  have hb := closedP_len ho hc
  obtain ⟨h1, h2, h3, h4⟩ := h
  refine ⟨by simp; omega, by simp; omega, hs, fun g hg => ?_⟩
  rcases List.mem_append.1 hg with hg | hg
  ·exact h4 g hg
  ·rw [List.mem_singleton.1 hg]; exact hl
theorem okM_add {m : Nat} {s : LogP} (h : okM m s) (l : List S24) (hl : l.length ≤ 60) (ho : ∀ x ∈ l, okT x) : okM (m + 1) (addP s l).1 := by
 unfold addP
 split
 ·split
  ·exact okM_zero _
  ·exact okM_with h _ l (Nat.mod_lt _ (by decide)) hl ho
 ·exact okM_zero _
def afterP (gr : List S44) (seq : Int) : List S24 := gr.flatMap fun g => if g.f0 > seq then g.f1 else []
theorem after_l (gr : List S44) (seq : Int) (h : gr.length ≤ 1000) (hg : ∀ g ∈ gr, g.f1.length ≤ 60) : ∀ (d i : Nat) (acc : List S24), i + d = gr.length → acc.length ≤ 60 * i →
  Ev (fun k => journal_After.l0 k seq acc gr (gr.length : Int) (i : Int)) (acc ++ afterP (gr.drop i) seq) := by
 intro d
 induction d with
 | zero =>
  intro i acc hi ha
  rw [List.drop_eq_nil_of_le (by omega)]
  refine Ev.step (f := fun _ => some _) (fun k => ?_) (Ev.now _)
  simp only [journal_After.l0]
  rw [if_neg (by omega)]
  simp [afterP]
 | succ d ih =>
  intro i acc hi ha
  have hlt : i < gr.length := by omega
  have hx := hg _ (List.getElem_mem hlt)
  have hr := rj44 gr i hlt
  rw [List.drop_eq_getElem_cons hlt]
  generalize gr[i]'hlt = x at hx hr
  unfold afterP
  rw [List.flatMap_cons]
  by_cases hs : x.f0 > seq
  ·have hE := ih (i + 1) (acc ++ x.f1) (by omega) (by rw [List.length_append]; omega)
   rw [if_pos hs, ← List.append_assoc]
   refine Ev.step (fun k => ?_) hE
   simp only [journal_After.l0]
   rw [if_pos (by omega), if_pos (by omega), if_pos (by omega), hr, if_pos hs, if_pos (by omega), wj i (by omega)]
  ·have hE := ih (i + 1) acc (by omega) (by omega)
   rw [if_neg hs, List.nil_append]
   refine Ev.step (fun k => ?_) hE
   simp only [journal_After.l0]
   rw [if_pos (by omega), if_pos (by omega), if_pos (by omega), hr, if_neg hs, wj i (by omega)]
theorem ev_after (s : LogP) (seq : Int) (h : s.gr.length ≤ 1000) (hg : ∀ g ∈ s.gr, g.f1.length ≤ 60) : Ev (fun k => journal_After.f k (s.seq : Int) s.gr (ba s.by_) seq) (afterP s.gr seq) := by
 have hE := after_l s.gr seq h hg s.gr.length 0 [] (by omega) (by simp)
 rw [List.nil_append, List.drop_zero] at hE
 exact hE
theorem shown13 : Ev (fun k => l13_shown.f k) true := by
 have o1 : ∀ x ∈ [(⟨3, 1, 0, 0, ⟨#[]⟩⟩ : S24)], okT x := fun x hx => by rw [List.mem_singleton.1 hx]; exact ⟨by decide, by decide⟩
 have o2 : ∀ x ∈ [(⟨3, 2, 0, 0, ⟨#[]⟩⟩ : S24)], okT x := fun x hx => by rw [List.mem_singleton.1 hx]; exact ⟨by decide, by decide⟩
 have o3 : ∀ x ∈ [(⟨3, 3, 0, 0, ⟨#[]⟩⟩ : S24)], okT x := fun x hx => by rw [List.mem_singleton.1 hx]; exact ⟨by decide, by decide⟩
 have b0 : okM 1 (newP 5 [(⟨3, 1, 0, 0, ⟨#[]⟩⟩ : S24)]).1 := okM_with (okM_zero 0) 5 _ (by decide) (by decide) o1
 have c0 : (newP 5 [(⟨3, 1, 0, 0, ⟨#[]⟩⟩ : S24)]).2 = 0 ∧ (newP 5 [(⟨3, 1, 0, 0, ⟨#[]⟩⟩ : S24)]).1.seq = 5 ∧ (newP 5 [(⟨3, 1, 0, 0, ⟨#[]⟩⟩ : S24)]).1.gr = [⟨5, [⟨3, 1, 0, 0, ⟨#[]⟩⟩]⟩] := ⟨rfl, rfl, rfl⟩
 have h1 := ev_new 5 [⟨3, 1, 0, 0, ⟨#[]⟩⟩] (by decide) o1 (by decide)
 generalize newP 5 [(⟨3, 1, 0, 0, ⟨#[]⟩⟩ : S24)] = W1 at b0 c0 h1
 obtain ⟨s1, e1⟩ := W1
 obtain ⟨d0, d1, d2⟩ := c0
 simp only at d0 d1 d2 b0 h1
 have h2 := ev_add s1 [⟨3, 2, 0, 0, ⟨#[]⟩⟩] o2 (by decide) (by rw [d2]; decide) (by have := b0.2.1; omega)
 have b1 := okM_add b0 [(⟨3, 2, 0, 0, ⟨#[]⟩⟩ : S24)] (by decide) o2
 have c1 : (addP s1 [(⟨3, 2, 0, 0, ⟨#[]⟩⟩ : S24)]).2 = 0 ∧ (addP s1 [(⟨3, 2, 0, 0, ⟨#[]⟩⟩ : S24)]).1.seq = 6 ∧ (addP s1 [(⟨3, 2, 0, 0, ⟨#[]⟩⟩ : S24)]).1.gr = s1.gr ++ [⟨6, [⟨3, 2, 0, 0, ⟨#[]⟩⟩]⟩] := by
  unfold addP withP
  rw [d1]
  exact ⟨rfl, rfl, rfl⟩
 generalize addP s1 [(⟨3, 2, 0, 0, ⟨#[]⟩⟩ : S24)] = W2 at b1 c1 h2
 obtain ⟨s2, e2⟩ := W2
 obtain ⟨f0, f1, f2⟩ := c1
 simp only at f0 f1 f2 b1 h2
 have h3 := ev_add s2 [⟨3, 3, 0, 0, ⟨#[]⟩⟩] o3 (by decide) (by have := b1.1; omega) (by have := b1.2.1; omega)
 have b2 := okM_add b1 [(⟨3, 3, 0, 0, ⟨#[]⟩⟩ : S24)] (by decide) o3
 have c2 : (addP s2 [(⟨3, 3, 0, 0, ⟨#[]⟩⟩ : S24)]).2 = 0 ∧ (addP s2 [(⟨3, 3, 0, 0, ⟨#[]⟩⟩ : S24)]).1.seq = 7 ∧ (addP s2 [(⟨3, 3, 0, 0, ⟨#[]⟩⟩ : S24)]).1.gr = s2.gr ++ [⟨7, [⟨3, 3, 0, 0, ⟨#[]⟩⟩]⟩] := by
  unfold addP withP
  rw [f1]
  exact ⟨rfl, rfl, rfl⟩
 generalize addP s2 [(⟨3, 3, 0, 0, ⟨#[]⟩⟩ : S24)] = W3 at b2 c2 h3
 obtain ⟨s3, e3⟩ := W3
 obtain ⟨g0, g1, g2⟩ := c2
 simp only at g0 g1 g2 b2 h3
 have h4 := ev_after s3 6 (by have := b2.1; omega) b2.2.2.2
 have ha : afterP s3.gr 6 = [⟨3, 3, 0, 0, ⟨#[]⟩⟩] := by rw [g2, f2, d2]; rfl
 rw [ha] at h4
 refine Ev.bind h1 ?_
 refine Ev.bind h2 ?_
 refine Ev.bind h3 ?_
 refine Ev.bind h4 ?_
 refine Ev.congr (f := fun _ => some true) (fun k => ?_) (Ev.now _)
 exact (if_pos d0).trans ((if_pos f0).trans ((if_pos g0).trans ((if_pos (show (s3.seq : Int) = 7 by omega)).trans rfl)))
theorem getN_eq (l : List UInt8) : getN l = getB l := by
 induction l with
 | nil => rfl
 | cons c l ih => simp [getN, getB, ih]
theorem get_eq (l : List UInt8) : le_Get.f (ba l) = some ((getB (l.take 8) : Nat) : Int) := by
 unfold le_Get.f
 rw [ba_list, getN_eq]
def unsealed (l : List UInt8) : List UInt8 × Int :=
 if l.length < 4 then ([], 10) else if getB (l.drop (l.length - 4)) = (crc (l.take (l.length - 4))).toNat then (l.take (l.length - 4), 0) else ([], 9)
theorem seal_take_eq (l : List UInt8) (h : l.length ≤ 1000000000) : seal_Take.f (ba l) = some (ba (unsealed l).1, (unsealed l).2) := by
 unfold seal_Take.f unsealed
 rw [ba_size, w64 _ (by omega) (by omega)]
 by_cases h4 : l.length < 4
 ·rw [if_pos (by omega), if_pos h4]; rfl
 ·have e : ((l.length : Int) - 4).toNat = l.length - 4 := by omega
  rw [if_neg (by omega), if_neg h4, if_pos (by omega), if_pos (by omega), e, ← ba_size, ba_drop, ba_size, get_eq, Option.bind_some, ba_take, sum_eq _ (by rw [List.length_take]; omega), Option.bind_some,
   u64_nat _ (by have := (crc (l.take (l.length - 4))).isLt; omega), List.take_of_length_le (by rw [List.length_drop]; omega)]
  by_cases hc : getB (l.drop (l.length - 4)) = (crc (l.take (l.length - 4))).toNat
  ·rw [if_pos (by rw [hc]), if_pos hc]
  ·rw [if_neg (by omega), if_neg hc]; rfl
theorem unsealed_sealed (l : List UInt8) : unsealed (sealed l) = (l, 0) := by
 unfold unsealed
 have h4 : (sealed l).length - 4 = l.length := by rw [sealed_length]; omega
 rw [if_neg (by rw [sealed_length]; omega), h4]
 unfold sealed
 rw [List.drop_left, List.take_left, getB_putN, if_pos]
 have := (crc l).isLt
 omega
theorem sealed_unsealed (l : List UInt8) (h : (unsealed l).2 = 0) : sealed (unsealed l).1 = l ∧ (unsealed l).1.length + 4 = l.length := by
 unfold unsealed at h ⊢
 split at h
 ·cases h
 ·rename_i h4
  rw [if_neg h4]
  split at h
  ·rename_i hc
   rw [if_pos hc]
   refine ⟨?_, by show (l.take _).length + 4 = _; rw [List.length_take]; omega⟩
   show sealed (l.take (l.length - 4)) = l
   unfold sealed
   rw [← hc]
   have h1 := putN_getB (l.drop (l.length - 4))
   rw [List.length_drop, show l.length - (l.length - 4) = 4 by omega] at h1
   rw [h1, List.take_append_drop]
  ·cases h
theorem txt_ok (l : List UInt8) (n : Nat) (h : n ≤ l.length) : le_Reader_Text.f (ba l) false (n : Int) = some (ba (l.take n), ba (l.drop n), false) := by
 unfold le_Reader_Text.f
 rw [if_neg (by decide), if_neg (by omega), ba_size, if_neg (by omega), if_pos (by omega), if_pos (by omega), Int.toNat_natCast, ba_take, ← ba_size, ba_drop, decide_eq_false (by rw [ba_size]; omega)]
theorem txt_short (l : List UInt8) (n : Nat) (h : l.length < n) : le_Reader_Text.f (ba l) false (n : Int) = some (ba [], ba l, true) := by
 unfold le_Reader_Text.f
 rw [if_neg (by decide), if_neg (by omega), ba_size, if_pos (by omega), decide_eq_true (by omega)]
 rfl
theorem txt_true (l : List UInt8) (n : Int) : le_Reader_Text.f (ba l) true n = some (ba [], ba l, true) := by
 unfold le_Reader_Text.f
 rw [if_pos rfl]
 rfl
theorem num_ok (l : List UInt8) (m : Nat) (hm : m ≤ 8) (h : m ≤ l.length) : le_Reader_Number.f (ba l) false (m : Int) = some (((getB (l.take m) : Nat) : Int), ba (l.drop m), false) := by
 unfold le_Reader_Number.f
 rw [if_neg (by omega), txt_ok l m h, Option.bind_some, get_eq, Option.bind_some, List.take_take, Nat.min_eq_right hm]
theorem num_short (l : List UInt8) (m : Nat) (hm : m ≤ 8) (h : l.length < m) : le_Reader_Number.f (ba l) false (m : Int) = some (0, ba l, true) := by
 unfold le_Reader_Number.f
 rw [if_neg (by omega), txt_short l m h, Option.bind_some, get_eq, Option.bind_some]
 rfl
theorem num_true (l : List UInt8) (m : Nat) (hm : m ≤ 8) : le_Reader_Number.f (ba l) true (m : Int) = some (0, ba l, true) := by
 unfold le_Reader_Number.f
 rw [if_neg (by omega), txt_true l, Option.bind_some, get_eq, Option.bind_some]
 rfl
structure Took where
 kind : Nat
 a : Nat
 b : Nat
 n : Nat
 text : List UInt8
 rest : List UInt8
 err : Int
def none_ (e : Int) : Took := ⟨0, 0, 0, 0, [], [], e⟩
def bodyT (t rest : List UInt8) : Took :=
 if t.length < 17 then none_ 2
 else if rightS (getB (t.take 1)) (getB ((t.drop 1).take 4)) (getB ((t.drop 5).take 4)) (t.drop 17) = true then
  ⟨getB (t.take 1), getB ((t.drop 1).take 4), getB ((t.drop 5).take 4), getB ((t.drop 9).take 8), t.drop 17, rest, 0⟩ else none_ 2
def takeS (s : List UInt8) : Took :=
 if s.length < 2 then none_ 10
 else if s.length < 2 + getB (s.take 2) then none_ 10
 else if (unsealed ((s.drop 2).take (getB (s.take 2)))).2 = 0 then bodyT (unsealed ((s.drop 2).take (getB (s.take 2)))).1 (s.drop (2 + getB (s.take 2)))
 else none_ (unsealed ((s.drop 2).take (getB (s.take 2)))).2
def Took.out (x : Took) : Int × Int × Int × Int × ByteArray × ByteArray × Int := ((x.kind : Int), (x.a : Int), (x.b : Int), (x.n : Int), ba x.text, ba x.rest, x.err)
def tailF (k : Nat) (t rest : ByteArray) : Option (Int × Int × Int × Int × ByteArray × ByteArray × Int) :=
 (le_Reader_Number.f t false 1).bind fun q1 => (le_Reader_Number.f q1.2.1 q1.2.2 4).bind fun q2 => (le_Reader_Number.f q2.2.1 q2.2.2 4).bind fun q3 =>
  (le_Reader_Number.f q3.2.1 q3.2.2 8).bind fun q4 => (le_Reader_Text.f q4.2.1 q4.2.2 (q4.2.1.size : Int)).bind fun x =>
  if x.2.2 = true then some (0, 0, 0, 0, ⟨#[]⟩, ⟨#[]⟩, 2) else (step_Right.f k (wrap64 q1.1) (wrap64 q2.1) (wrap64 q3.1) q4.1 x.1).bind fun ok =>
  if ok = true then some (wrap64 q1.1, wrap64 q2.1, wrap64 q3.1, q4.1, x.1, rest, 0) else some (0, 0, 0, 0, ⟨#[]⟩, ⟨#[]⟩, 2)
theorem take_tail (k : Nat) (s : ByteArray) : step_Take.f k s = (le_Reader_Number.f s false 2).bind fun n1 => (le_Reader_Text.f n1.2.1 n1.2.2 (wrap64 n1.1)).bind fun t1 =>
 if t1.2.2 = true then some (0, 0, 0, 0, ⟨#[]⟩, ⟨#[]⟩, 10) else (seal_Take.f t1.1).bind fun s1 =>
 if s1.2 = 0 then tailF k s1.1 t1.2.1 else some (0, 0, 0, 0, ⟨#[]⟩, ⟨#[]⟩, s1.2) := rfl
theorem getB_le (l : List UInt8) (m : Nat) (h : l.length ≤ m) : getB l < 256 ^ m := Nat.lt_of_lt_of_le (getB_lt l) (Nat.pow_le_pow_right (by omega) h)
theorem take_lt (l : List UInt8) (m : Nat) : getB (l.take m) < 256 ^ m := getB_le _ _ (by rw [List.length_take]; omega)
theorem ev_tail (t : List UInt8) (rest : List UInt8) (hl : t.length ≤ 1000000) : Ev (fun k => tailF k (ba t) (ba rest)) (bodyT t rest).out := by
 unfold bodyT
 by_cases h17 : t.length < 17
 ·rw [if_pos h17]
  refine Ev.congr (f := fun _ => some (none_ 2).out) (fun k => ?_) (Ev.now _)
  unfold tailF
  have fin : ∀ (l : List UInt8) (F : ByteArray × ByteArray × Bool → Option (Int × Int × Int × Int × ByteArray × ByteArray × Int)), (∀ x, x.2.2 = true → F x = some (none_ 2).out) → (le_Reader_Text.f (ba l) true ((ba l).size : Int)).bind F = some (none_ 2).out := by
   intro l F hF
   rw [txt_true, Option.bind_some]
   exact hF _ rfl
  by_cases h1 : t.length < 1
  ·rw [show (1 : Int) = ((1 : Nat) : Int) from rfl, num_short t 1 (by omega) h1, Option.bind_some, show (4 : Int) = ((4 : Nat) : Int) from rfl, num_true _ 4 (by omega), Option.bind_some, num_true _ 4 (by omega), Option.bind_some, show (8 : Int) = ((8 : Nat) : Int) from rfl, num_true _ 8 (by omega), Option.bind_some]
   exact fin _ _ (fun x hx => if_pos hx)
  rw [show (1 : Int) = ((1 : Nat) : Int) from rfl, num_ok t 1 (by omega) (by omega), Option.bind_some]
  by_cases h5 : t.length < 5
  ·rw [show (4 : Int) = ((4 : Nat) : Int) from rfl, num_short _ 4 (by omega) (by rw [List.length_drop]; omega), Option.bind_some, num_true _ 4 (by omega), Option.bind_some, show (8 : Int) = ((8 : Nat) : Int) from rfl, num_true _ 8 (by omega), Option.bind_some]
   exact fin _ _ (fun x hx => if_pos hx)
  rw [show (4 : Int) = ((4 : Nat) : Int) from rfl, num_ok _ 4 (by omega) (by rw [List.length_drop]; omega), Option.bind_some]
  by_cases h9 : t.length < 9
  ·rw [num_short _ 4 (by omega) (by rw [List.length_drop, List.length_drop]; omega), Option.bind_some, show (8 : Int) = ((8 : Nat) : Int) from rfl, num_true _ 8 (by omega), Option.bind_some]
   exact fin _ _ (fun x hx => if_pos hx)
  rw [num_ok _ 4 (by omega) (by rw [List.length_drop, List.length_drop]; omega), Option.bind_some, show (8 : Int) = ((8 : Nat) : Int) from rfl, num_short _ 8 (by omega) (by rw [List.length_drop, List.length_drop, List.length_drop]; omega), Option.bind_some]
  exact fin _ _ (fun x hx => if_pos hx)
 ·rw [if_neg h17]
  have e5 : (t.drop 1).drop 4 = t.drop 5 := by rw [List.drop_drop]
  have e9 : (t.drop 5).drop 4 = t.drop 9 := by rw [List.drop_drop]
  have e17 : (t.drop 9).drop 8 = t.drop 17 := by rw [List.drop_drop]
  have hr := step_right (getB (t.take 1)) (getB ((t.drop 1).take 4)) (getB ((t.drop 5).take 4)) (getB ((t.drop 9).take 8)) (t.drop 17) (by rw [List.length_drop]; omega)
  have b1 := take_lt t 1
  have b2 := take_lt (t.drop 1) 4
  have b3 := take_lt (t.drop 5) 4
  refine Ev.congr (fun k => ?_) (Ev.bind hr (f := fun _ ok => if ok = true then some (((getB (t.take 1) : Nat) : Int), ((getB ((t.drop 1).take 4) : Nat) : Int), ((getB ((t.drop 5).take 4) : Nat) : Int), ((getB ((t.drop 9).take 8) : Nat) : Int), ba (t.drop 17), ba rest, 0) else some (none_ 2).out) ?_)
  ·unfold tailF
   rw [show (1 : Int) = ((1 : Nat) : Int) from rfl, num_ok t 1 (by omega) (by omega), Option.bind_some, show (4 : Int) = ((4 : Nat) : Int) from rfl, num_ok _ 4 (by omega) (by rw [List.length_drop]; omega), Option.bind_some, e5,
    num_ok _ 4 (by omega) (by rw [List.length_drop]; omega), Option.bind_some, e9, show (8 : Int) = ((8 : Nat) : Int) from rfl, num_ok _ 8 (by omega) (by rw [List.length_drop]; omega), Option.bind_some, e17, ba_size, txt_ok _ _ (Nat.le_refl _), Option.bind_some,
    if_neg (by simp), w64 _ (by omega) (by omega), w64 _ (by omega) (by omega), w64 _ (by omega) (by omega), List.take_of_length_le (Nat.le_refl _)]
   rfl
  ·by_cases hR : rightS (getB (t.take 1)) (getB ((t.drop 1).take 4)) (getB ((t.drop 5).take 4)) (t.drop 17) = true
   ·rw [if_pos hR]
    refine Ev.congr (f := fun _ => some _) (fun k => ?_) (Ev.now _)
    rw [if_pos hR]; rfl
   ·rw [if_neg hR]
    refine Ev.congr (f := fun _ => some _) (fun k => ?_) (Ev.now _)
    rw [if_neg hR]
theorem ev_take (s : List UInt8) (hl : s.length ≤ 1000000) : Ev (fun k => step_Take.f k (ba s)) (takeS s).out := by
 unfold takeS
 by_cases h2 : s.length < 2
 ·rw [if_pos h2]
  refine Ev.congr (f := fun _ => some (none_ 10).out) (fun k => ?_) (Ev.now _)
  rw [take_tail, show (2 : Int) = ((2 : Nat) : Int) from rfl, num_short s 2 (by omega) h2, Option.bind_some, txt_true, Option.bind_some, if_pos rfl]
  rfl
 have b := take_lt s 2
 rw [if_neg h2]
 have e : wrap64 ((getB (s.take 2) : Nat) : Int) = ((getB (s.take 2) : Nat) : Int) := w64 _ (by omega) (by omega)
 by_cases hn : s.length < 2 + getB (s.take 2)
 ·rw [if_pos hn]
  refine Ev.congr (f := fun _ => some (none_ 10).out) (fun k => ?_) (Ev.now _)
  rw [take_tail, show (2 : Int) = ((2 : Nat) : Int) from rfl, num_ok s 2 (by omega) (by omega), Option.bind_some, e, txt_short _ _ (by rw [List.length_drop]; omega), Option.bind_some, if_pos rfl]
  rfl
 rw [if_neg hn]
 have hu : ∀ k, step_Take.f k (ba s) = if (unsealed ((s.drop 2).take (getB (s.take 2)))).2 = 0 then tailF k (ba (unsealed ((s.drop 2).take (getB (s.take 2)))).1) (ba (s.drop (2 + getB (s.take 2)))) else some (0, 0, 0, 0, ⟨#[]⟩, ⟨#[]⟩, (unsealed ((s.drop 2).take (getB (s.take 2)))).2) := by
  intro k
  rw [take_tail, show (2 : Int) = ((2 : Nat) : Int) from rfl, num_ok s 2 (by omega) (by omega), Option.bind_some, e, txt_ok _ _ (by rw [List.length_drop]; omega), Option.bind_some, if_neg (by simp), seal_take_eq _ (by rw [List.length_take, List.length_drop]; omega), Option.bind_some, List.drop_drop]
 by_cases h0 : (unsealed ((s.drop 2).take (getB (s.take 2)))).2 = 0
 ·rw [if_pos h0]
  refine Ev.congr (fun k => by rw [hu, if_pos h0]) (ev_tail _ _ ?_)
  unfold unsealed
  split
  ·simp
  ·split
   ·rw [List.length_take, List.length_take, List.length_drop]; omega
   ·simp
 ·rw [if_neg h0]
  refine Ev.congr (f := fun _ => some _) (fun k => ?_) (Ev.now _)
  rw [hu, if_neg h0]
  rfl
theorem body_parts (t : List UInt8) (h : 17 ≤ t.length) : bodyS (getB (t.take 1)) (getB ((t.drop 1).take 4)) (getB ((t.drop 5).take 4)) (getB ((t.drop 9).take 8)) (t.drop 17) = t := by
 have p1 := putN_getB (t.take 1)
 have p2 := putN_getB ((t.drop 1).take 4)
 have p3 := putN_getB ((t.drop 5).take 4)
 have p4 := putN_getB ((t.drop 9).take 8)
 rw [List.length_take, Nat.min_eq_left (by omega)] at p1
 rw [List.length_take, List.length_drop, Nat.min_eq_left (by omega)] at p2 p3 p4
 unfold bodyS
 rw [p1, p2, p3, p4]
 have e1 : t.take 1 ++ (t.drop 1).take 4 = t.take 5 := by rw [← List.take_add]
 have e2 : t.take 5 ++ (t.drop 5).take 4 = t.take 9 := by rw [← List.take_add]
 have e3 : t.take 9 ++ (t.drop 9).take 8 = t.take 17 := by rw [← List.take_add]
 rw [e1, e2, e3, List.take_append_drop]
theorem put_take (s : List UInt8) (h : (takeS s).err = 0) : rightS (takeS s).kind (takeS s).a (takeS s).b (takeS s).text = true ∧ (takeS s).n < 18446744073709551616 ∧ (takeS s).text.length + 23 ≤ s.length ∧
  recordS (takeS s).kind (takeS s).a (takeS s).b (takeS s).n (takeS s).text ++ (takeS s).rest = s := by
 unfold takeS at h ⊢
 split at h
 ·exact absurd h (by decide)
 rename_i h2
 rw [if_neg h2]
 split at h
 ·exact absurd h (by decide)
 rename_i hn
 rw [if_neg hn]
 split at h
 case isFalse h0 => exact absurd h h0
 rename_i hu
 rw [if_pos hu]
 have hlt := take_lt s 2
 obtain ⟨hs, hl⟩ := sealed_unsealed _ hu
 have hrl : ((s.drop 2).take (getB (s.take 2))).length = getB (s.take 2) := by rw [List.length_take, List.length_drop]; omega
 rw [hrl] at hl
 generalize (unsealed ((s.drop 2).take (getB (s.take 2)))).1 = t at hs hl h ⊢
 unfold bodyT at h ⊢
 split at h
 ·exact absurd h (by decide)
 rename_i h17
 rw [if_neg h17]
 split at h
 case isFalse => exact absurd h (by decide)
 rename_i hr
 rw [if_pos hr]
 refine ⟨hr, ?_, ?_, ?_⟩
 ·have := take_lt (t.drop 9) 8; show getB ((t.drop 9).take 8) < _; omega
 ·show (t.drop 17).length + 23 ≤ _; rw [List.length_drop]; omega
 ·show recordS _ _ _ _ (t.drop 17) ++ s.drop (2 + getB (s.take 2)) = s
  unfold recordS
  rw [body_parts t (by omega), hs, hrl]
  have p := putN_getB (s.take 2)
  rw [List.length_take, Nat.min_eq_left (by omega)] at p
  rw [p, ← List.take_add, List.take_append_drop]
def Took.step (x : Took) : S24 := ⟨(x.kind : Int), (x.a : Int), (x.b : Int), (x.n : Int), ba x.text⟩
def scanS : Nat → List UInt8 → List S24 × List UInt8
 | 0, s => ([], s)
 | m + 1, s => if (takeS s).err = 0 then ((takeS s).step :: (scanS m (takeS s).rest).1, (scanS m (takeS s).rest).2) else ([], s)
theorem rest_len (s : List UInt8) (h : (takeS s).err = 0) : (takeS s).rest.length + (23 + (takeS s).text.length) = s.length := by
 obtain ⟨_, _, _, he⟩ := put_take s h
 have := congrArg List.length he
 rw [List.length_append, recordS_length] at this
 omega
theorem take_nil : (takeS []).err = 10 := by unfold takeS; rw [if_pos (show ([] : List UInt8).length < 2 by decide)]; rfl
theorem scan_l : ∀ (m : Nat) (s : List UInt8) (acc : List S24), s.length ≤ m → acc.length + s.length ≤ 1000000 → Ev (fun k => step_Scan.l k (ba s) acc) (acc ++ (scanS m s).1, ba (scanS m s).2) := by
 intro m
 induction m with
 | zero =>
  intro s acc hs ha
  obtain rfl : s = [] := List.eq_nil_of_length_eq_zero (by omega)
  refine Ev.step (fun k => by simp only [step_Scan.l]; rfl) (Ev.bind (ev_take [] (by simp)) ?_)
  refine Ev.congr (f := fun _ => some _) (fun k => ?_) (Ev.now _)
  show (if (takeS []).err = 0 then _ else some (acc, ba [])) = _
  rw [if_neg (by rw [take_nil]; decide), scanS, List.append_nil]
 | succ m ih =>
  intro s acc hs ha
  refine Ev.step (fun k => by simp only [step_Scan.l]; rfl) (Ev.bind (ev_take s (by omega)) ?_)
  by_cases h : (takeS s).err = 0
  ·have hl := rest_len s h
   have h2 := ih (takeS s).rest (acc ++ [(takeS s).step]) (by omega) (by rw [List.length_append, List.length_singleton]; omega)
   rw [List.append_assoc, List.singleton_append] at h2
   rw [scanS, if_pos h]
   refine Ev.congr (fun k => ?_) h2
   show (if (takeS s).err = 0 then _ else _) = _
   rw [if_pos h, if_pos (by omega)]
   rfl
  ·refine Ev.congr (f := fun _ => some _) (fun k => ?_) (Ev.now _)
   show (if (takeS s).err = 0 then _ else some (acc, ba s)) = _
   rw [if_neg h, scanS, if_neg h, List.append_nil]
theorem scan_left : ∀ (m : Nat) (s : List UInt8), (scanS m s).2.length ≤ s.length
 | 0, s => Nat.le_refl _
 | m + 1, s => by
  rw [scanS]
  split
  ·rename_i h
   have := rest_len s h
   exact Nat.le_trans (scan_left m _) (by omega)
  ·exact Nat.le_refl _
theorem scan_count : ∀ (m : Nat) (s : List UInt8), (scanS m s).1.length ≤ s.length
 | 0, s => Nat.zero_le _
 | m + 1, s => by
  rw [scanS]
  split
  ·rename_i h
   have := rest_len s h
   have h2 := scan_count m (takeS s).rest
   rw [List.length_cons]
   omega
  ·exact Nat.zero_le _
theorem ev_scan (s : List UInt8) (hs : s.length ≤ 1000000) : Ev (fun k => step_Scan.f k (ba s)) ((scanS s.length s).1, (s.length : Int) - ((scanS s.length s).2.length : Int)) := by
 have hl := scan_left s.length s
 refine Ev.bind (scan_l s.length s [] (Nat.le_refl _) (by rw [List.length_nil]; omega)) ?_
 refine Ev.congr (f := fun _ => some _) (fun k => ?_) (Ev.now _)
 rw [ba_size, ba_size, w64 _ (by omega) (by omega)]
 rfl
theorem wpre (d : Nat) (h : d ≤ 8) : wrap64 ((d : Int) - 1) = (d : Int) - 1 := w64 _ (by omega) (by omega)
theorem rget_l (l : List UInt8) (_hl : l.length ≤ 1000000000) : ∀ (d : Nat) (acc : Nat), d ≤ l.length → d ≤ 8 → acc * 256 ^ d + 256 ^ d ≤ 18446744073709551616 →
  Ev (fun k => r2_Get.l0 k (ba l) (acc : Int) ((d : Int) - 1)) ((acc * 256 ^ d + getB (l.take d) : Nat) : Int) := by
 intro d
 induction d with
 | zero =>
  intro acc _ _ _
  refine Ev.step (f := fun _ => some ((acc * 256 ^ 0 + getB (l.take 0) : Nat) : Int)) (fun k => ?_) (Ev.now _)
  simp only [r2_Get.l0]
  rw [if_neg (by omega)]
  simp [getB]
 | succ d ih =>
  intro acc hd h8 hb
  have hlt : d < l.length := by omega
  have hc := (l[d]'hlt).toNat_lt
  have hp : 256 ^ (d + 1) = 256 ^ d * 256 := Nat.pow_succ 256 d
  have hpos : 0 < 256 ^ d := Nat.pow_pos (by omega)
  have h1 : (acc * 256 + (l[d]'hlt).toNat) * 256 ^ d + 256 ^ d ≤ 18446744073709551616 := by
   have : (acc * 256 + (l[d]'hlt).toNat) * 256 ^ d + 256 ^ d = acc * (256 ^ d * 256) + ((l[d]'hlt).toNat + 1) * 256 ^ d := by
    rw [Nat.add_mul, Nat.add_mul (l[d]'hlt).toNat 1, Nat.one_mul, Nat.mul_assoc, Nat.mul_comm 256 (256 ^ d)]; omega
   rw [this, ← hp]
   have h2 : ((l[d]'hlt).toNat + 1) * 256 ^ d ≤ 256 * 256 ^ d := Nat.mul_le_mul_right _ (by omega)
   rw [Nat.mul_comm 256, ← hp] at h2
   omega
  have hsm : acc * 256 + (l[d]'hlt).toNat < 18446744073709551616 := by
   have := Nat.le_mul_of_pos_right (acc * 256 + (l[d]'hlt).toNat) hpos
   omega
  have h := ih (acc * 256 + (l[d]'hlt).toNat) (by omega) (by omega) h1
  have e : (acc * 256 + (l[d]'hlt).toNat) * 256 ^ d + getB (l.take d) = acc * 256 ^ (d + 1) + getB (l.take (d + 1)) := by
   rw [List.take_succ_eq_append_getElem hlt, getB_snoc, List.length_take, Nat.min_eq_left (by omega), hp, Nat.add_mul, Nat.mul_assoc, Nat.mul_comm 256 (256 ^ d)]
   omega
  rw [e] at h
  refine Ev.step (fun k => ?_) h
  simp only [r2_Get.l0]
  have e1 : ((d + 1 : Nat) : Int) - 1 = (d : Int) := by omega
  have e2 : IntKind.u64.wrap ((acc : Int) * 256) = ((acc * 256 : Nat) : Int) := (congrArg IntKind.u64.wrap (show (acc : Int) * 256 = ((acc * 256 : Nat) : Int) by omega)).trans (u64_nat _ (Nat.lt_of_le_of_lt (Nat.le_add_right _ _) hsm))
  have e3 : IntKind.u64.wrap (((l[d]'hlt).toNat : Nat) : Int) = (((l[d]'hlt).toNat : Nat) : Int) := u64_nat _ (Nat.lt_of_lt_of_le hc (by decide))
  have e4 : IntKind.u64.wrap (((acc * 256 : Nat) : Int) + (((l[d]'hlt).toNat : Nat) : Int)) = ((acc * 256 + (l[d]'hlt).toNat : Nat) : Int) := by
   rw [show ((acc * 256 : Nat) : Int) + (((l[d]'hlt).toNat : Nat) : Int) = ((acc * 256 + (l[d]'hlt).toNat : Nat) : Int) by omega]; exact u64_nat _ hsm
  rw [e1, if_pos (by omega), if_pos (by omega), ba_size, if_pos (by omega), bt_ba l d hlt, e2, e3, e4, wpre d (by omega)]
theorem rget (l : List UInt8) (hl : l.length ≤ 8) : Ev (fun k => r2_Get.f k (ba l)) ((getB l : Nat) : Int) := by
 have h9 : 256 ^ l.length ≤ 256 ^ 8 := Nat.pow_le_pow_right (by omega) hl
 rw [show (256 : Nat) ^ 8 = 18446744073709551616 by simp] at h9
 have h := rget_l l (by omega) l.length 0 (Nat.le_refl _) hl (by rw [Nat.zero_mul, Nat.zero_add]; exact h9)
 rw [Nat.zero_mul, Nat.zero_add, List.take_of_length_le (Nat.le_refl _)] at h
 refine Ev.congr (fun k => ?_) h
 unfold r2_Get.f
 rw [ba_size, show mn (l.length : Int) 8 = (l.length : Int) by unfold mn; rw [if_neg (by omega)]]
 rfl
theorem rtake_eq (l : List UInt8) (h : l.length ≤ 1000000000) : Ev (fun k => r3_Take.f k (ba l)) (ba (unsealed l).1, (unsealed l).2) := by
 by_cases h4 : l.length < 4
 ·refine Ev.congr (f := fun _ => some _) (fun k => ?_) (Ev.now _)
  unfold r3_Take.f unsealed
  rw [ba_size, if_pos (by omega), if_pos h4]
  rfl
 ·have hs := ref_seal_put (l.take (l.length - 4)) (by rw [List.length_take]; omega)
  have e : (wrap64 ((l.length : Int) - 4)).toNat = l.length - 4 := by rw [w64 _ (by omega) (by omega)]; omega
  have key : Ev (fun k => (r3_Put.f k (ba (l.take (l.length - 4)))).bind fun t => if t.toList = (ba l).toList then some (ba (l.take (l.length - 4)), (0 : Int)) else some ((⟨#[]⟩ : ByteArray), (9 : Int))) (ba (unsealed l).1, (unsealed l).2) := by
   refine Ev.bind hs ?_
   refine Ev.congr (f := fun _ => some _) (fun k => ?_) (Ev.now _)
   unfold unsealed
   rw [if_neg h4, ba_toList, ba_toList]
   by_cases hc : getB (l.drop (l.length - 4)) = (crc (l.take (l.length - 4))).toNat
   ·rw [if_pos hc, if_pos]
    unfold sealed
    rw [← hc]
    have h1 := putN_getB (l.drop (l.length - 4))
    rw [List.length_drop, show l.length - (l.length - 4) = 4 by omega] at h1
    rw [h1, List.take_append_drop]
   ·rw [if_neg hc, if_neg]
    ·rfl
    ·intro he
     apply hc
     have h2 := congrArg (List.drop (l.length - 4)) he
     unfold sealed at h2
     rw [List.drop_left' (by rw [List.length_take]; omega)] at h2
     rw [← h2, getB_putN]
     have := (crc (l.take (l.length - 4))).isLt
     exact Nat.mod_eq_of_lt (by omega)
  refine Ev.congr (fun k => ?_) key
  unfold r3_Take.f
  rw [ba_size, if_neg (by omega), if_pos (by rw [w64 _ (by omega) (by omega)]; omega), if_pos (by rw [w64 _ (by omega) (by omega)]; omega), e, ba_take]
theorem ext_ba (l : List UInt8) (i j : Nat) : (ba l).extract i j = ba ((l.drop i).take (j - i)) := ba_extract l i j
def refTail (k : Nat) (t : List UInt8) (s : List UInt8) (n : Nat) : Option (Int × Int × Int × Int × ByteArray × ByteArray × Int) :=
 (r12_Put.f k (getB (t.take 1) : Nat) (getB ((t.drop 1).take 4) : Nat) (getB ((t.drop 5).take 4) : Nat) (getB ((t.drop 9).take 8) : Nat) (ba (t.drop 17))).bind fun u =>
  if u.2 = 0 then (if u.1.toList = s.take n then some ((getB (t.take 1) : Nat), (getB ((t.drop 1).take 4) : Nat), (getB ((t.drop 5).take 4) : Nat), (getB ((t.drop 9).take 8) : Nat), ba (t.drop 17), ba (s.drop n), 0) else some (none_ 2).out) else some (none_ 2).out
theorem ev_refTail (t s : List UInt8) (h17 : 17 ≤ t.length) (hl : s.length ≤ 1000000) (h2 : 2 + getB (s.take 2) ≤ s.length) (hs2 : 2 ≤ s.length) (hsl : sealed t = (s.drop 2).take (getB (s.take 2))) :
  Ev (fun k => refTail k t s (2 + getB (s.take 2))) (bodyT t (s.drop (2 + getB (s.take 2)))).out := by
 have hlen := congrArg List.length hsl
 rw [sealed_length, List.length_take, List.length_drop] at hlen
 have b4 := take_lt (t.drop 9) 8
 have hp := ref_step_put (getB (t.take 1) : Nat) (getB ((t.drop 1).take 4) : Nat) (getB ((t.drop 5).take 4) : Nat) (getB ((t.drop 9).take 8) : Nat) (t.drop 17) (by rw [List.length_drop]; omega) (by omega)
 refine Ev.bind hp ?_
 refine Ev.congr (f := fun _ => some _) (fun k => ?_) (Ev.now _)
 unfold putS bodyT
 rw [if_neg (show ¬ t.length < 17 by omega)]
 by_cases hR : rightS (getB (t.take 1) : Nat) (getB ((t.drop 1).take 4) : Nat) (getB ((t.drop 5).take 4) : Nat) (t.drop 17) = true
 ·rw [if_pos hR, if_pos hR]
  simp only [Int.toNat_natCast, if_true, ba_toList]
  have hb := body_parts t h17
  have he : recordS (getB (t.take 1)) (getB ((t.drop 1).take 4)) (getB ((t.drop 5).take 4)) (getB ((t.drop 9).take 8)) (t.drop 17) = s.take (2 + getB (s.take 2)) := by
   unfold recordS
   rw [hb, hsl, List.length_take, List.length_drop, Nat.min_eq_left (by omega)]
   have p := putN_getB (s.take 2)
   rw [List.length_take, Nat.min_eq_left (by omega)] at p
   rw [p, ← List.take_add]
  rw [if_pos he]
  rfl
 ·rw [if_neg hR, if_neg hR]
  exact if_neg (by decide)
theorem ref_take (s : List UInt8) (hl : s.length ≤ 1000000) : Ev (fun k => r12_Take.f k (ba s)) (takeS s).out := by
 unfold takeS
 by_cases h2 : s.length < 2
 ·rw [if_pos h2]
  refine Ev.congr (f := fun _ => some (none_ 10).out) (fun k => ?_) (Ev.now _)
  unfold r12_Take.f
  rw [ba_size, if_pos (by omega)]
  rfl
 rw [if_neg h2]
 have b := take_lt s 2
 have e1 : wrap64 ((getB (s.take 2) : Nat) : Int) = ((getB (s.take 2) : Nat) : Int) := w64 _ (by omega) (by omega)
 have e2 : wrap64 (2 + ((getB (s.take 2) : Nat) : Int)) = ((2 + getB (s.take 2) : Nat) : Int) := by rw [w64 _ (by omega) (by omega)]; omega
 have hg := rget (s.take 2) (by rw [List.length_take]; omega)
 refine Ev.congr (fun k => by unfold r12_Take.f; rw [ba_size, if_neg (by omega), if_pos (by omega), if_pos (by omega), ba_take]) (Ev.bind hg ?_)
 by_cases hn : s.length < 2 + getB (s.take 2)
 ·rw [if_pos hn]
  refine Ev.congr (f := fun _ => some (none_ 10).out) (fun k => ?_) (Ev.now _)
  rw [e1, e2, if_pos (by omega)]
  rfl
 rw [if_neg hn]
 have hu := rtake_eq ((s.drop 2).take (getB (s.take 2))) (by rw [List.length_take, List.length_drop]; omega)
 refine Ev.congr (fun k => by rw [e1, e2, if_neg (by omega), if_pos (by omega), if_pos (by omega), Int.toNat_natCast, ext_ba, Nat.add_sub_cancel_left]) (Ev.bind hu ?_)
 by_cases h0 : (unsealed ((s.drop 2).take (getB (s.take 2)))).2 = 0
 ·rw [if_pos h0]
  obtain ⟨hsl, hlen⟩ := sealed_unsealed _ h0
  rw [List.length_take, List.length_drop] at hlen
  generalize (unsealed ((s.drop 2).take (getB (s.take 2)))).1 = t at hsl hlen ⊢
  refine Ev.congr (fun k => by rw [if_pos h0, ba_size]) ?_
  by_cases h17 : t.length < 17
  ·refine Ev.congr (f := fun _ => some (none_ 2).out) (fun k => ?_) ?_
   ·rw [if_pos (by omega)]; rfl
   ·unfold bodyT; rw [if_pos h17]; exact Ev.now _
  have g1 := rget ((t.drop 1).take 4) (by rw [List.length_take]; omega)
  have g2 := rget ((t.drop 5).take 4) (by rw [List.length_take]; omega)
  have g3 := rget ((t.drop 9).take 8) (by rw [List.length_take]; omega)
  have b1 := take_lt (t.drop 1) 4
  have b2 := take_lt (t.drop 5) 4
  have w1 : wrap64 ((getB ((t.drop 1).take 4) : Nat) : Int) = ((getB ((t.drop 1).take 4) : Nat) : Int) := w64 _ (by omega) (by omega)
  have w2 : wrap64 ((getB ((t.drop 5).take 4) : Nat) : Int) = ((getB ((t.drop 5).take 4) : Nat) : Int) := w64 _ (by omega) (by omega)
  have w0 : wrap64 (bt (ba t) 0) = ((getB (t.take 1) : Nat) : Int) := by
   have h := bt_ba t 0 (by omega)
   have hc := (t[0]'(by omega)).toNat_lt
   rw [show ((0 : Nat) : Int) = 0 from rfl] at h
   rw [h, w64 _ (by omega) (by omega)]
   have e : t.take 1 = [t[0]'(by omega)] := by
    rw [show (1 : Nat) = 0 + 1 from rfl, List.take_succ_eq_append_getElem (by omega)]; rfl
   rw [e]
   simp [getB]
  refine Ev.congr (fun k => by rw [if_neg (by omega), if_pos (by omega), if_pos (by omega), if_pos (by omega), ext_ba]) (Ev.bind g1 ?_)
  refine Ev.congr (fun k => by rw [if_pos (by omega), if_pos (by omega), ext_ba]) (Ev.bind g2 ?_)
  refine Ev.congr (fun k => by rw [if_pos (by omega), if_pos (by omega), ext_ba]) (Ev.bind g3 ?_)
  have hr := ev_refTail t s (by omega) hl (by omega) (by omega) hsl
  refine Ev.congr (fun k => ?_) hr
  have hd : (ba t).extract 17 t.length = ba (t.drop 17) := by rw [← ba_size t, ba_drop]
  have hd2 : (ba s).extract (2 + getB (s.take 2)) s.length = ba (s.drop (2 + getB (s.take 2))) := by rw [← ba_size s, ba_drop]
  rw [w0, w1, w2, hd]
  unfold refTail
  congr 1
  funext u
  rw [if_pos (show (0 : Int) ≤ ((2 + getB (s.take 2) : Nat) : Int) by omega), ba_take, ba_toList, hd2]
  rfl
 ·rw [if_neg h0]
  refine Ev.congr (f := fun _ => some _) (fun k => ?_) (Ev.now _)
  rw [if_neg h0]
  rfl
theorem ref_scan_l (s0 : List UInt8) (h0 : s0.length ≤ 1000000) : ∀ (m : Nat) (s : List UInt8) (acc : List S24), s.length ≤ m → s.length ≤ s0.length → acc.length + s.length ≤ 1000000 →
  Ev (fun k => r12_Scan.l0 k (ba s0) (acc.map a26) (ba s)) ((acc ++ (scanS m s).1).map a26, (s0.length : Int) - ((scanS m s).2.length : Int)) := by
 intro m
 induction m with
 | zero =>
  intro s acc hs hss ha
  obtain rfl : s = [] := List.eq_nil_of_length_eq_zero (by omega)
  refine Ev.step (fun k => by simp only [r12_Scan.l0]; rfl) (Ev.bind (ref_take [] (by simp)) ?_)
  refine Ev.congr (f := fun _ => some _) (fun k => ?_) (Ev.now _)
  show (if (takeS []).err = 0 then _ else some (acc.map a26, _)) = _
  rw [if_neg (by rw [take_nil]; decide), scanS, List.append_nil, ba_size, ba_size, w64 _ (by omega) (by omega)]
 | succ m ih =>
  intro s acc hs hss ha
  refine Ev.step (fun k => by simp only [r12_Scan.l0]; rfl) (Ev.bind (ref_take s (by omega)) ?_)
  by_cases h : (takeS s).err = 0
  ·have hl := rest_len s h
   have h2 := ih (takeS s).rest (acc ++ [(takeS s).step]) (by omega) (by omega) (by rw [List.length_append, List.length_singleton]; omega)
   rw [List.append_assoc, List.singleton_append] at h2
   rw [scanS, if_pos h]
   refine Ev.congr (fun k => ?_) h2
   show (if (takeS s).err = 0 then _ else _) = _
   rw [if_pos h, if_pos (by rw [List.length_map]; omega), List.map_append]
   rfl
  ·refine Ev.congr (f := fun _ => some _) (fun k => ?_) (Ev.now _)
   show (if (takeS s).err = 0 then _ else some (acc.map a26, _)) = _
   rw [if_neg h, scanS, if_neg h, List.append_nil, ba_size, ba_size, w64 _ (by omega) (by omega)]
theorem ref_scan (s : List UInt8) (hs : s.length ≤ 1000000) : Ev (fun k => r12_Scan.f k (ba s)) ((scanS s.length s).1.map a26, (s.length : Int) - ((scanS s.length s).2.length : Int)) :=
 ref_scan_l s hs s.length s [] (Nat.le_refl _) (Nat.le_refl _) (by rw [List.length_nil]; omega)
def follows (s : LogP) (x : S24) : Bool := decide (x.f1 = 0 ∧ x.f2 = 0 ∧ (s.gr.length = 0 ∨ (s.seq < 18446744073709551615 ∧ x.f3 = (s.seq : Int) + 1)))
def nxtP (s : LogP) (x : S24) (o : List S24) : LogP := ⟨x.f3.toNat, s.gr ++ [⟨(x.f3.toNat : Int), o⟩], s.by_ ++ (recsL o ++ recS (cm x.f3.toNat))⟩
def rdP : LogP → List S24 → List S24 → LogP
 | s, _, [] => s
 | s, o, x :: r => if x.f0 = 8 then (if follows s x = true then rdP (nxtP s x o) [] r else s) else rdP s (o ++ [x]) r
def LogP.outN (s : LogP) : Int × List S44 × ByteArray × Int := ((s.seq : Int), s.gr, ba s.by_, (s.by_.length : Int))
def LogP.outM (s : LogP) : Int × List S46 × ByteArray × Int := ((s.seq : Int), s.gr.map a46, ba s.by_, (s.by_.length : Int))
theorem closed_ok (seq : Nat) (o : List S24) (h1 : o.any isCommit = false) (h2 : o.all goodS = true) : closedP seq o = some (recsL o ++ recS (cm seq)) := by
 unfold closedP
 rw [if_neg (by rw [h1, h2]; simp)]
theorem with_ok (s : LogP) (x : S24) (o : List S24) (h1 : o.any isCommit = false) (h2 : o.all goodS = true) : withP s x.f3.toNat o = (nxtP s x o, 0) := by
 unfold withP
 rw [closed_ok _ o h1 h2]
 rfl
theorem nxt_len (s : LogP) (x : S24) (o : List S24) (ho : ∀ y ∈ o, okT y) : (nxtP s x o).by_.length ≤ s.by_.length + 4023 * o.length + 23 := by
 have h1 := recsL_len o ho
 have h2 := recS_len (cm x.f3.toNat)
 have h3 : (txtS (cm x.f3.toNat)).length = 0 := rfl
 show (s.by_ ++ (recsL o ++ recS (cm x.f3.toNat))).length ≤ _
 rw [List.length_append, List.length_append]
 omega
structure RdI (i : Nat) (s : LogP) (o : List S24) : Prop where
 gr : s.gr.length ≤ i
 len : s.by_.length + 4023 * o.length ≤ 4023 * i
 ol : o.length ≤ i
 com : o.any isCommit = false
 good : o.all goodS = true
 ok : ∀ y ∈ o, okT y
 seq : s.seq < 18446744073709551616
 gl : ∀ g ∈ s.gr, g.f1.length ≤ i
theorem rdI_zero : RdI 0 zeroL [] := ⟨Nat.le_refl _, Nat.le_refl _, Nat.le_refl _, rfl, rfl, fun _ h => (by cases h), by decide, fun _ h => (by cases h)⟩
theorem rdI_open {i : Nat} {s : LogP} {o : List S24} (h : RdI i s o) (x : S24) (hx : okT x ∧ goodS x = true) (h8 : ¬ x.f0 = 8) : RdI (i + 1) s (o ++ [x]) := by
 have := h.gr
 have := h.len
 have := h.ol
 refine ⟨by omega, by rw [List.length_append]; show _ + 4023 * (o.length + 1) ≤ _; omega, by rw [List.length_append]; show o.length + 1 ≤ _; omega, ?_, ?_, ?_, h.seq, fun g hg => Nat.le_succ_of_le (h.gl g hg)⟩
 ·rw [List.any_append, h.com]
  have : isCommit x = false := beq_eq_false_iff_ne.2 h8
  simp [this]
 ·rw [List.all_append, h.good]
  simp [hx.2]
 ·intro y hy
  rcases List.mem_append.1 hy with hy | hy
  ·exact h.ok y hy
  ·rw [List.mem_singleton.1 hy]; exact hx.1
theorem rdI_close {i : Nat} {s : LogP} {o : List S24} (h : RdI i s o) (x : S24) (hx : okT x) : RdI (i + 1) (nxtP s x o) [] := by
 have h1 := nxt_len s x o h.ok
 have h2 := h.len
 have h3 := h.gr
 have h4 := h.ol
 have h5 := hx.1
 refine ⟨?_, ?_, Nat.zero_le _, rfl, rfl, fun _ h => (by cases h), ?_, ?_⟩
 ·show (s.gr ++ [_]).length ≤ _
  rw [List.length_append]; show s.gr.length + 1 ≤ _; omega
 ·show (nxtP s x o).by_.length + 4023 * 0 ≤ _; omega
 ·show x.f3.toNat < _; omega
 ·intro g hg
  rcases List.mem_append.1 (show g ∈ s.gr ++ [_] from hg) with hg | hg
  ·exact Nat.le_succ_of_le (h.gl g hg)
  ·rw [List.mem_singleton.1 hg]; exact Nat.le_succ_of_le h4
theorem read_stop (s : LogP) : Ev (fun k => journal_Read.j4 k (s.seq : Int) s.gr (ba s.by_)) s.outN := by
 refine Ev.step (f := fun _ => some s.outN) (fun k => ?_) (Ev.now _)
 simp only [journal_Read.j4]
 rw [ba_size]
 rfl
def nextB (s : LogP) (x : S24) : Bool := decide (s.gr.length = 0) || (decide (s.seq < 18446744073709551615) && (x.f3 == IntKind.u64.wrap ((s.seq : Int) + 1)))
theorem follows_eq (s : LogP) (x : S24) (hs : s.seq < 18446744073709551616) : follows s x = (decide (x.f1 = 0) && (decide (x.f2 = 0) && nextB s x)) := by
 have key : nextB s x = true ↔ (s.gr.length = 0 ∨ (s.seq < 18446744073709551615 ∧ x.f3 = (s.seq : Int) + 1)) := by
  unfold nextB
  rw [Bool.or_eq_true, Bool.and_eq_true, decide_eq_true_iff, decide_eq_true_iff, beq_iff_eq]
  constructor
  ·rintro (h | ⟨h, e⟩)
   ·exact .inl h
   ·rw [wrapU, Nat.mod_eq_of_lt (show s.seq + 1 < 18446744073709551616 by omega)] at e
    exact .inr ⟨h, by omega⟩
  ·rintro (h | ⟨h, e⟩)
   ·exact .inl h
   ·rw [wrapU, Nat.mod_eq_of_lt (show s.seq + 1 < 18446744073709551616 by omega)]
    exact .inr ⟨h, by omega⟩
 rw [Bool.eq_iff_iff]
 unfold follows
 rw [decide_eq_true_iff, Bool.and_eq_true, Bool.and_eq_true, decide_eq_true_iff, decide_eq_true_iff, key]
theorem read_l (L : List S24) (hL : ∀ x ∈ L, okT x ∧ goodS x = true) (hn : L.length ≤ 10000) : ∀ (d i from_ : Nat) (s : LogP) (o : List S24), i + d = L.length → from_ ≤ i → (L.take i).drop from_ = o → RdI i s o →
  Ev (fun k => journal_Read.l0 k (from_ : Int) L L (L.length : Int) (i : Int) (s.seq : Int) s.gr (ba s.by_)) (rdP s o (L.drop i)).outN := by
 intro d
 induction d with
 | zero =>
  intro i from_ s o hi hf ho h
  rw [List.drop_of_length_le (by omega), rdP]
  refine Ev.step (fun k => ?_) (read_stop s)
  simp only [journal_Read.l0]
  rw [if_neg (by omega)]
 | succ d ih =>
  intro i from_ s o hi hf ho h
  have hlt : i < L.length := by omega
  have hx := hL _ (List.getElem_mem hlt)
  have hr := rj24 L i hlt
  have htk : (L.take (i + 1)).drop from_ = o ++ [L[i]'hlt] := by
   rw [List.take_succ_eq_append_getElem hlt, List.drop_append_of_le_length (by rw [List.length_take]; omega), ho]
  have htn : (L.take (i + 1)).drop (i + 1) = [] := List.drop_of_length_le (by rw [List.length_take]; omega)
  rw [List.drop_eq_getElem_cons hlt, rdP]
  generalize L[i]'hlt = x at hx hr htk
  have hgr := h.gr
  have hby := h.len
  have hol := h.ol
  have hsq := h.seq
  by_cases h8 : x.f0 = 8
  ·rw [if_pos h8, follows_eq s x hsq]
   have hl0 : ∀ k, journal_Read.l0 (k + 1) (from_ : Int) L L (L.length : Int) (i : Int) (s.seq : Int) s.gr (ba s.by_) = journal_Read.j1 k (from_ : Int) L (i : Int) (nextB s x) L (L.length : Int) (i : Int) (s.seq : Int) s.gr (ba s.by_) x.f0 x.f1 x.f2 x.f3 x.f4 := fun k => by
    simp only [journal_Read.l0]
    rw [if_pos (by omega), if_pos (by omega), if_pos (by omega), hr, if_pos h8]
    unfold nextB
    by_cases hg0 : s.gr.length = 0
    ·rw [if_pos (by omega), decide_eq_true hg0]; rfl
    ·rw [if_neg (by omega), decide_eq_false hg0]
     by_cases hs : s.seq < 18446744073709551615
     ·rw [if_pos (by omega), decide_eq_true hs]; rfl
     ·rw [if_neg (by omega), decide_eq_false hs]; rfl
   have hstop : Ev (fun k => journal_Read.j2 k (from_ : Int) L (i : Int) L (L.length : Int) (i : Int) true (s.seq : Int) s.gr (ba s.by_) x.f0 x.f1 x.f2 x.f3 x.f4) s.outN := by
    refine Ev.step (fun k => ?_) (read_stop s)
    simp only [journal_Read.j2]
    exact if_pos trivial
   refine Ev.step hl0 ?_
   refine Ev.step (fun k => by simp only [journal_Read.j1]; rfl) ?_
   by_cases h1 : x.f1 = 0
   case neg =>
    rw [decide_eq_false h1, Bool.false_and, if_neg (by decide)]
    exact Ev.congr (fun k => if_neg h1) hstop
   by_cases h2 : x.f2 = 0
   case neg =>
    rw [decide_eq_false h2, Bool.false_and, Bool.and_false, if_neg (by decide)]
    exact Ev.congr (fun k => (if_pos h1).trans (if_neg h2)) hstop
   refine Ev.congr (fun k => (if_pos h1).trans (if_pos h2)) ?_
   rw [decide_eq_true h1, decide_eq_true h2, Bool.true_and, Bool.true_and]
   cases hb : nextB s x with
   | false => rw [if_neg (by decide)]; exact hstop
   | true =>
    rw [if_pos rfl]
    have h5 := hx.1.1
    have hw := ev_with s (s.seq : Int) x.f3.toNat o (by omega) h.ok (by omega) (by omega) (by omega)
    rw [with_ok s x o h.com h.good, show ((x.f3.toNat : Nat) : Int) = x.f3 by omega] at hw
    have hE := ih (i + 1) (i + 1) (nxtP s x o) [] (by omega) (Nat.le_refl _) htn (rdI_close h x hx.1)
    have h3 : Ev (fun k => journal_Read.j3 k ((i + 1 : Nat) : Int) L L (L.length : Int) (i : Int) ((nxtP s x o).seq : Int) (nxtP s x o).gr (ba (nxtP s x o).by_)) (rdP (nxtP s x o) [] (L.drop (i + 1))).outN := by
     refine Ev.step (fun k => ?_) hE
     simp only [journal_Read.j3]
     rw [wj i (by omega)]
    have fin : Ev (fun k => (journal_Log_with.f k (s.seq : Int) s.gr (ba s.by_) x.f3 o).bind fun bt => journal_Read.j3 k ((i + 1 : Nat) : Int) L L (L.length : Int) (i : Int) bt.1 bt.2.1 bt.2.2.1) (rdP (nxtP s x o) [] (L.drop (i + 1))).outN := Ev.bind hw h3
    refine Ev.step (fun k => ?_) fin
    simp only [journal_Read.j2]
    rw [if_neg (by decide), if_pos (by omega), if_pos (by omega), if_pos (by omega), wj i (by omega), Int.toNat_natCast, Int.toNat_natCast, ho]
  ·rw [if_neg h8]
   have hE := ih (i + 1) from_ s (o ++ [x]) (by omega) (by omega) htk (rdI_open h x hx h8)
   have h3 : Ev (fun k => journal_Read.j3 k (from_ : Int) L L (L.length : Int) (i : Int) (s.seq : Int) s.gr (ba s.by_)) (rdP s (o ++ [x]) (L.drop (i + 1))).outN := by
    refine Ev.step (fun k => ?_) hE
    simp only [journal_Read.j3]
    rw [wj i (by omega)]
   refine Ev.step (fun k => ?_) h3
   simp only [journal_Read.l0]
   rw [if_pos (by omega), if_pos (by omega), if_pos (by omega), hr, if_neg h8]
theorem rread_stop (s : LogP) : Ev (fun k => r13_Read.j3 k (s.seq : Int) (s.gr.map a46) (ba s.by_)) s.outM := by
 refine Ev.step (f := fun _ => some s.outM) (fun k => ?_) (Ev.now _)
 simp only [r13_Read.j3]
 rw [ba_size]
 rfl
theorem rread_l (L : List S24) (hL : ∀ x ∈ L, okT x ∧ goodS x = true) (hn : L.length ≤ 10000) : ∀ (d i : Nat) (s : LogP) (o : List S24), i + d = L.length → RdI i s o →
  Ev (fun k => r13_Read.l0 k (L.map a26) (o.map a26) (i : Int) (s.seq : Int) (s.gr.map a46) (ba s.by_)) (rdP s o (L.drop i)).outM := by
 intro d
 induction d with
 | zero =>
  intro i s o hi h
  rw [List.drop_of_length_le (by omega), rdP]
  refine Ev.step (fun k => ?_) (rread_stop s)
  simp only [r13_Read.l0]
  rw [if_neg (by rw [List.length_map]; omega)]
 | succ d ih =>
  intro i s o hi h
  have hlt : i < L.length := by omega
  have hx := hL _ (List.getElem_mem hlt)
  have hr := rj26 L i hlt
  rw [List.drop_eq_getElem_cons hlt, rdP]
  generalize L[i]'hlt = x at hx hr
  have hgr := h.gr
  have hby := h.len
  have hol := h.ol
  have hsq := h.seq
  have f0 : (a26 x).f0 = x.f0 := rfl
  have f1 : (a26 x).f1 = x.f1 := rfl
  have f2 : (a26 x).f2 = x.f2 := rfl
  have f3 : (a26 x).f3 = x.f3 := rfl
  by_cases h8 : x.f0 = 8
  ·rw [if_pos h8]
   have hl0 : ∀ k, r13_Read.l0 (k + 1) (L.map a26) (o.map a26) (i : Int) (s.seq : Int) (s.gr.map a46) (ba s.by_) = r13_Read.j1 k (L.map a26) (o.map a26) (i : Int) (!(follows s x)) (s.seq : Int) (s.gr.map a46) (ba s.by_) := fun k => by
    simp only [r13_Read.l0]
    rw [if_pos (by rw [List.length_map]; omega), if_pos (by omega), hr, f0, f1, f2, f3, if_pos h8, follows_eq s x hsq]
    by_cases h1 : x.f1 = 0
    case neg => rw [if_neg h1, decide_eq_false h1]; rfl
    by_cases h2 : x.f2 = 0
    case neg => rw [if_pos h1, if_neg h2, decide_eq_true h1, decide_eq_false h2]; rfl
    rw [if_pos h1, if_pos h2, decide_eq_true h1, decide_eq_true h2]
    unfold nextB
    by_cases hg0 : s.gr.length = 0
    ·rw [if_neg (show ¬ (((s.gr.map a46).length : Nat) : Int) > 0 by rw [List.length_map]; omega), decide_eq_true hg0]; rfl
    ·rw [if_pos (show (((s.gr.map a46).length : Nat) : Int) > 0 by rw [List.length_map]; omega), decide_eq_false hg0]
     by_cases hs : s.seq < 18446744073709551615
     ·rw [if_neg (by omega), decide_eq_true hs]; rfl
     ·rw [if_pos (by omega), decide_eq_false hs]; rfl
   refine Ev.step hl0 ?_
   cases hfo : follows s x with
   | false =>
    rw [if_neg (by decide)]
    refine Ev.step (fun k => ?_) (rread_stop s)
    simp only [r13_Read.j1]
    exact if_pos rfl
   | true =>
    rw [if_pos rfl]
    have h5 := hx.1.1
    have hI := rdI_close h x hx.1
    have hb := ev_bytes x.f3.toNat o (by omega) h.ok (by omega)
    have hc : closedO x.f3.toNat o = (ba (recsL o ++ recS (cm x.f3.toNat)), 0) := by
     unfold closedO
     rw [closed_ok _ o h.com h.good]
    rw [hc, show ((x.f3.toNat : Nat) : Int) = x.f3 by omega] at hb
    have hE := ih (i + 1) (nxtP s x o) [] (by omega) hI
    have hl := recsL_len o h.ok
    have hl2 := recS_len (cm x.f3.toNat)
    have hl3 : (txtS (cm x.f3.toNat)).length = 0 := rfl
    have e : (nxtP s x o).gr.map a46 = s.gr.map a46 ++ [(⟨x.f3, o.map a26⟩ : S46)] := by
     show (s.gr ++ [_]).map a46 = _
     rw [List.map_append]
     show s.gr.map a46 ++ [(⟨((x.f3.toNat : Nat) : Int), o.map a26⟩ : S46)] = _
     rw [show ((x.f3.toNat : Nat) : Int) = x.f3 by omega]
    have es : ((nxtP s x o).seq : Int) = x.f3 := by show ((x.f3.toNat : Nat) : Int) = x.f3; omega
    rw [e, es] at hE
    have h2 : Ev (fun k => r13_Read.j2 k (L.map a26) ([] : List S26) (i : Int) x.f3 (s.gr.map a46 ++ [(⟨x.f3, o.map a26⟩ : S46)]) (ba (s.by_ ++ (recsL o ++ recS (cm x.f3.toNat))))) (rdP (nxtP s x o) [] (L.drop (i + 1))).outM := by
     refine Ev.step (fun k => ?_) hE
     simp only [r13_Read.j2]
     rw [wj i (by omega)]
     rfl
    have fin : Ev (fun k => (r13_bytes.f k x.f3 (o.map a26)).bind fun bt308 => (if (s.gr.map a46).length < 4398046511104 then (if (ba s.by_).size + bt308.1.size ≤ 9223372036854775807 then (r13_Read.j2 k (L.map a26) ([] : List S26) (i : Int) x.f3 (s.gr.map a46 ++ [(⟨x.f3, o.map a26⟩ : S46)]) (ba s.by_ ++ bt308.1)) else (none)) else (none))) (rdP (nxtP s x o) [] (L.drop (i + 1))).outM := by
     refine Ev.bind hb ?_
     refine Ev.congr (fun k => ?_) h2
     show (if (s.gr.map a46).length < 4398046511104 then (if (ba s.by_).size + (ba (recsL o ++ recS (cm x.f3.toNat))).size ≤ 9223372036854775807 then (r13_Read.j2 k (L.map a26) ([] : List S26) (i : Int) x.f3 (s.gr.map a46 ++ [(⟨x.f3, o.map a26⟩ : S46)]) (ba s.by_ ++ ba (recsL o ++ recS (cm x.f3.toNat)))) else (none)) else (none)) = _
     rw [if_pos (by rw [List.length_map]; omega), ba_size, ba_size, if_pos (by rw [List.length_append]; omega), ba_append]
    refine Ev.step (fun k => ?_) fin
    simp only [r13_Read.j1]
    rw [if_neg (by decide), if_pos (by omega), if_pos (by rw [List.length_map]; omega), hr, f3]
  ·rw [if_neg h8]
   have hE := ih (i + 1) s (o ++ [x]) (by omega) (rdI_open h x hx h8)
   rw [List.map_append] at hE
   have h2 : Ev (fun k => r13_Read.j2 k (L.map a26) (o.map a26 ++ [a26 x]) (i : Int) (s.seq : Int) (s.gr.map a46) (ba s.by_)) (rdP s (o ++ [x]) (L.drop (i + 1))).outM := by
    refine Ev.step (fun k => ?_) hE
    simp only [r13_Read.j2]
    rw [wj i (by omega)]
    rfl
   refine Ev.step (fun k => ?_) h2
   simp only [r13_Read.l0]
   rw [if_pos (by rw [List.length_map]; omega), if_pos (by omega), hr, f0, if_neg h8, if_pos (by rw [List.length_map]; omega)]
   rfl
theorem step_ok (s : List UInt8) (h : (takeS s).err = 0) (hs : s.length ≤ 4000) : (okT (takeS s).step ∧ goodS (takeS s).step = true) ∧ recS (takeS s).step ++ (takeS s).rest = s := by
 obtain ⟨h1, h2, h3, h4⟩ := put_take s h
 have ht : txtS (takeS s).step = (takeS s).text := rfl
 refine ⟨⟨⟨⟨by show (0 : Int) ≤ ((takeS s).n : Int); omega, by show ((takeS s).n : Int) < _; omega⟩, by rw [ht]; omega⟩, ?_⟩, ?_⟩
 ·unfold goodS; rw [ht]; exact h1
 ·unfold recS
  rw [ht]
  exact h4
theorem scan_whole : ∀ (m : Nat) (s : List UInt8), s.length ≤ 4000 → (∀ x ∈ (scanS m s).1, okT x ∧ goodS x = true) ∧ recsL (scanS m s).1 ++ (scanS m s).2 = s
 | 0, s, _ => ⟨fun _ h => (by cases h), rfl⟩
 | m + 1, s, hs => by
  rw [scanS]
  by_cases h : (takeS s).err = 0
  ·obtain ⟨h1, h2⟩ := step_ok s h hs
   have hl := rest_len s h
   obtain ⟨h3, h4⟩ := scan_whole m (takeS s).rest (by omega)
   rw [if_pos h]
   refine ⟨fun x hx => ?_, ?_⟩
   ·rcases List.mem_cons.1 hx with rfl | hx
    ·exact h1
    ·exact h3 x hx
   ·show recsL ((takeS s).step :: (scanS m (takeS s).rest).1) ++ (scanS m (takeS s).rest).2 = s
    unfold recsL at h4 ⊢
    rw [List.flatMap_cons, List.append_assoc, h4, h2]
  ·rw [if_neg h]
   exact ⟨fun _ h => (by cases h), rfl⟩
theorem com_rec (x : S24) (hg : goodS x = true) (h8 : x.f0 = 8) (h1 : x.f1 = 0) (h2 : x.f2 = 0) : recS x = recS (cm x.f3.toNat) := by
 unfold goodS rightS at hg
 rw [Bool.and_eq_true] at hg
 have ht : txtS x = [] := by
  rcases Bool.or_eq_true _ _ ▸ hg.1 with h | h
  ·exact List.isEmpty_iff.1 h
  ·rw [h8] at h; simp at h
 unfold recS
 rw [ht, h8, h1, h2]
 rfl
theorem rd_prefix : ∀ (r : List S24) (s : LogP) (o : List S24) (tail s0 : List UInt8), (∀ x ∈ r, okT x ∧ goodS x = true) → s.by_ ++ (recsL o ++ (recsL r ++ tail)) = s0 → ∃ z, (rdP s o r).by_ ++ z = s0
 | [], s, o, tail, s0, _, h => ⟨_, h⟩
 | x :: r, s, o, tail, s0, hr, h => by
  have hx := hr x List.mem_cons_self
  have e : recsL (x :: r) = recS x ++ recsL r := by unfold recsL; rw [List.flatMap_cons]
  rw [rdP]
  by_cases h8 : x.f0 = 8
  ·rw [if_pos h8]
   cases hf : follows s x with
   | false => rw [if_neg (by decide)]; exact ⟨_, h⟩
   | true =>
    rw [if_pos rfl]
    obtain ⟨h1, h2, _⟩ := of_decide_eq_true hf
    refine rd_prefix r (nxtP s x o) [] tail s0 (fun y hy => hr y (List.mem_cons_of_mem _ hy)) ?_
    rw [e, com_rec x hx.2 h8 h1 h2] at h
    rw [← h]
    show (s.by_ ++ (recsL o ++ recS (cm x.f3.toNat))) ++ (recsL [] ++ (recsL r ++ tail)) = _
    simp only [List.append_assoc, recsL, List.flatMap_nil, List.nil_append]
  ·rw [if_neg h8]
   refine rd_prefix r s (o ++ [x]) tail s0 (fun y hy => hr y (List.mem_cons_of_mem _ hy)) ?_
   rw [← h, e]
   have e2 : recsL (o ++ [x]) = recsL o ++ recS x := by unfold recsL; rw [List.flatMap_append]; simp
   rw [e2]
   simp only [List.append_assoc]
theorem okL_of {i : Nat} {s : LogP} {o : List S24} (h : RdI i s o) (hi : i ≤ 10000) : okL s := ⟨by have := h.gr; omega, by have := h.len; omega, h.seq, fun g hg => by have := h.gl g hg; omega⟩
theorem rd_okL : ∀ (r : List S24) (i : Nat) (s : LogP) (o : List S24), i + r.length ≤ 10000 → (∀ x ∈ r, okT x ∧ goodS x = true) → RdI i s o → okL (rdP s o r)
 | [], i, s, o, hi, _, h => okL_of h (by rw [List.length_nil] at hi; omega)
 | x :: r, i, s, o, hi, hr, h => by
  rw [List.length_cons] at hi
  have hx := hr x List.mem_cons_self
  have hr' := fun y hy => hr y (List.mem_cons_of_mem x hy)
  rw [rdP]
  by_cases h8 : x.f0 = 8
  ·rw [if_pos h8]
   cases hf : follows s x with
   | false => rw [if_neg (by decide)]; exact okL_of h (by omega)
   | true => rw [if_pos rfl]; exact rd_okL r (i + 1) (nxtP s x o) [] (by omega) hr' (rdI_close h x hx.1)
  ·rw [if_neg h8]; exact rd_okL r (i + 1) s (o ++ [x]) (by omega) hr' (rdI_open h x hx h8)
theorem ev_read (s : List UInt8) (L : List S24) (hs : s.length ≤ 1000000) (hL : (scanS s.length s).1 = L) (hok : ∀ x ∈ L, okT x ∧ goodS x = true) (hn : L.length ≤ 10000) : Ev (fun k => journal_Read.f k (ba s)) (rdP zeroL [] L).outN := by
 subst hL
 refine Ev.bind (ev_scan s hs) ?_
 have h := read_l (scanS s.length s).1 hok hn _ 0 0 zeroL [] (Nat.zero_add _) (Nat.le_refl _) rfl rdI_zero
 rw [List.drop_zero] at h
 exact h
theorem ev_rread (s : List UInt8) (L : List S24) (hs : s.length ≤ 1000000) (hL : (scanS s.length s).1 = L) (hok : ∀ x ∈ L, okT x ∧ goodS x = true) (hn : L.length ≤ 10000) : Ev (fun k => r13_Read.f k (ba s)) (rdP zeroL [] L).outM := by
 subst hL
 refine Ev.bind (ref_scan s hs) ?_
 have h := rread_l (scanS s.length s).1 hok hn _ 0 zeroL [] (Nat.zero_add _) rdI_zero
 rw [List.drop_zero] at h
 exact h
theorem reads_j0 (s : List UInt8) (hs : s.length ≤ 3000) : Ev (fun k => l13_JournalReads.j0 k (ba s) true false) true := by
 obtain ⟨hok, hw⟩ := scan_whole s.length s (by omega)
 have hn := scan_count s.length s
 have h1 := ev_read s _ (by omega) rfl hok (by omega)
 have h2 := ev_rread s _ (by omega) rfl hok (by omega)
 have hl := rd_okL (scanS s.length s).1 0 zeroL [] (by omega) hok rdI_zero
 obtain ⟨z, hz⟩ := rd_prefix (scanS s.length s).1 zeroL [] (scanS s.length s).2 s hok hw
 generalize rdP zeroL [] (scanS s.length s).1 = t at h1 h2 hl hz
 have hm := sameG_yes t hl
 have hlen := congrArg List.length hz
 rw [List.length_append] at hlen
 refine Ev.step (f := fun k => (journal_Read.f k (ba s)).bind fun bt325 => ((r13_Read.f k (ba s)).bind fun bt332 => ((l13_same.f k bt325.1 bt325.2.1 bt325.2.2.1 bt332.1 bt332.2.1 bt332.2.2.1).bind fun t339 => (if t339 = true then (if bt325.2.2.2 = bt332.2.2.2 then (if bt325.2.2.2 ≤ ((ba s).size : Int) then (if 0 ≤ bt325.2.2.2 then (some (bt325.2.2.1.toList == ((ba s).extract 0 (bt325.2.2.2 : Int).toNat).toList)) else (none)) else (none)) else (none)) else (none))))) (fun k => ?_) ?_
 ·simp only [l13_JournalReads.j0]
  exact if_neg (by decide)
 refine Ev.bind h1 ?_
 refine Ev.bind h2 ?_
 refine Ev.bind hm ?_
 refine Ev.congr (f := fun _ => some true) (fun k => ?_) (Ev.now _)
 show (if (t.by_.length : Int) = (t.by_.length : Int) then (if (t.by_.length : Int) ≤ ((ba s).size : Int) then (if 0 ≤ (t.by_.length : Int) then (some ((ba t.by_).toList == ((ba s).extract 0 ((t.by_.length : Int)).toNat).toList)) else (none)) else (none)) else (none)) = some true
 rw [if_pos rfl, ba_size, if_pos (by omega), if_pos (by omega), Int.toNat_natCast, ba_take, ← hz, List.take_left]
 exact congrArg some (beq_self_eq_true _)
theorem JournalReads (x : ByteArray) {n : Nat} (_ : x.size ≤ n) : ∃ k, l13_JournalReads.f k x = some true := by
 obtain ⟨s, rfl⟩ := ex_ba x
 refine Ev.rounds (g := fun k => l13_JournalReads.f k (ba s)) ?_
 refine Ev.bind shown13 ?_
 refine Ev.congr (fun k => if_pos rfl) ?_
 by_cases h : s.length > 3000
 ·rw [decide_eq_true (show ((ba s).size : Int) > 3000 by rw [ba_size]; omega)]
  refine Ev.step (f := fun _ => some true) (fun k => ?_) (Ev.now _)
  simp only [l13_JournalReads.j0]
  exact if_pos trivial
 ·rw [decide_eq_false (show ¬ ((ba s).size : Int) > 3000 by rw [ba_size]; omega)]
  exact reads_j0 s (by omega)
end Go.Proofs.YtboommbclbjlnaaDoor.Pu
end
section
namespace Go.Proofs.YtboommbclbjlnaaDoor.RowB0
open Go.Shelf Go.ChangeShapes Go.WideShapes Go.ChangeAt Go.RowKit Go.Lib Go.Deep
theorem own : ownKnob Tryd.prog.godebug = none := by kernel_rfl
theorem laidOut : laidOutB Tryd.prog = true := by kernel_rfl
def litOf : DataW Unit → Value
  | .lit (.int k z) => .int k z
  | _ => .bool false
def cellsOf : DataW Unit → List Value
  | .agg l => l.flatMap fun | .agg m => m.map litOf | x => [litOf x]
  | x => [litOf x]
theorem accept_eq : (Rows.laid_unicode_utf8_acceptRanges : DataW Unit) = acceptData := by kernel_rfl
theorem first_eq : Rows.laid_unicode_utf8_first = firstData := by unfold Rows.laid_unicode_utf8_first; exact Pinned.utf8First_eq
abbrev laids : List (String × DataW Unit) := [("unicode/utf8.acceptRanges", Rows.laid_unicode_utf8_acceptRanges), ("unicode/utf8.first", Rows.laid_unicode_utf8_first)]
theorem tabs {W : World} (h : laidMetH Tryd.prog laids W) : Lf.Tabs W := by
  have h' : laidMet Tryd.prog laids W := h
  have h1 := Lib.laidMet.reads h' (n := "unicode/utf8.acceptRanges") (.head _)
  have h2 := Lib.laidMet.reads h' (n := "unicode/utf8.first") (.tail _ (.head _))
  rw [accept_eq] at h1
  rw [first_eq] at h2
  exact ⟨utf8Tabs_of_readsT (U8Types.of196 Lf.laysValid) ⟨by kernel_rfl, by kernel_rfl, by kernel_rfl, by kernel_rfl, by kernel_rfl, by kernel_rfl, by kernel_rfl⟩ h2 h1⟩
noncomputable def laidWorld (os : Os) : World :=
  let w0 := World.holding Tryd.prog os ⟨#[], #[], []⟩
  let put (h : Array Obj) (g : Nat) (cs : Array Value) : Array Obj := h.modify g fun
    | .cells _ t frozen => .cells cs t frozen
    | o => o
  let h0 := put w0.heap 1 (cellsOf Rows.laid_unicode_utf8_acceptRanges).toArray
  let h1 := put h0 0 (Lib.firstTab.map fun z => Value.int .u8 z).toArray
  { w0 with heap := h1 }
theorem laid_met (os : Os) (args : Array Value) : laidMet Tryd.prog laids ((laidWorld os).forCall (fun _ _ => 0) ⟨#[], args, []⟩).memory := by
  unfold laids
  rw [first_eq]
  exact laidMet_of_run' 8 (by kernel_rfl) (by kernel_rfl)
end Go.Proofs.YtboommbclbjlnaaDoor.RowB0
end
section
namespace Go.Proofs.YtboommbclbjlnaaDoor.RowN
open Go.Shelf Go.ChangeShapes Go.WideShapes Go.ChangeAt Go.RowKit Go.Lib Go.Deep
open Go.ChangeMaps (open_string shut_string)
set_option maxRecDepth 100000
section
variable {H : Type} {enc : TypeId × Value → H} {W : World} {base b0 : Nat} {sp : Nat → Bool} {held : Bool}
theorem open_text {t : TypeId} (ht : Tryd.prog.underlying t = some .string) {r : Reach} {v : Value} {d : DataW H} {p : List MemPlace} (hv : Value.okWide Tryd.prog W r b0 t v)
    (h : DataW.Trod enc Tryd.prog W base sp held t v d p) : ∃ s : ByteArray, v = .string s ∧ s.size ≤ maxLen := by
  obtain ⟨s, rfl, _, _, w⟩ := open_string ht hv h
  exact ⟨s, rfl, w⟩
end
end Go.Proofs.YtboommbclbjlnaaDoor.RowN
end
