-- Packed by pack.py, a program of this session, out of texts of this claim.
import Derived.Test.YtcgejogmiglalaaDoorPlBytes
import Derived.Test.YtcgejogmiglalaaDoorPlCrc
import Derived.Test.YtcgejogmiglalaaDoorClHeadNot1
import Derived.Test.YtcgejogmiglalaaDoorClHeadNot2
import Derived.Test.YtcgejogmiglalaaDoorPlBurst
import Derived.Test.YtcgejogmiglalaaDoorRows
import Derived.Test.YtcgejogmiglalaaDoorLfNoTabs
import Derived.Lib.LaidU8T
import Derived.Lib.LaidTab
import Derived.Lib.LaidU8
import Derived.PinnedBridge
import Derived.WalkKit
import Derived.ProofKit
import Derived.OpenShut
import Derived.ChangeOld
import Derived.Below
import Derived.SizedLaws
import Derived.Carry
import Derived.Deep.DeepHandedRow
import Derived.Deep.DeepWitnessRowRef
import Derived.Deep.Fields
import Derived.Deep.DeepLaidRun
import Derived.Lib.TrailingZeros
import Derived.Stop.LaidErr
import Derived.Shelf.Vars
import Derived.ChangeShapes
import Derived.Lib.SmallJoins
import Derived.Deep.Slices
section
namespace Go.Proofs.YtcgejogmiglalaaDoor.Pu
open Go Go.RowKit Go.Proofs.YtcgejogmiglalaaDoor.Pl Go.Proofs.YtcgejogmiglalaaDoor.Lf Go.Proofs.YtcgejogmiglalaaDoor.Fn Go.Proofs.YtcgejogmiglalaaDoorW.PrintWords
theorem u64_nat (n : Nat) (h : n < 18446744073709551616) : IntKind.u64.wrap (n : Int) = (n : Int) := by
 simp [IntKind.wrap, IntKind.bits, IntKind.signed]; omega
theorem w64 (x : Int) (h0 : -9223372036854775808 ≤ x) (h1 : x < 9223372036854775808) : wrap64 x = x := by unfold wrap64; omega
theorem str_put (n m : Nat) : strOfNums (Go.Proofs.YtcgejogmiglalaaDoor.Lf.bytesOf (n : Int) m) = ba (putN n m) := by
 unfold strOfNums Go.Proofs.YtcgejogmiglalaaDoor.Lf.bytesOf putN ba
 rw [List.map_map]
 congr 2
theorem put_eq (n : Nat) (h : n < 18446744073709551616) (m : Int) : le_Put.f (n : Int) m = some (ba (putN n (many8 m))) := by
 unfold le_Put.f
 rw [if_pos ⟨by omega, by omega⟩, str_put]
theorem ref_put_l (m : Nat) (hm : m ≤ 8) : ∀ (d n : Nat) (acc : List Int) (i : Nat), n < 18446744073709551616 → acc.length = i → i + d = m →
  Ev (fun k => r2_Put.l0 k (n : Int) (m : Int) acc (i : Int)) (strOfNums (acc ++ (List.range d).map fun j => ((n / 256 ^ j % 256 : Nat) : Int))) := by
 intro d
 induction d with
 | zero =>
  intro n acc i hn ha hi
  refine Ev.step (f := fun _ => some (strOfNums (acc ++ []))) (fun k => ?_) (Ev.now _)
  simp only [r2_Put.l0]
  rw [if_neg (by omega), List.append_nil]
 | succ d ih =>
  intro n acc i hn ha hi
  have e1 : IntKind.u64.wrap (Int.tdiv (n : Int) 256) = ((n / 256 : Nat) : Int) := by
   rw [show Int.tdiv (n : Int) 256 = ((n / 256 : Nat) : Int) by rw [Int.tdiv_eq_ediv_of_nonneg (by omega)]; omega]
   exact u64_nat _ (by omega)
  have e2 : (Int.tmod (n : Int) 256) % 256 = ((n % 256 : Nat) : Int) := by
   rw [Int.tmod_eq_emod_of_nonneg (by omega)]; omega
  have e3 : wrap64 ((i : Int) + 1) = ((i + 1 : Nat) : Int) := by rw [w64 _ (by omega) (by omega)]; omega
  have h := ih (n / 256) (acc ++ [((n % 256 : Nat) : Int)]) (i + 1) (by omega) (by simp [ha]) (by omega)
  have es : acc ++ [((n % 256 : Nat) : Int)] ++ (List.range d).map (fun j => ((n / 256 / 256 ^ j % 256 : Nat) : Int)) = acc ++ (List.range (d + 1)).map (fun j => ((n / 256 ^ j % 256 : Nat) : Int)) := by
   rw [List.range_succ_eq_map, List.map_cons, List.map_map, List.append_assoc]
   congr 1
   simp only [List.singleton_append, Nat.pow_zero, Nat.div_one]
   congr 1
   apply List.map_congr_left
   intro j _
   simp only [Function.comp, Nat.succ_eq_add_one, Nat.pow_succ, Nat.div_div_eq_div_mul]
   rw [Nat.mul_comm 256 (256 ^ j)]
  rw [es] at h
  refine Ev.step (fun k => ?_) h
  simp only [r2_Put.l0]
  rw [if_pos (by omega), if_pos (by omega), if_pos (by omega), e1, e2, e3]
theorem ref_put (n m : Nat) (hn : n < 18446744073709551616) (hm : m ≤ 8) : Ev (fun k => r2_Put.f k (n : Int) (m : Int)) (ba (putN n m)) := by
 have h := ref_put_l m hm m n [] 0 hn rfl (by omega)
 have e : strOfNums ([] ++ (List.range m).map fun j => ((n / 256 ^ j % 256 : Nat) : Int)) = ba (putN n m) := by
  unfold strOfNums putN ba
  rw [List.nil_append, List.map_map]
  rfl
 rw [e] at h
 exact h
theorem bx (a b : BitVec 32) : bits .xor .u32 ((a.toNat : Nat) : Int) ((b.toNat : Nat) : Int) = (((a ^^^ b).toNat : Nat) : Int) := by
 rw [u32_xor_nat _ _ a.isLt b.isLt, BitVec.toNat_xor]
theorem nib_eq (r : BitVec 32) : nib ((r.toNat : Nat) : Int) = (((ticks 4 r).toNat : Nat) : Int) := by
 unfold nib
 have e1 : ((r.toNat : Nat) : Int) / (16 : Int) = (((r >>> 4).toNat : Nat) : Int) := by
  rw [BitVec.toNat_ushiftRight, Nat.shiftRight_eq_div_pow]; omega
 have e2 : bits .and .u32 ((r.toNat : Nat) : Int) 15 = (((r &&& 15#32).toNat : Nat) : Int) := by
  have := u32_and_nat r.toNat 15 r.isLt (by omega)
  rw [show ((15 : Nat) : Int) = 15 from rfl] at this
  rw [this, BitVec.toNat_and]; rfl
 have e3 : ((tabL.getD ((r &&& 15#32).toNat : Int).toNat 0 : Nat) : Int) = (((ticks 4 (r &&& 15#32)).toNat : Nat) : Int) := by
  have hlt : (r &&& 15#32).toNat < 16 := by
   rw [BitVec.toNat_and]; exact Nat.and_lt_two_pow (n := 4) _ (by decide)
  have key : ∀ i : Fin 16, tabL.getD i.val 0 = (ticks 4 (BitVec.ofNat 32 i.val)).toNat := by decide +kernel
  have := key ⟨(r &&& 15#32).toNat, hlt⟩
  simp only [BitVec.ofNat_toNat, BitVec.setWidth_eq] at this
  rw [Int.toNat_natCast, this]
 rw [e1, e2, e3, bx, ← ticks4_split]
theorem byteStep_eq (r : BitVec 32) (c : UInt8) : byteStep ((r.toNat : Nat) : Int) c = (((crcB r c).toNat : Nat) : Int) := by
 unfold byteStep crcB
 have hc := c.toNat_lt
 have e : (c.toNat : Int) % 4294967296 = (((BitVec.ofNat 32 c.toNat).toNat : Nat) : Int) := by
  rw [BitVec.toNat_ofNat, Nat.mod_eq_of_lt (by omega)]; omega
 rw [e, bx, nib_eq, nib_eq, ← ticks8]
theorem sumI_eq (l : List UInt8) : sumI l = (((crcR (BitVec.allOnes 32) l).toNat : Nat) : Int) := by
 have key : ∀ (l : List UInt8) (r : BitVec 32), l.foldl byteStep ((r.toNat : Nat) : Int) = (((crcR r l).toNat : Nat) : Int) := by
  intro l
  induction l with
  | nil => intro r; rfl
  | cons c l ih => intro r; rw [List.foldl_cons, byteStep_eq, ih]; rfl
 exact key l (BitVec.allOnes 32)
theorem not_eq (r : BitVec 32) : bits .xor .u32 4294967295 ((r.toNat : Nat) : Int) = (((~~~r).toNat : Nat) : Int) := by
 have := bx (BitVec.allOnes 32) r
 rw [BitVec.allOnes_xor] at this
 exact this
theorem not_eq' (r : BitVec 32) : bits .xor .u32 ((r.toNat : Nat) : Int) 4294967295 = (((~~~r).toNat : Nat) : Int) := by
 have := bx r (BitVec.allOnes 32)
 rw [BitVec.xor_allOnes] at this
 exact this
theorem sum_eq (l : List UInt8) (h : l.length ≤ 9223372036854775807) : seal_Sum.f (ba l) = some (((crc l).toNat : Nat) : Int) := by
 unfold seal_Sum.f
 rw [ba_size, if_pos h, ba_list, sumI_eq, not_eq]
 rfl
def sealed (l : List UInt8) : List UInt8 := l ++ putN (crc l).toNat 4
theorem sealed_length (l : List UInt8) : (sealed l).length = l.length + 4 := by simp [sealed, putN_length]
theorem seal_put_eq (l : List UInt8) (h : l.length ≤ 1000000000) : seal_Put.f (ba l) = some (ba (sealed l)) := by
 unfold seal_Put.f
 have hc := (crc l).isLt
 rw [sum_eq l (by omega), Option.bind_some, u64_nat _ (by omega), put_eq _ (by omega), Option.bind_some]
 have : many8 4 = 4 := by decide
 rw [this, ba_size, ba_size, putN_length, if_pos (by omega), ba_append]
 rfl
theorem ref_bit (k : Nat) (s : ByteArray) (r c : BitVec 32) (i : Int) (j : Nat) (hj : j < 8) :
  r3_Sum.l1 (k + 1) s ((r.toNat : Nat) : Int) i ((c.toNat : Nat) : Int) (j : Int) =
   r3_Sum.l1 k s ((((r >>> 1) ^^^ (if (r ^^^ c).getLsbD 0 then poly else 0#32)).toNat : Nat) : Int) i (((c >>> 1).toNat : Nat) : Int) ((j + 1 : Nat) : Int) := by
 have e1 : ∀ x : BitVec 32, Int.tdiv ((x.toNat : Nat) : Int) 2 % (4294967296 : Int) = (((x >>> 1).toNat : Nat) : Int) := fun x => by
  have hx := x.isLt
  rw [Int.tdiv_eq_ediv_of_nonneg (by omega), BitVec.toNat_ushiftRight, Nat.shiftRight_eq_div_pow]
  omega
 have e2 : wrap64 ((j : Int) + 1) = ((j + 1 : Nat) : Int) := by rw [w64 _ (by omega) (by omega)]; omega
 have e3 : bits .and .u32 (bits .xor .u32 ((r.toNat : Nat) : Int) ((c.toNat : Nat) : Int)) 1 = (if (r ^^^ c).getLsbD 0 then 1 else 0) := by
  rw [bx]
  have h := u32_and_nat (r ^^^ c).toNat 1 (r ^^^ c).isLt (by omega)
  rw [show ((1 : Nat) : Int) = 1 from rfl] at h
  rw [h, nat_mask1]
  have : (r ^^^ c).getLsbD 0 = decide ((r ^^^ c).toNat % 2 = 1) := by
   simp [BitVec.getLsbD, Nat.testBit_zero]
  rw [this]
  by_cases hb : (r ^^^ c).toNat % 2 = 1
  ·rw [hb]; rfl
  ·rw [show (r ^^^ c).toNat % 2 = 0 by omega]; rfl
 have e4 : ∀ x : BitVec 32, bits .xor .u32 ((x.toNat : Nat) : Int) 3988292384 = (((x ^^^ poly).toNat : Nat) : Int) := fun x => bx x poly
 simp only [r3_Sum.l1]
 rw [if_pos (by omega), e3, e1, e1, e2]
 cases (r ^^^ c).getLsbD 0
 ·rw [if_neg (by decide), if_neg (by decide), BitVec.xor_zero]
 ·rw [if_pos (by decide), if_pos (by decide), e4]
theorem ref_bits (s : ByteArray) (i : Int) (R : Int) : ∀ (d j : Nat) (r c : BitVec 32), j + d = 8 → c.toNat < 2 ^ d →
  Ev (fun k => r3_Sum.l0 k s (((ticks d (r ^^^ c)).toNat : Nat) : Int) (wrap64 (i + 1))) R →
  Ev (fun k => r3_Sum.l1 k s ((r.toNat : Nat) : Int) i ((c.toNat : Nat) : Int) (j : Int)) R := by
 intro d
 induction d with
 | zero =>
  intro j r c hj hc h
  have hc0 : c = 0#32 := BitVec.eq_of_toNat_eq (by simpa using hc)
  subst hc0
  rw [BitVec.xor_zero] at h
  refine Ev.step (fun k => ?_) h
  simp only [r3_Sum.l1]
  rw [if_neg (by omega)]
  rfl
 | succ d ih =>
  intro j r c hj hc h
  refine Ev.step (fun k => ref_bit k s r c i j (by omega)) (ih (j + 1) _ (c >>> 1) (by omega) ?_ ?_)
  ·rw [BitVec.toNat_ushiftRight, Nat.shiftRight_eq_div_pow]
   have : (2 : Nat) ^ (d + 1) = 2 * 2 ^ d := by rw [Nat.pow_succ, Nat.mul_comm]
   omega
  ·have e : (r >>> 1 ^^^ if (r ^^^ c).getLsbD 0 = true then poly else 0#32) ^^^ c >>> 1 = tick (r ^^^ c) := by
    unfold tick
    generalize (if (r ^^^ c).getLsbD 0 = true then poly else 0#32) = q
    rw [BitVec.ushiftRight_xor_distrib, BitVec.xor_assoc, BitVec.xor_comm q, ← BitVec.xor_assoc]
   rw [e]
   exact h
theorem bt_ba (l : List UInt8) (i : Nat) (h : i < l.length) : bt (ba l) (i : Int) = ((l[i]'h).toNat : Int) := by
 unfold bt
 have h2 : (i : Int).toNat < (ba l).size := by rw [ba_size]; simpa using h
 rw [dif_pos h2]
 have : (ba l)[(i : Int).toNat]'h2 = l[i]'h := by
  show (ba l).data[(i : Int).toNat]'h2 = _
  simp [ba]
 rw [this]
theorem ref_sum_l (l : List UInt8) (hl : l.length ≤ 1000000000) : ∀ (d i : Nat) (r : BitVec 32), i + d = l.length →
  Ev (fun k => r3_Sum.l0 k (ba l) ((r.toNat : Nat) : Int) (i : Int)) (((~~~(crcR r (l.drop i))).toNat : Nat) : Int) := by
 intro d
 induction d with
 | zero =>
  intro i r hi
  refine Ev.step (f := fun _ => some _) (fun k => ?_) (Ev.now _)
  simp only [r3_Sum.l0]
  rw [ba_size, if_neg (by omega), List.drop_eq_nil_of_le (by omega), crcR_nil, not_eq']
 | succ d ih =>
  intro i r hi
  have hlt : i < l.length := by omega
  have hb := (l[i]'hlt).toNat_lt
  have h := ih (i + 1) (crcB r (l[i]'hlt)) (by omega)
  rw [← crcR_cons, ← List.drop_eq_getElem_cons hlt] at h
  have e : (bt (ba l) (i : Int)) % 4294967296 = (((BitVec.ofNat 32 (l[i]'hlt).toNat).toNat : Nat) : Int) := by
   rw [bt_ba l i hlt, BitVec.toNat_ofNat, Nat.mod_eq_of_lt (by omega)]; omega
  refine Ev.step (f := fun k => r3_Sum.l1 k (ba l) ((r.toNat : Nat) : Int) (i : Int) (((BitVec.ofNat 32 (l[i]'hlt).toNat).toNat : Nat) : Int) ((0 : Nat) : Int)) (fun k => ?_) (ref_bits (ba l) (i : Int) _ 8 0 r _ rfl ?_ ?_)
  ·simp only [r3_Sum.l0]
   rw [ba_size, if_pos (by omega), if_pos (by omega), e]
   rfl
  ·rw [BitVec.toNat_ofNat, Nat.mod_eq_of_lt (by omega)]; exact hb
  ·rw [w64 _ (by omega) (by omega)]
   exact h
theorem ref_sum (l : List UInt8) (hl : l.length ≤ 1000000000) : Ev (fun k => r3_Sum.f k (ba l)) (((crc l).toNat : Nat) : Int) :=
 ref_sum_l l hl l.length 0 (BitVec.allOnes 32) (by omega)
theorem ref_seal_put (l : List UInt8) (hl : l.length ≤ 1000000000) : Ev (fun k => r3_Put.f k (ba l)) (ba (sealed l)) := by
 have hc := (crc l).isLt
 refine Ev.bind (ref_sum l hl) ?_
 rw [u64_nat _ (by omega)]
 refine Ev.bind (ref_put (crc l).toNat 4 (by omega) (by omega)) ?_
 refine Ev.congr (f := fun _ => some (ba (sealed l))) (fun k => ?_) (Ev.now _)
 rw [ba_size, ba_size, putN_length, if_pos (by omega), ba_append]
 rfl
end Go.Proofs.YtcgejogmiglalaaDoor.Pu
end
section
namespace Go.Proofs.YtcgejogmiglalaaDoor.Pu
open Go Go.Lib Go.RowKit Go.Proofs.YtcgejogmiglalaaDoor.Pl Go.Proofs.YtcgejogmiglalaaDoor.Lf Go.Proofs.YtcgejogmiglalaaDoor.Fn Go.Proofs.YtcgejogmiglalaaDoorW.PrintWords
abbrev Sp := S53
def okSp (s : Sp) : Prop := -9223372036854775808 ≤ s.f0 ∧ s.f0 ≤ 9223372036854775807 ∧ -9223372036854775808 ≤ s.f1 ∧ s.f1 ≤ 9223372036854775807
def okSps (l : List Sp) : Prop := (∀ s ∈ l, okSp s) ∧ l.length ≤ 1000000
def insS (s : Sp) (size : Int) : Bool := decide (0 < s.f1 ∧ 0 ≤ s.f0 ∧ s.f0 < size ∧ s.f1 ≤ size - s.f0)
def rightS (e : Int) : List Sp → Int → Bool
 | [], _ => true
 | s :: r, size => insS s size && decide (e < s.f0) && rightS (s.f0 + s.f1) r size
def sizedS (size : Int) : Bool := decide (1 ≤ size ∧ size ≤ 8192)
theorem rdSp (l : List Sp) (i : Nat) (h : i < l.length) : rd_T53 l (i : Int) = l[i]'h := by
 unfold rd_T53
 rw [Int.toNat_natCast, List.getD_eq_getElem?_getD, List.getElem?_eq_getElem h]; rfl
theorem w64i (i : Nat) (h : i ≤ 1000000000) : wrap64 ((i : Int) + 1) = ((i + 1 : Nat) : Int) := by
 rw [w64 _ (by omega) (by omega)]; rfl
theorem insS_f (s : Sp) (size : Int) (hs : size ≤ 9223372036854775807) : span_inside.f s.f0 s.f1 size = some (insS s size) := by
 unfold span_inside.f insS
 by_cases h1 : s.f1 > 0
 ·rw [if_pos h1]
  by_cases h2 : s.f0 ≥ 0
  ·rw [if_pos h2]
   by_cases h3 : s.f0 < size
   ·rw [if_pos h3, w64 _ (by omega) (by omega)]
    exact congrArg some (decide_eq_decide.2 ⟨fun h => ⟨h1, h2, h3, h⟩, fun h => h.2.2.2⟩)
   ·rw [if_neg h3]; exact congrArg some (decide_eq_false (fun h => h3 h.2.2.1)).symm
  ·rw [if_neg h2]; exact congrArg some (decide_eq_false (fun h => h2 h.2.1)).symm
 ·rw [if_neg h1]; exact congrArg some (decide_eq_false (fun h => h1 h.1)).symm
theorem sized_f (size : Int) : span_sized.f size = some (sizedS size) := by
 unfold span_sized.f sizedS
 by_cases h : size ≥ 1
 ·rw [if_pos h]; exact congrArg some (decide_eq_decide.2 ⟨fun h2 => ⟨h, h2⟩, fun h => h.2⟩)
 ·rw [if_neg h]; exact congrArg some (decide_eq_false (fun h2 => h h2.1)).symm
theorem insS_sum {s : Sp} {size : Int} (h : insS s size = true) : 0 < s.f1 ∧ 0 ≤ s.f0 ∧ s.f0 + s.f1 ≤ size := by
 have := of_decide_eq_true h; omega
theorem right_l (l : List Sp) (size : Int) (hl : l.length ≤ 1000000) (hs : size ≤ 9223372036854775807) : ∀ (d i : Nat) (e : Int), i + d = l.length →
  Ev (fun k => span_Right.l0 k size e l (l.length : Int) (i : Int)) (rightS e (l.drop i) size && sizedS size) := by
 intro d
 induction d with
 | zero =>
  intro i e hi
  rw [List.drop_of_length_le (by omega)]
  refine Ev.step (f := fun _ => some _) (fun k => ?_) (Ev.now _)
  simp only [span_Right.l0]
  rw [if_neg (by omega), sized_f]
  rfl
 | succ d ih =>
  intro i e hi
  have hlt : i < l.length := by omega
  have hr := rdSp l i hlt
  rw [List.drop_eq_getElem_cons hlt, rightS]
  generalize l[i]'hlt = s at hr ⊢
  have hin := insS_f s size hs
  cases hb : insS s size with
  | false =>
   refine Ev.step (f := fun _ => some _) (fun k => ?_) (Ev.now _)
   simp only [span_Right.l0]
   rw [if_pos (by omega), if_pos (by omega), if_pos (by omega), hr, hin, hb]
   rfl
  | true =>
   have hsum := insS_sum hb
   by_cases he : e < s.f0
   ·refine Ev.step (fun k => ?_) (by rw [show (true && decide (e < s.f0) && rightS (s.f0 + s.f1) (l.drop (i + 1)) size && sizedS size) = (rightS (s.f0 + s.f1) (l.drop (i + 1)) size && sizedS size) by rw [decide_eq_true he]; rfl]; exact ih (i + 1) (s.f0 + s.f1) (by omega))
    simp only [span_Right.l0]
    rw [if_pos (by omega), if_pos (by omega), if_pos (by omega), hr, hin, hb, w64i i (by omega), w64 (s.f0 + s.f1) (by omega) (by omega)]
    exact ((Option.bind_some ..).trans (if_pos rfl)).trans (if_neg (show ¬ s.f0 ≤ e by omega))
   ·refine Ev.step (f := fun _ => some _) (fun k => ?_) (Ev.now _)
    simp only [span_Right.l0]
    rw [if_pos (by omega), if_pos (by omega), if_pos (by omega), hr, hin, hb, decide_eq_false he]
    exact ((Option.bind_some ..).trans (if_pos rfl)).trans (if_pos (show s.f0 ≤ e by omega))
theorem span_right (l : List Sp) (size : Int) (hl : l.length ≤ 1000000) (hs : size ≤ 9223372036854775807) : Ev (fun k => span_Right.f k l size) (rightS (-1) l size && sizedS size) :=
 right_l l size hl hs l.length 0 (-1) (by omega)
def totalW (acc : Int) : List Sp → Int
 | [] => acc
 | s :: r => totalW (wrap64 (acc + mx s.f1 0)) r
theorem total_l (l : List Sp) (hl : l.length ≤ 1000000) : ∀ (d i : Nat) (acc : Int), i + d = l.length → Ev (fun k => span_Total.l0 k acc l (l.length : Int) (i : Int)) (totalW acc (l.drop i)) := by
 intro d
 induction d with
 | zero =>
  intro i e hi
  rw [List.drop_of_length_le (by omega)]
  refine Ev.step (f := fun _ => some _) (fun k => ?_) (Ev.now _)
  simp only [span_Total.l0]
  rw [if_neg (by omega)]; rfl
 | succ d ih =>
  intro i e hi
  have hlt : i < l.length := by omega
  have hr := rdSp l i hlt
  rw [List.drop_eq_getElem_cons hlt, totalW]
  refine Ev.step (fun k => ?_) (ih (i + 1) _ (by omega))
  simp only [span_Total.l0]
  rw [if_pos (by omega), if_pos (by omega), if_pos (by omega), hr, w64i i (by omega)]
theorem span_total (l : List Sp) (hl : l.length ≤ 1000000) : Ev (fun k => span_Total.f k l) (totalW 0 l) := total_l l hl l.length 0 0 (by omega)
theorem total_right : ∀ (l : List Sp) (e acc size : Int), rightS e l size = true → 0 ≤ acc → acc ≤ e + 1 → size ≤ 8192 → e < size + 1 → 0 ≤ totalW acc l ∧ totalW acc l ≤ size + 1
 | [], e, acc, size, _, h0, h1, h2, h3 => by unfold totalW; omega
 | s :: r, e, acc, size, h, h0, h1, h2, h3 => by
  rw [rightS, Bool.and_eq_true, Bool.and_eq_true] at h
  obtain ⟨⟨ha, hb⟩, hc⟩ := h
  have hs := insS_sum ha
  have hb := of_decide_eq_true hb
  rw [totalW, show mx s.f1 0 = s.f1 by unfold mx; rw [if_neg (by omega)], w64 _ (by omega) (by omega)]
  exact total_right r (s.f0 + s.f1) (acc + s.f1) size hc (by omega) (by omega) h2 (by omega)
def fillGo : List Bool → Nat → Nat → Option (List Bool)
 | b, _, 0 => some b
 | b, j, n + 1 => if b.getD j false = true then none else fillGo (b.set j true) (j + 1) n
def marksGo : List Bool → List Sp → Option (List Bool)
 | b, [] => some b
 | b, s :: r => (fillGo b s.f0.toNat s.f1.toNat).bind fun b => marksGo b r
def outM : Option (List Bool) → List Bool × Int
 | some b => (b, 0)
 | none => ([], 5)
theorem rdB (b : List Bool) (j : Nat) : rdOf false b (j : Int) = b.getD j false := by
 unfold rdOf
 rw [Int.toNat_natCast]
theorem fill_length : ∀ (n j : Nat) (b b' : List Bool), fillGo b j n = some b' → b'.length = b.length
 | 0, _, b, b', h => by rw [fillGo] at h; cases h; rfl
 | n + 1, j, b, b', h => by
  rw [fillGo] at h
  cases hg : b.getD j false with
  | true => rw [hg] at h; cases h
  | false => rw [hg, if_neg (by decide)] at h; rw [fill_length n _ _ _ h, List.length_set]
theorem marks_length : ∀ (l : List Sp) (b b' : List Bool), marksGo b l = some b' → b'.length = b.length
 | [], b, b', h => by rw [marksGo] at h; cases h; rfl
 | s :: r, b, b', h => by
  rw [marksGo] at h
  obtain ⟨c, hc, h⟩ := Option.bind_eq_some_iff.1 h
  rw [marks_length r _ _ h, fill_length _ _ _ _ hc]
def bitsOf (size : Nat) : Nat → List Sp → List Bool
 | p, [] => List.replicate (size - p) false
 | p, s :: r => List.replicate (s.f0.toNat - p) false ++ (List.replicate s.f1.toNat true ++ bitsOf size (s.f0 + s.f1).toNat r)
def rowS : Nat → Option (Nat × Nat) → List Bool → List Sp
 | _, none, [] => []
 | _, some p, [] => [⟨(p.1 : Int), (p.2 : Int)⟩]
 | i, none, false :: r => rowS (i + 1) none r
 | i, none, true :: r => rowS (i + 1) (some (i, 1)) r
 | i, some p, true :: r => rowS (i + 1) (some (p.1, p.2 + 1)) r
 | i, some p, false :: r => ⟨(p.1 : Int), (p.2 : Int)⟩ :: rowS (i + 1) none r
def opn : Option (Nat × Nat) → List Sp
 | none => []
 | some p => [⟨(p.1 : Int), (p.2 : Int)⟩]
theorem w64p (i : Nat) (h0 : 0 < i) (h : i ≤ 1000000000) : wrap64 ((i : Int) - 1) = ((i - 1 : Nat) : Int) := by
 rw [w64 _ (by omega) (by omega)]; omega
theorem row_false : ∀ (m i : Nat) (r : List Bool), rowS i none (List.replicate m false ++ r) = rowS (i + m) none r
 | 0, i, r => rfl
 | m + 1, i, r => by
  rw [List.replicate_succ, List.cons_append, rowS, row_false m, show i + 1 + m = i + (m + 1) by omega]
theorem row_true : ∀ (m i a n : Nat) (r : List Bool), rowS i (some (a, n)) (List.replicate m true ++ r) = rowS (i + m) (some (a, n + m)) r
 | 0, i, a, n, r => rfl
 | m + 1, i, a, n, r => by
  rw [List.replicate_succ, List.cons_append, rowS]
  show rowS (i + 1) (some (a, n + 1)) _ = _
  rw [row_true m, show i + 1 + m = i + (m + 1) by omega, show n + 1 + m = n + (m + 1) by omega]
theorem row_close (i : Nat) (p : Nat × Nat) (bits : List Bool) (h : bits = [] ∨ ∃ r, bits = false :: r) : rowS i (some p) bits = ⟨(p.1 : Int), (p.2 : Int)⟩ :: rowS i none bits := by
 rcases h with rfl | ⟨r, rfl⟩
 ·rw [rowS, rowS]
 ·rw [rowS, rowS]
theorem bits_head (l : List Sp) (q size : Nat) (h : rightS (q : Int) l (size : Int) = true) : bitsOf size q l = [] ∨ ∃ r, bitsOf size q l = false :: r := by
 have hr : ∀ (m : Nat) (x : List Bool), 0 < m → ∃ r, List.replicate m false ++ x = false :: r := fun m x hm => by
  obtain ⟨m', rfl⟩ : ∃ m', m = m' + 1 := ⟨m - 1, by omega⟩
  exact ⟨_, by rw [List.replicate_succ, List.cons_append]⟩
 cases l with
 | nil =>
  rw [bitsOf]
  by_cases h0 : size - q = 0
  ·rw [h0]; exact Or.inl rfl
  ·obtain ⟨r, hx⟩ := hr (size - q) [] (by omega)
   rw [List.append_nil] at hx
   exact Or.inr ⟨r, hx⟩
 | cons s r =>
  rw [rightS, Bool.and_eq_true, Bool.and_eq_true] at h
  have hs := insS_sum h.1.1
  have hb := of_decide_eq_true h.1.2
  rw [bitsOf]
  exact Or.inr (hr _ _ (by omega))
theorem row_bits : ∀ (l : List Sp) (e : Int) (p size : Nat), rightS e l (size : Int) = true → (p : Int) ≤ e + 1 → rowS p none (bitsOf size p l) = l
 | [], e, p, size, _, _ => by
  rw [bitsOf, ← List.append_nil (List.replicate _ _), row_false, rowS]
 | s :: r, e, p, size, h, hp => by
  rw [rightS, Bool.and_eq_true, Bool.and_eq_true] at h
  obtain ⟨⟨ha, hb⟩, hc⟩ := h
  have hs := insS_sum ha
  have hb := of_decide_eq_true hb
  obtain ⟨m, hm⟩ : ∃ m, s.f1.toNat = m + 1 := ⟨s.f1.toNat - 1, by omega⟩
  rw [bitsOf, row_false, hm, List.replicate_succ, List.cons_append, rowS, row_true]
  have hq : s.f0 + s.f1 = (((s.f0 + s.f1).toNat : Nat) : Int) := by omega
  rw [show p + (s.f0.toNat - p) + 1 + m = (s.f0 + s.f1).toNat by omega, show p + (s.f0.toNat - p) = s.f0.toNat by omega]
  rw [hq] at hc
  rw [row_close _ _ _ (bits_head r _ size hc), row_bits r _ _ size hc (by omega)]
  congr 1
  show (⟨((s.f0.toNat : Nat) : Int), ((1 + m : Nat) : Int)⟩ : Sp) = s
  rw [show ((s.f0.toNat : Nat) : Int) = s.f0 by omega, show ((1 + m : Nat) : Int) = s.f1 by omega]
def eqS : List Sp → List Sp → Bool
 | [], [] => true
 | a :: r, b :: r' => (a.f0 == b.f0 && a.f1 == b.f1) && eqS r r'
 | _, _ => false
theorem sp_ext {a b : Sp} (h0 : a.f0 = b.f0) (h1 : a.f1 = b.f1) : a = b := by cases a; cases b; cases h0; cases h1; rfl
theorem eqS_iff : ∀ (l x : List Sp), eqS l x = true ↔ l = x
 | [], [] => ⟨fun _ => rfl, fun _ => rfl⟩
 | [], b :: r => ⟨fun h => (by cases h), fun h => (by cases h)⟩
 | a :: r, [] => ⟨fun h => (by cases h), fun h => (by cases h)⟩
 | a :: r, b :: r' => by
  rw [eqS, Bool.and_eq_true, Bool.and_eq_true, beq_iff_eq, beq_iff_eq, eqS_iff r r']
  exact ⟨fun h => by rw [sp_ext h.1.1 h.1.2, h.2], fun h => by cases h; exact ⟨⟨rfl, rfl⟩, rfl⟩⟩
theorem right_all : ∀ (l : List Sp) (e size : Int), rightS e l size = true → l.all (insS · size) = true
 | [], _, _, _ => rfl
 | s :: r, e, size, h => by
  rw [rightS, Bool.and_eq_true, Bool.and_eq_true] at h
  rw [List.all_cons, h.1.1, right_all r _ _ h.2]; rfl
def hasS (a : Int) (s : Sp) : Bool := decide (a ≥ s.f0) && decide (wrap64 (a - s.f0) < s.f1)
theorem has_low : ∀ (l : List Sp) (size : Int), l.all (insS · size) = true → (l.any (hasS 0) || l.any (hasS 1)) = l.any isLow
 | [], _, _ => rfl
 | s :: r, size, h => by
  rw [List.all_cons, Bool.and_eq_true] at h
  have hs := insS_sum h.1
  have ih := has_low r size h.2
  have h1 : (hasS 0 s || hasS 1 s) = isLow s := by
   unfold hasS isLow
   by_cases h0 : s.f0 = 0
   ·rw [h0, decide_eq_true (show (0 : Int) ≥ 0 by omega), decide_eq_true (show wrap64 (0 - 0) < s.f1 by rw [w64 _ (by omega) (by omega)]; omega), decide_eq_true (show (0 : Int) < 2 by omega)]; rfl
   ·by_cases h2 : s.f0 = 1
    ·rw [h2, decide_eq_true (show (1 : Int) ≥ 1 by omega), decide_eq_true (show wrap64 (1 - 1) < s.f1 by rw [w64 _ (by omega) (by omega)]; omega), decide_eq_true (show (1 : Int) < 2 by omega)]
     exact Bool.or_true _
    ·rw [decide_eq_false (show ¬ (0 : Int) ≥ s.f0 by omega), decide_eq_false (show ¬ (1 : Int) ≥ s.f0 by omega), decide_eq_false (show ¬ s.f0 < 2 by omega)]; rfl
  rw [List.any_cons, List.any_cons, List.any_cons, ← ih, ← h1]
  cases hasS 0 s <;> cases hasS 1 s <;> cases r.any (hasS 0) <;> cases r.any (hasS 1) <;> rfl
def rightH (a1 a2 : Int) (l : List Sp) : Bool :=
 decide (2 ≤ a1 ∧ a1 ≤ 8192 ∧ 0 ≤ a2 ∧ l.length ≤ 8) && (rightS (-1) l a1 && (!(l.any isLow) && decide (a2 ≤ totalW 0 l * 64 ∧ totalW 0 l * 64 - a2 < 64)))
theorem right_head (a0 a1 a2 : Int) (l : List Sp) (h1 : a1 ≤ 9223372036854775807) (h2 : a2 ≤ 9223372036854775807) : Ev (fun k => head_Right.f k a0 a1 a2 l) (rightH a1 a2 l) := by
 by_cases hc : 2 ≤ a1 ∧ 0 ≤ a2 ∧ l.length ≤ 8
 case neg =>
  refine Ev.congr (f := fun _ => some _) (fun k => ?_) (Ev.now _)
  unfold head_Right.f rightH
  rw [decide_eq_false (fun h => hc ⟨h.1, h.2.2.1, h.2.2.2⟩)]
  by_cases q1 : a1 < 2
  ·exact if_pos q1
  ·rw [if_neg q1]
   by_cases q2 : a2 < 0
   ·exact if_pos q2
   ·rw [if_neg q2, if_pos (by omega)]; rfl
 obtain ⟨c1, c2, c3⟩ := hc
 have hsr := span_right l a1 (by omega) h1
 refine Ev.congr (fun k => (show head_Right.f k a0 a1 a2 l = _ by unfold head_Right.f; rw [if_neg (by omega), if_neg (by omega), if_neg (by omega)])) ?_
 refine Ev.bind hsr ?_
 unfold rightH
 by_cases hz : a1 ≤ 8192
 case neg =>
  rw [show sizedS a1 = false from decide_eq_false (by omega), Bool.and_false, decide_eq_false (fun h => hz h.2.1)]
  exact Ev.congr (fun k => if_neg (by decide)) (Ev.now _)
 rw [show sizedS a1 = true from decide_eq_true (by omega), Bool.and_true, decide_eq_true (show 2 ≤ a1 ∧ a1 ≤ 8192 ∧ 0 ≤ a2 ∧ l.length ≤ 8 from ⟨c1, hz, c2, c3⟩), Bool.true_and]
 cases hr : rightS (-1) l a1 with
 | false => exact Ev.congr (fun k => if_neg (by decide)) (Ev.now _)
 | true =>
  refine Ev.congr (fun k => if_pos rfl) ?_
  rw [Bool.true_and]
  cases hlow : l.any isLow with
  | true => exact Ev.congr (fun k => if_pos rfl) (Ev.now _)
  | false =>
   refine Ev.congr (fun k => if_neg (by decide)) ?_
   obtain ⟨t0, t1⟩ := total_right l (-1) 0 a1 hr (by omega) (by omega) hz (by omega)
   refine Ev.bind (span_total l (by omega)) ?_
   generalize totalW 0 l = T at t0 t1 ⊢
   rw [w64 (T * 64) (by omega) (by omega), w64 (T * 64 - a2) (by omega) (by omega)]
   rw [show (!false && decide (a2 ≤ T * 64 ∧ T * 64 - a2 < 64)) = (decide (a2 ≤ T * 64) && decide (T * 64 - a2 < 64)) by rw [Bool.not_false, Bool.true_and]; exact Bool.decide_and _ _]
   exact Ev.now _
theorem need_eq (a : Int) (h0 : 0 ≤ a) (h1 : a ≤ 9223372036854775807) : r6_Need.f a = some ((a + 63) / 64) := by
 unfold r6_Need.f
 rw [Int.tmod_eq_emod_of_nonneg h0, Int.tdiv_eq_ediv_of_nonneg h0, w64 (a / 64) (by omega) (by omega), w64 (a / 64 + 1) (by omega) (by omega)]
 by_cases h : a % 64 > 0
 ·rw [if_pos h]; congr 1; omega
 ·rw [if_neg h]; congr 1; omega
def spanB : List Sp → List UInt8
 | [] => []
 | s :: r => putN s.f0.toNat 2 ++ (putN s.f1.toNat 2 ++ spanB r)
theorem spanB_length : ∀ l : List Sp, (spanB l).length = 4 * l.length
 | [] => rfl
 | s :: r => by rw [spanB, List.length_append, List.length_append, putN_length, putN_length, spanB_length r, List.length_cons]; omega
def headB (a0 a1 a2 n : Nat) : List UInt8 := (((([114, 116, 99, 108] : List UInt8) ++ putN a0 8) ++ putN a1 2) ++ putN a2 4) ++ putN n 1
theorem headB_length (a0 a1 a2 n : Nat) : (headB a0 a1 a2 n).length = 19 := by
 unfold headB
 rw [List.length_append, List.length_append, List.length_append, List.length_append, putN_length, putN_length, putN_length, putN_length]; rfl
def bodyH (a0 a1 a2 : Nat) (l : List Sp) : List UInt8 := (headB a0 a1 a2 l.length ++ spanB l) ++ List.replicate (60 - (headB a0 a1 a2 l.length ++ spanB l).length) 0
theorem bodyH_length (a0 a1 a2 : Nat) (l : List Sp) (h : l.length ≤ 8) : (bodyH a0 a1 a2 l).length = 60 := by
 unfold bodyH
 rw [List.length_append, List.length_replicate, List.length_append, headB_length, spanB_length]; omega
def putH (a0 a1 a2 : Int) (l : List Sp) : ByteArray × Int := if rightH a1 a2 l = true then (ba (sealed (bodyH a0.toNat a1.toNat a2.toNat l)), 0) else (ba [], 1)
def natSps (l : List Sp) : Prop := ∀ s ∈ l, 0 ≤ s.f0 ∧ s.f0 ≤ 8192 ∧ 0 ≤ s.f1 ∧ s.f1 ≤ 8192
theorem nat_right (l : List Sp) (size : Int) (h : l.all (insS · size) = true) (hs : size ≤ 8192) : natSps l := fun s hm => by
 have := insS_sum (List.all_eq_true.1 h s hm)
 omega
theorem put_int (a : Int) (h0 : 0 ≤ a) (h1 : a < 18446744073709551616) (m : Int) : le_Put.f a m = some (ba (putN a.toNat (many8 m))) := by
 have h := put_eq a.toNat (by omega) m
 rwa [show ((a.toNat : Nat) : Int) = a by omega] at h
theorem u64_int (a : Int) (h0 : 0 ≤ a) (h1 : a < 18446744073709551616) : IntKind.u64.wrap a = a := by
 have h := u64_nat a.toNat (by omega)
 rwa [show ((a.toNat : Nat) : Int) = a by omega] at h
theorem put_g : ∀ (l : List Sp) (acc : List UInt8), natSps l → acc.length + 4 * l.length ≤ 1000 → head_Put.g l (ba acc) = some (ba (acc ++ spanB l))
 | [], acc, _, _ => by rw [head_Put.g, spanB, List.append_nil]
 | s :: r, acc, hn, hl => by
  rw [List.length_cons] at hl
  have hs := hn s (List.mem_cons_self ..)
  rw [head_Put.g, u64_int s.f0 (by omega) (by omega), u64_int s.f1 (by omega) (by omega), put_int s.f0 (by omega) (by omega), put_int s.f1 (by omega) (by omega), Option.bind_some, Option.bind_some]
  show (if (ba (putN s.f0.toNat 2)).size + (ba (putN s.f1.toNat 2)).size ≤ 1000 ∧ (ba acc).size + (ba (putN s.f0.toNat 2) ++ ba (putN s.f1.toNat 2)).size ≤ 100000 then head_Put.g r (ba acc ++ (ba (putN s.f0.toNat 2) ++ ba (putN s.f1.toNat 2))) else none) = _
  rw [ba_append, ba_append, ba_size, ba_size, ba_size, ba_size, List.length_append, putN_length, putN_length, if_pos (by omega), put_g r _ (fun x hx => hn x (List.mem_cons_of_mem _ hx)) (by rw [List.length_append, List.length_append, putN_length, putN_length]; omega), spanB]
  simp only [List.append_assoc]
theorem put_h (a0 a1 a2 : Int) (n : Nat) (h0 : 0 ≤ a0) (h0' : a0 < 18446744073709551616) (h1 : 0 ≤ a1) (h1' : a1 ≤ 9223372036854775807) (h2 : 0 ≤ a2) (h2' : a2 ≤ 9223372036854775807) (hn : n ≤ 1000) :
  head_Put.h a0 a1 a2 (n : Int) = some (ba (headB a0.toNat a1.toNat a2.toNat n)) := by
 unfold head_Put.h
 rw [u64_int a1 h1 (by omega), u64_int a2 h2 (by omega), u64_nat n (by omega), put_int a0 h0 h0', put_int a1 h1 (by omega), put_int a2 h2 (by omega), put_eq n (by omega), Option.bind_some, Option.bind_some, Option.bind_some, Option.bind_some]
 show (if (ba (putN a0.toNat 8)).size ≤ 1000 ∧ (ba (putN a1.toNat 2)).size ≤ 1000 ∧ (ba (putN a2.toNat 4)).size ≤ 1000 ∧ (ba (putN n 1)).size ≤ 1000 then some (ba [114, 116, 99, 108] ++ ba (putN a0.toNat 8) ++ ba (putN a1.toNat 2) ++ ba (putN a2.toNat 4) ++ ba (putN n 1)) else none) = _
 rw [ba_size, ba_size, ba_size, ba_size, putN_length, putN_length, putN_length, putN_length, if_pos (by omega), ba_append, ba_append, ba_append, ba_append]
 rfl
theorem right_nat {a1 a2 : Int} {l : List Sp} (h : rightH a1 a2 l = true) : 2 ≤ a1 ∧ a1 ≤ 8192 ∧ 0 ≤ a2 ∧ l.length ≤ 8 ∧ natSps l ∧ a2 ≤ 1000000 := by
 unfold rightH at h
 rw [Bool.and_eq_true, Bool.and_eq_true, Bool.and_eq_true] at h
 obtain ⟨hc, hr, _, ht⟩ := h
 obtain ⟨c1, c2, c3, c4⟩ := of_decide_eq_true hc
 obtain ⟨t0, t1⟩ := total_right l (-1) 0 a1 hr (by omega) (by omega) c2 (by omega)
 have ht := of_decide_eq_true ht
 exact ⟨c1, c2, c3, c4, nat_right l a1 (right_all _ _ _ hr) c2, by omega⟩
theorem put_head (a0 a1 a2 : Int) (l : List Sp) (h0 : 0 ≤ a0) (h0' : a0 < 18446744073709551616) (h1 : a1 ≤ 9223372036854775807) (h2 : a2 ≤ 9223372036854775807) : Ev (fun k => head_Put.f k a0 a1 a2 l) (putH a0 a1 a2 l) := by
 refine Ev.bind (right_head a0 a1 a2 l h1 h2) ?_
 unfold putH
 cases hr : rightH a1 a2 l with
 | false => exact Ev.congr (fun k => if_neg (by decide)) (Ev.now _)
 | true =>
  obtain ⟨c1, c2, c3, c4, hn, c5⟩ := right_nat hr
  refine Ev.congr (f := fun _ => some _) (fun k => ?_) (Ev.now _)
  refine (if_pos rfl).trans ?_
  have hb := headB_length a0.toNat a1.toNat a2.toNat l.length
  have hs := spanB_length l
  have hl := bodyH_length a0.toNat a1.toNat a2.toNat l c4
  rw [if_pos (by omega), put_h a0 a1 a2 l.length h0 h0' (by omega) (by omega) c3 (by omega) (by omega), Option.bind_some, put_g l _ hn (by omega), Option.bind_some, ba_size, if_pos (by rw [List.length_append]; omega)]
  show (seal_Put.f (ba _ ++ ba (List.replicate _ 0))).bind _ = _
  rw [ba_append]
  unfold bodyH at hl ⊢
  rw [seal_put_eq _ (by rw [hl]; omega)]
  rfl
theorem getN_eq (l : List UInt8) : getN l = getB l := by
 induction l with
 | nil => rfl
 | cons c l ih => simp [getN, getB, ih]
theorem get_eq (l : List UInt8) : le_Get.f (ba l) = some ((getB (l.take 8) : Nat) : Int) := by
 unfold le_Get.f
 rw [ba_list, getN_eq]
def unsealed (l : List UInt8) : List UInt8 × Int :=
 if l.length < 4 then ([], 10) else if getB (l.drop (l.length - 4)) = (crc (l.take (l.length - 4))).toNat then (l.take (l.length - 4), 0) else ([], 9)
theorem seal_take_eq (l : List UInt8) (h : l.length ≤ 1000000000) : seal_Take.f (ba l) = some (ba (unsealed l).1, (unsealed l).2) := by
 unfold seal_Take.f unsealed
 rw [ba_size, w64 _ (by omega) (by omega)]
 by_cases h4 : l.length < 4
 ·rw [if_pos (by omega), if_pos h4]; rfl
 ·have e : ((l.length : Int) - 4).toNat = l.length - 4 := by omega
  rw [if_neg (by omega), if_neg h4, if_pos (by omega), if_pos (by omega), e, ← ba_size, ba_drop, ba_size, get_eq, Option.bind_some, ba_take, sum_eq _ (by rw [List.length_take]; omega), Option.bind_some,
   u64_nat _ (by have := (crc (l.take (l.length - 4))).isLt; omega), List.take_of_length_le (by rw [List.length_drop]; omega)]
  by_cases hc : getB (l.drop (l.length - 4)) = (crc (l.take (l.length - 4))).toNat
  ·rw [if_pos (by rw [hc]), if_pos hc]
  ·rw [if_neg (by omega), if_neg hc]; rfl
theorem unsealed_sealed (l : List UInt8) : unsealed (sealed l) = (l, 0) := by
 unfold unsealed
 have h4 : (sealed l).length - 4 = l.length := by rw [sealed_length]; omega
 rw [if_neg (by rw [sealed_length]; omega), h4]
 unfold sealed
 rw [List.drop_left, List.take_left, getB_putN, if_pos]
 have := (crc l).isLt
 omega
theorem sealed_unsealed (l : List UInt8) (h : (unsealed l).2 = 0) : sealed (unsealed l).1 = l ∧ (unsealed l).1.length + 4 = l.length := by
 unfold unsealed at h ⊢
 split at h
 ·cases h
 ·rename_i h4
  rw [if_neg h4]
  split at h
  ·rename_i hc
   rw [if_pos hc]
   refine ⟨?_, by show (l.take _).length + 4 = _; rw [List.length_take]; omega⟩
   show sealed (l.take (l.length - 4)) = l
   unfold sealed
   rw [← hc]
   have h1 := putN_getB (l.drop (l.length - 4))
   rw [List.length_drop, show l.length - (l.length - 4) = 4 by omega] at h1
   rw [h1, List.take_append_drop]
  ·cases h
theorem txt_ok (l : List UInt8) (n : Nat) (h : n ≤ l.length) : le_Reader_Text.f (ba l) false (n : Int) = some (ba (l.take n), ba (l.drop n), false) := by
 unfold le_Reader_Text.f
 rw [if_neg (by decide), if_neg (by omega), ba_size, if_neg (by omega), if_pos (by omega), if_pos (by omega), Int.toNat_natCast, ba_take, ← ba_size, ba_drop, decide_eq_false (by rw [ba_size]; omega)]
theorem txt_short (l : List UInt8) (n : Nat) (h : l.length < n) : le_Reader_Text.f (ba l) false (n : Int) = some (ba [], ba l, true) := by
 unfold le_Reader_Text.f
 rw [if_neg (by decide), if_neg (by omega), ba_size, if_pos (by omega), decide_eq_true (by omega)]
 rfl
theorem txt_true (l : List UInt8) (n : Int) : le_Reader_Text.f (ba l) true n = some (ba [], ba l, true) := by
 unfold le_Reader_Text.f
 rw [if_pos rfl]
 rfl
theorem num_ok (l : List UInt8) (m : Nat) (hm : m ≤ 8) (h : m ≤ l.length) : le_Reader_Number.f (ba l) false (m : Int) = some (((getB (l.take m) : Nat) : Int), ba (l.drop m), false) := by
 unfold le_Reader_Number.f
 rw [if_neg (by omega), txt_ok l m h, Option.bind_some, get_eq, Option.bind_some, List.take_take, Nat.min_eq_right hm]
theorem num_short (l : List UInt8) (m : Nat) (hm : m ≤ 8) (h : l.length < m) : le_Reader_Number.f (ba l) false (m : Int) = some (0, ba l, true) := by
 unfold le_Reader_Number.f
 rw [if_neg (by omega), txt_short l m h, Option.bind_some, get_eq, Option.bind_some]
 rfl
theorem num_true (l : List UInt8) (m : Nat) (hm : m ≤ 8) : le_Reader_Number.f (ba l) true (m : Int) = some (0, ba l, true) := by
 unfold le_Reader_Number.f
 rw [if_neg (by omega), txt_true l, Option.bind_some, get_eq, Option.bind_some]
 rfl
theorem wpre (d : Nat) (h : d ≤ 8) : wrap64 ((d : Int) - 1) = (d : Int) - 1 := w64 _ (by omega) (by omega)
def spansOf : Nat → List UInt8 → List Sp
 | 0, _ => []
 | n + 1, t => ⟨((getB (t.take 2) : Nat) : Int), ((getB ((t.drop 2).take 2) : Nat) : Int)⟩ :: spansOf n (t.drop 4)
theorem spansOf_length : ∀ (n : Nat) (t : List UInt8), (spansOf n t).length = n
 | 0, _ => rfl
 | n + 1, t => by rw [spansOf, List.length_cons, spansOf_length n]
def zeroS (l : List UInt8) : Bool := l.all (· == 0)
def bodyT (t : List UInt8) : Int × Int × Int × List Sp × Int :=
 if getB ((t.drop 18).take 1) ≤ 8 ∧ t.take 4 = [114, 116, 99, 108] ∧ zeroS (t.drop (19 + 4 * getB ((t.drop 18).take 1))) = true ∧ rightH (getB ((t.drop 12).take 2) : Nat) (getB ((t.drop 14).take 4) : Nat) (spansOf (getB ((t.drop 18).take 1)) (t.drop 19)) = true then
  ((getB ((t.drop 4).take 8) : Nat), (getB ((t.drop 12).take 2) : Nat), (getB ((t.drop 14).take 4) : Nat), spansOf (getB ((t.drop 18).take 1)) (t.drop 19), 0)
 else (0, 0, 0, [], 2)
def takeH (s : List UInt8) : Int × Int × Int × List Sp × Int :=
 if s.length = 64 then (if (unsealed s).2 = 0 then bodyT (unsealed s).1 else (0, 0, 0, [], (unsealed s).2)) else (0, 0, 0, [], 1)
theorem dw_nil {α : Type} (p : α → Bool) : ∀ l : List α, l.dropWhile p = [] ↔ l.all p = true
 | [] => ⟨fun _ => rfl, fun _ => rfl⟩
 | a :: r => by
  rw [List.dropWhile_cons, List.all_cons]
  cases h : p a with
  | true => rw [if_pos rfl, Bool.true_and]; exact dw_nil p r
  | false => rw [if_neg (by decide)]; exact ⟨fun h => (by cases h), fun h => (by cases h)⟩
theorem dw_head {α : Type} (p : α → Bool) : ∀ (l : List α) (a : α) (r : List α), l.dropWhile p = a :: r → p a = false
 | [], a, r, h => by cases h
 | b :: l, a, r, h => by
  rw [List.dropWhile_cons] at h
  cases hb : p b with
  | true => rw [hb, if_pos rfl] at h; exact dw_head p l a r h
  | false => rw [hb, if_neg (by decide)] at h; cases h; exact hb
theorem trim_nil (l : List UInt8) : Lib.trimB l 0 = [] ↔ zeroS l = true := by
 have e : Lib.trimB l 0 = ((l.reverse.dropWhile (· == 0)).reverse).dropWhile (· == 0) := rfl
 rw [e, dw_nil]
 unfold zeroS
 constructor
 ·intro h
  cases hd : l.reverse.dropWhile (· == 0) with
  | nil =>
   have := (dw_nil _ _).1 hd
   rwa [List.all_reverse] at this
  | cons a r =>
   have h1 := dw_head _ _ _ _ hd
   rw [hd, List.all_reverse, List.all_cons, h1] at h
   cases h
 ·intro h
  have : l.reverse.dropWhile (· == 0) = [] := (dw_nil _ _).2 (by rwa [List.all_reverse])
  rw [this]; rfl
theorem zeroS_iff (l : List UInt8) : zeroS l = true ↔ l = List.replicate l.length 0 := by
 unfold zeroS
 rw [List.all_eq_true, List.eq_replicate_iff]
 exact ⟨fun h => ⟨rfl, fun b hb => beq_iff_eq.1 (h b hb)⟩, fun h b hb => beq_iff_eq.2 (h.2 b hb)⟩
theorem getB2 (l : List UInt8) : getB (l.take 2) < 65536 := by
 have h := getB_lt (l.take 2)
 have h2 : 256 ^ (l.take 2).length ≤ 256 ^ 2 := Nat.pow_le_pow_right (by omega) (by rw [List.length_take]; omega)
 omega
theorem getB4 (l : List UInt8) : getB (l.take 4) < 4294967296 := by
 have h := getB_lt (l.take 4)
 have h2 : 256 ^ (l.take 4).length ≤ 256 ^ 4 := Nat.pow_le_pow_right (by omega) (by rw [List.length_take]; omega)
 omega
theorem getB1 (l : List UInt8) : getB (l.take 1) < 256 := by
 have h := getB_lt (l.take 1)
 have h2 : 256 ^ (l.take 1).length ≤ 256 ^ 1 := Nat.pow_le_pow_right (by omega) (by rw [List.length_take]; omega)
 omega
theorem num2 (l : List UInt8) (h : 2 ≤ l.length) : le_Reader_Number.f (ba l) false 2 = some (((getB (l.take 2) : Nat) : Int), ba (l.drop 2), false) := num_ok l 2 (by omega) h
theorem take_l_ok : ∀ (n : Nat) (t : List UInt8) (acc : List Sp), 4 * n ≤ t.length → head_Take.l n (ba t) false acc = some (acc ++ spansOf n t, ba (t.drop (4 * n)), false)
 | 0, t, acc, _ => by rw [head_Take.l, spansOf, List.append_nil]; rfl
 | n + 1, t, acc, h => by
  have g1 := getB2 t
  have g2 := getB2 (t.drop 2)
  rw [head_Take.l, num2 t (by omega), Option.bind_some, num2 (t.drop 2) (by rw [List.length_drop]; omega), Option.bind_some]
  show head_Take.l n (ba ((t.drop 2).drop 2)) false (acc ++ [⟨wrap64 ((getB (t.take 2) : Nat) : Int), wrap64 ((getB ((t.drop 2).take 2) : Nat) : Int)⟩]) = _
  rw [w64 _ (by omega) (by omega), w64 _ (by omega) (by omega), List.drop_drop, take_l_ok n _ _ (by rw [List.length_drop]; omega), spansOf, List.append_assoc, List.drop_drop, show 2 + 2 + 4 * n = 4 * (n + 1) by omega]
  rfl
theorem num_any (t : List UInt8) (b : Bool) : ∃ x left bad, le_Reader_Number.f (ba t) b 2 = some (x, ba left, bad) ∧ left.length ≤ t.length := by
 cases b with
 | true => exact ⟨_, _, _, num_true t 2 (by omega), Nat.le_refl _⟩
 | false =>
  by_cases h : 2 ≤ t.length
  ·exact ⟨_, _, _, num_ok t 2 (by omega) h, by rw [List.length_drop]; omega⟩
  ·exact ⟨_, _, _, num_short t 2 (by omega) (by omega), Nat.le_refl _⟩
theorem take_l_any : ∀ (n : Nat) (t : List UInt8) (b : Bool) (acc : List Sp), ∃ ls left bad, head_Take.l n (ba t) b acc = some (ls, ba left, bad) ∧ ls.length = acc.length + n ∧ left.length ≤ t.length
 | 0, t, b, acc => ⟨acc, t, b, rfl, rfl, Nat.le_refl _⟩
 | n + 1, t, b, acc => by
  obtain ⟨x1, t1, b1, e1, l1⟩ := num_any t b
  obtain ⟨x2, t2, b2, e2, l2⟩ := num_any t1 b1
  obtain ⟨ls, left, bad, e3, l3, l4⟩ := take_l_any n t2 b2 (acc ++ [⟨wrap64 x1, wrap64 x2⟩])
  refine ⟨ls, left, bad, ?_, by rw [l3, List.length_append]; show acc.length + 1 + n = _; omega, by omega⟩
  rw [head_Take.l, e1, Option.bind_some]
  show (le_Reader_Number.f (ba t1) b1 2).bind _ = _
  rw [e2, Option.bind_some]
  exact e3
theorem take_m (nm : List UInt8) (g : Int) (sc sz : Nat) (l : List Sp) (left : List UInt8) (bad : Bool) (hs : sc < 65536) (hz : sz < 4294967296) :
  Ev (fun k => head_Take.m k (ba nm) g (sc : Int) (sz : Int) l (ba left) bad) (if bad = false ∧ nm = [114, 116, 99, 108] ∧ zeroS left = true ∧ rightH sc sz l = true then (g, (sc : Int), (sz : Int), l, 0) else (0, 0, 0, [], 2)) := by
 have no : ∀ (P : Prop) [Decidable P] (h : ¬ P), (if P then (g, (sc : Int), (sz : Int), l, (0 : Int)) else (0, 0, 0, [], 2)) = (0, 0, 0, [], 2) := fun P _ h => if_neg h
 have yes : ∀ (P : Prop) [Decidable P] (h : P), (if P then (g, (sc : Int), (sz : Int), l, (0 : Int)) else (0, 0, 0, [], 2)) = (g, (sc : Int), (sz : Int), l, (0 : Int)) := fun P _ h => if_pos h
 unfold head_Take.m
 cases bad with
 | true =>
  rw [no _ (fun h => by cases h.1)]
  exact Ev.congr (fun k => if_pos rfl) (Ev.now _)
 | false =>
  refine Ev.congr (fun k => if_neg (by decide)) ?_
  by_cases h1 : nm = [114, 116, 99, 108]
  case neg =>
   rw [no _ (fun h => h1 h.2.1)]
   exact Ev.congr (fun k => if_neg (by rw [ba_toList]; exact h1)) (Ev.now _)
  refine Ev.congr (fun k => if_pos (by rw [ba_toList]; exact h1)) ?_
  cases h2 : zeroS left with
  | false =>
   rw [no _ (fun h => by cases h.2.2.1)]
   exact Ev.congr (fun k => if_neg (by rw [ba_list, trim_nil, h2]; decide)) (Ev.now _)
  | true =>
   refine Ev.congr (fun k => if_pos (by rw [ba_list, trim_nil, h2])) ?_
   refine Ev.bind (right_head g sc sz l (by omega) (by omega)) ?_
   cases hr : rightH sc sz l with
   | false =>
    rw [no _ (fun h => by cases h.2.2.2)]
    exact Ev.congr (fun k => if_neg (by decide)) (Ev.now _)
   | true =>
    rw [yes _ ⟨rfl, h1, rfl, rfl⟩]
    exact Ev.congr (fun k => if_pos rfl) (Ev.now _)
theorem right_long (a1 a2 : Int) (l : List Sp) (h : 8 < l.length) : rightH a1 a2 l = false := by
 unfold rightH
 rw [decide_eq_false (fun hh => by omega)]; rfl
theorem take_body (t : List UInt8) (ht : t.length = 60) : Ev (fun k =>
  (le_Reader_Text.f (ba t) false 4).bind fun nm => (le_Reader_Number.f nm.2.1 nm.2.2 8).bind fun g => (le_Reader_Number.f g.2.1 g.2.2 2).bind fun sc => (le_Reader_Number.f sc.2.1 sc.2.2 4).bind fun sz => (le_Reader_Number.f sz.2.1 sz.2.2 1).bind fun mn =>
   if 0 ≤ mn.1 ∧ mn.1 < 256 ∧ mn.2.1.size ≤ 1000 then (head_Take.l mn.1.toNat mn.2.1 mn.2.2 []).bind fun lp => if lp.2.1.size ≤ 1000 then head_Take.m k nm.1 g.1 (wrap64 sc.1) (wrap64 sz.1) lp.1 lp.2.1 lp.2.2 else none else none) (bodyT t) := by
 have e1 : le_Reader_Text.f (ba t) false 4 = some (ba (t.take 4), ba (t.drop 4), false) := txt_ok t 4 (by omega)
 have e2 : le_Reader_Number.f (ba (t.drop 4)) false 8 = some (((getB ((t.drop 4).take 8) : Nat) : Int), ba (t.drop 12), false) := (num_ok (t.drop 4) 8 (by omega) (by rw [List.length_drop]; omega)).trans (by rw [List.drop_drop])
 have e3 : le_Reader_Number.f (ba (t.drop 12)) false 2 = some (((getB ((t.drop 12).take 2) : Nat) : Int), ba (t.drop 14), false) := (num_ok (t.drop 12) 2 (by omega) (by rw [List.length_drop]; omega)).trans (by rw [List.drop_drop])
 have e4 : le_Reader_Number.f (ba (t.drop 14)) false 4 = some (((getB ((t.drop 14).take 4) : Nat) : Int), ba (t.drop 18), false) := (num_ok (t.drop 14) 4 (by omega) (by rw [List.length_drop]; omega)).trans (by rw [List.drop_drop])
 have e5 : le_Reader_Number.f (ba (t.drop 18)) false 1 = some (((getB ((t.drop 18).take 1) : Nat) : Int), ba (t.drop 19), false) := (num_ok (t.drop 18) 1 (by omega) (by rw [List.length_drop]; omega)).trans (by rw [List.drop_drop])
 have g1 := getB2 (t.drop 12)
 have g2 := getB4 (t.drop 14)
 have g3 := getB1 (t.drop 18)
 unfold bodyT
 generalize getB ((t.drop 4).take 8) = g at e2 ⊢
 generalize getB ((t.drop 12).take 2) = sc at e3 g1 ⊢
 generalize getB ((t.drop 14).take 4) = sz at e4 g2 ⊢
 generalize getB ((t.drop 18).take 1) = mn at e5 g3 ⊢
 refine Ev.congr (f := fun k => (head_Take.l mn (ba (t.drop 19)) false []).bind fun lp => if lp.2.1.size ≤ 1000 then head_Take.m k (ba (t.take 4)) (g : Int) (sc : Int) (sz : Int) lp.1 lp.2.1 lp.2.2 else none) (fun k => ?_) ?_
 ·rw [e1, Option.bind_some]
  show (le_Reader_Number.f (ba (t.drop 4)) false 8).bind _ = _
  rw [e2, Option.bind_some]
  show (le_Reader_Number.f (ba (t.drop 12)) false 2).bind _ = _
  rw [e3, Option.bind_some]
  show (le_Reader_Number.f (ba (t.drop 14)) false 4).bind _ = _
  rw [e4, Option.bind_some]
  show (le_Reader_Number.f (ba (t.drop 18)) false 1).bind _ = _
  rw [e5, Option.bind_some]
  refine (if_pos ⟨by show (0 : Int) ≤ (mn : Int); omega, by show (mn : Int) < 256; omega, by show (ba (t.drop 19)).size ≤ 1000; rw [ba_size, List.length_drop]; omega⟩).trans ?_
  show (head_Take.l (mn : Int).toNat (ba (t.drop 19)) false []).bind (fun lp => if lp.2.1.size ≤ 1000 then head_Take.m k (ba (t.take 4)) (g : Int) (wrap64 (sc : Int)) (wrap64 (sz : Int)) lp.1 lp.2.1 lp.2.2 else none) = _
  rw [w64 (sc : Int) (by omega) (by omega), w64 (sz : Int) (by omega) (by omega), Int.toNat_natCast]
 ·by_cases h8 : mn ≤ 8
  ·refine Ev.congr (f := fun k => head_Take.m k (ba (t.take 4)) (g : Int) (sc : Int) (sz : Int) (spansOf mn (t.drop 19)) (ba (t.drop (19 + 4 * mn))) false) (fun k => ?_) ?_
   ·rw [take_l_ok mn (t.drop 19) [] (by rw [List.length_drop]; omega), Option.bind_some, List.drop_drop]
    exact if_pos (by show (ba _).size ≤ 1000; rw [ba_size, List.length_drop]; omega)
   ·have h := take_m (t.take 4) (g : Int) sc sz (spansOf mn (t.drop 19)) (t.drop (19 + 4 * mn)) false g1 g2
    by_cases hc : t.take 4 = [114, 116, 99, 108] ∧ zeroS (t.drop (19 + 4 * mn)) = true ∧ rightH sc sz (spansOf mn (t.drop 19)) = true
    ·rw [if_pos ⟨rfl, hc⟩] at h
     rw [if_pos ⟨h8, hc⟩]
     exact h
    ·rw [if_neg (fun hh => hc hh.2)] at h
     rw [if_neg (fun hh => hc hh.2)]
     exact h
  ·obtain ⟨ls, left, bad, e6, l1, l2⟩ := take_l_any mn (t.drop 19) false []
   rw [if_neg (fun hh => h8 hh.1)]
   have h := take_m (t.take 4) (g : Int) sc sz ls left bad g1 g2
   rw [List.length_nil] at l1
   rw [if_neg (fun hh => by have := hh.2.2.2; rw [right_long _ _ _ (by omega)] at this; cases this)] at h
   refine Ev.congr (fun k => ?_) h
   rw [e6, Option.bind_some]
   rw [List.length_drop] at l2
   exact if_pos (by show (ba _).size ≤ 1000; rw [ba_size]; omega)
theorem take_head (s : List UInt8) (hs : s.length ≤ 1000000000) : Ev (fun k => head_Take.f k (ba s)) (takeH s) := by
 unfold takeH
 by_cases h64 : s.length = 64
 case neg =>
  rw [if_neg h64]
  refine Ev.congr (fun k => ?_) (Ev.now _)
  unfold head_Take.f
  rw [if_neg (by rw [ba_size]; exact h64)]
 rw [if_pos h64]
 have hu := seal_take_eq s hs
 by_cases hz : (unsealed s).2 = 0
 case neg =>
  rw [if_neg hz]
  refine Ev.congr (fun k => ?_) (Ev.now _)
  unfold head_Take.f
  rw [if_pos (by rw [ba_size]; exact h64), hu, Option.bind_some]
  exact if_neg hz
 rw [if_pos hz]
 have hl := (sealed_unsealed s hz).2
 refine Ev.congr (fun k => ?_) (take_body (unsealed s).1 (by omega))
 unfold head_Take.f
 rw [if_pos (by rw [ba_size]; exact h64), hu, Option.bind_some]
 exact if_pos hz
theorem put_get (l : List UInt8) (m : Nat) (h : m ≤ l.length) : putN (getB (l.take m)) m = l.take m := by
 have h2 := putN_getB (l.take m)
 rwa [show (l.take m).length = m by rw [List.length_take]; omega] at h2
theorem spanB_spansOf : ∀ (n : Nat) (u : List UInt8), 4 * n ≤ u.length → spanB (spansOf n u) = u.take (4 * n)
 | 0, u, _ => rfl
 | n + 1, u, h => by
  have h1 := put_get u 2 (by omega)
  have h2 := put_get (u.drop 2) 2 (by rw [List.length_drop]; omega)
  rw [spansOf, spanB, spanB_spansOf n _ (by rw [List.length_drop]; omega)]
  show putN ((getB (u.take 2) : Nat) : Int).toNat 2 ++ (putN ((getB ((u.drop 2).take 2) : Nat) : Int).toNat 2 ++ (u.drop 4).take (4 * n)) = _
  rw [Int.toNat_natCast, Int.toNat_natCast, h1, h2, show 4 * (n + 1) = 2 + (2 + 4 * n) by omega, List.take_add, List.take_add, List.drop_drop]
theorem head_cut (t : List UInt8) (mn : Nat) (ht : t.length = 60) (hm : mn ≤ 8) (he : getB ((t.drop 18).take 1) = mn) :
  headB (getB ((t.drop 4).take 8)) (getB ((t.drop 12).take 2)) (getB ((t.drop 14).take 4)) mn ++ spanB (spansOf mn (t.drop 19)) = [114, 116, 99, 108] ++ (t.drop 4).take (15 + 4 * mn) := by
 subst he
 have ld : ∀ n, (t.drop n).length = 60 - n := fun n => by rw [List.length_drop, ht]
 unfold headB
 rw [put_get (t.drop 4) 8 (by rw [ld]; omega), put_get (t.drop 12) 2 (by rw [ld]; omega), put_get (t.drop 14) 4 (by rw [ld]; omega), put_get (t.drop 18) 1 (by rw [ld]; omega), spanB_spansOf _ _ (by rw [ld]; omega)]
 rw [show 15 + 4 * getB ((t.drop 18).take 1) = 8 + (2 + (4 + (1 + 4 * getB ((t.drop 18).take 1)))) by omega, List.take_add, List.take_add, List.take_add, List.take_add]
 simp only [List.drop_drop, List.append_assoc]
theorem body_iff (t : List UInt8) (mn : Nat) (ht : t.length = 60) (hm : mn ≤ 8) (he : getB ((t.drop 18).take 1) = mn) :
  bodyH (getB ((t.drop 4).take 8)) (getB ((t.drop 12).take 2)) (getB ((t.drop 14).take 4)) (spansOf mn (t.drop 19)) = t ↔ t.take 4 = [114, 116, 99, 108] ∧ zeroS (t.drop (19 + 4 * mn)) = true := by
 have hx : ((t.drop 4).take (15 + 4 * mn)).length = 15 + 4 * mn := by rw [List.length_take, List.length_drop]; omega
 have h0 : t = t.take 4 ++ ((t.drop 4).take (15 + 4 * mn) ++ t.drop (19 + 4 * mn)) := by
  have e1 : t.drop (19 + 4 * mn) = (t.drop 4).drop (15 + 4 * mn) := by rw [List.drop_drop]; congr 1; omega
  rw [e1, List.take_append_drop, List.take_append_drop]
 have hr : (t.drop (19 + 4 * mn)).length = 41 - 4 * mn := by rw [List.length_drop, ht]; omega
 rw [zeroS_iff, hr]
 unfold bodyH
 rw [spansOf_length, head_cut t mn ht hm he]
 rw [show ([114, 116, 99, 108] ++ (t.drop 4).take (15 + 4 * mn) : List UInt8).length = 19 + 4 * mn by rw [List.length_append, hx]; show 4 + _ = _; omega, show 60 - (19 + 4 * mn) = 41 - 4 * mn by omega, List.append_assoc]
 generalize (t.drop 4).take (15 + 4 * mn) = X at h0 hx ⊢
 generalize hz : t.drop (19 + 4 * mn) = Z at h0 hr ⊢
 have h4 : (t.take 4).length = 4 := by rw [List.length_take, ht]; rfl
 generalize t.take 4 = A at h0 h4 ⊢
 constructor
 ·intro h
  rw [h0] at h
  obtain ⟨ha, hb⟩ := List.append_inj h (by rw [h4]; rfl)
  exact ⟨ha.symm, (List.append_cancel_left hb).symm⟩
 ·rintro ⟨rfl, hZ⟩
  rw [h0, ← hZ]
def finR (s : List UInt8) (g sc sz : Int) (l : List Sp) : Int × Int × Int × List Sp × Int :=
 if (putH g sc sz l).2 = 0 then (if (putH g sc sz l).1.toList = (ba s).toList then (g, sc, sz, l, 0) else (0, 0, 0, [], 2)) else (0, 0, 0, [], 2)
theorem fin_body (s t : List UInt8) (ht : t.length = 60) (hs : sealed t = s) (hm : getB ((t.drop 18).take 1) ≤ 8) :
  finR s (getB ((t.drop 4).take 8) : Nat) (getB ((t.drop 12).take 2) : Nat) (getB ((t.drop 14).take 4) : Nat) (spansOf (getB ((t.drop 18).take 1)) (t.drop 19)) = bodyT t := by
 have hb := body_iff t _ ht hm rfl
 unfold finR bodyT putH
 generalize getB ((t.drop 18).take 1) = mn at hb hm ⊢
 generalize spansOf mn (t.drop 19) = l at hb ⊢
 generalize getB ((t.drop 4).take 8) = g at hb ⊢
 generalize getB ((t.drop 12).take 2) = sc at hb ⊢
 generalize getB ((t.drop 14).take 4) = sz at hb ⊢
 cases hr : rightH sc sz l with
 | false =>
  rw [if_neg Bool.false_ne_true]
  exact (if_neg (show ¬ (1 : Int) = 0 by decide)).trans (if_neg (fun h => Bool.false_ne_true h.2.2.2)).symm
 | true =>
  rw [if_pos rfl, if_pos rfl]
  show (if (ba (sealed (bodyH (g : Int).toNat (sc : Int).toNat (sz : Int).toNat l))).toList = (ba s).toList then _ else _) = _
  rw [Int.toNat_natCast, Int.toNat_natCast, Int.toNat_natCast, ba_toList, ba_toList, ← hs]
  by_cases hc : t.take 4 = [114, 116, 99, 108] ∧ zeroS (t.drop (19 + 4 * mn)) = true
  ·rw [if_pos (by rw [hb.2 hc]), if_pos ⟨hm, hc.1, hc.2, rfl⟩]
  ·rw [if_neg (fun h => hc (hb.1 (by have := congrArg unsealed h; rw [unsealed_sealed, unsealed_sealed] at this; exact congrArg Prod.fst this))), if_neg (fun h => hc ⟨h.2.1, h.2.2.1⟩)]
theorem get_put (n m : Nat) (r : List UInt8) (h : n < 256 ^ m) : getB ((putN n m ++ r).take m) = n := by
 rw [List.take_left' (putN_length n m), getB_putN, Nat.mod_eq_of_lt h]
theorem drop_put (n m : Nat) (r : List UInt8) : (putN n m ++ r).drop m = r := List.drop_left' (putN_length n m)
theorem spans_back : ∀ (l : List Sp) (z : List UInt8), natSps l → spansOf l.length (spanB l ++ z) = l
 | [], z, _ => rfl
 | s :: r, z, h => by
  have hs := h s (List.mem_cons_self ..)
  rw [List.length_cons, spansOf, spanB, List.append_assoc, List.append_assoc, get_put _ 2 _ (by show s.f0.toNat < 65536; omega), drop_put, get_put _ 2 _ (by show s.f1.toNat < 65536; omega)]
  have e : (putN s.f0.toNat 2 ++ (putN s.f1.toNat 2 ++ (spanB r ++ z))).drop 4 = spanB r ++ z := by
   rw [show (4 : Nat) = 2 + 2 from rfl, ← List.drop_drop, drop_put, drop_put]
  rw [e, spans_back r z (fun x hx => h x (List.mem_cons_of_mem _ hx))]
  congr 1
  exact sp_ext (by show ((s.f0.toNat : Nat) : Int) = s.f0; omega) (by show ((s.f1.toNat : Nat) : Int) = s.f1; omega)
theorem body_back (a0 a1 a2 : Nat) (l : List Sp) (h0 : a0 < 18446744073709551616) (hr : rightH a1 a2 l = true) : bodyT (bodyH a0 a1 a2 l) = ((a0 : Int), (a1 : Int), (a2 : Int), l, 0) := by
 obtain ⟨c1, c2, c3, c4, hn, c5⟩ := right_nat hr
 have ht := bodyH_length a0 a1 a2 l c4
 have hl := spanB_length l
 have hb : bodyH a0 a1 a2 l = [114, 116, 99, 108] ++ (putN a0 8 ++ (putN a1 2 ++ (putN a2 4 ++ (putN l.length 1 ++ (spanB l ++ List.replicate (60 - (headB a0 a1 a2 l.length ++ spanB l).length) 0))))) := by
  unfold bodyH headB
  simp only [List.append_assoc]
 generalize hZ : List.replicate (60 - (headB a0 a1 a2 l.length ++ spanB l).length) (0 : UInt8) = Z at hb
 generalize bodyH a0 a1 a2 l = t at ht hb ⊢
 have d4 : t.drop 4 = putN a0 8 ++ (putN a1 2 ++ (putN a2 4 ++ (putN l.length 1 ++ (spanB l ++ Z)))) := by rw [hb]; rfl
 have d12 : t.drop 12 = putN a1 2 ++ (putN a2 4 ++ (putN l.length 1 ++ (spanB l ++ Z))) := by rw [show (12 : Nat) = 4 + 8 from rfl, ← List.drop_drop, d4, drop_put]
 have d14 : t.drop 14 = putN a2 4 ++ (putN l.length 1 ++ (spanB l ++ Z)) := by rw [show (14 : Nat) = 12 + 2 from rfl, ← List.drop_drop, d12, drop_put]
 have d18 : t.drop 18 = putN l.length 1 ++ (spanB l ++ Z) := by rw [show (18 : Nat) = 14 + 4 from rfl, ← List.drop_drop, d14, drop_put]
 have d19 : t.drop 19 = spanB l ++ Z := by rw [show (19 : Nat) = 18 + 1 from rfl, ← List.drop_drop, d18, drop_put]
 have dZ : t.drop (19 + 4 * l.length) = Z := by rw [← List.drop_drop, d19, List.drop_left' hl]
 have g1 : getB ((t.drop 18).take 1) = l.length := by rw [d18, get_put _ 1 _ (by show l.length < 256; omega)]
 have g2 : getB ((t.drop 12).take 2) = a1 := by rw [d12, get_put _ 2 _ (by show a1 < 65536; omega)]
 have g3 : getB ((t.drop 14).take 4) = a2 := by rw [d14, get_put _ 4 _ (by show a2 < 4294967296; omega)]
 have g4 : getB ((t.drop 4).take 8) = a0 := by rw [d4, get_put _ 8 _ (by rw [show (256 : Nat) ^ 8 = 18446744073709551616 by simp]; exact h0)]
 have gs : spansOf l.length (t.drop 19) = l := by rw [d19, spans_back l Z hn]
 unfold bodyT
 rw [g1, g2, g3, g4, gs, dZ]
 refine if_pos ⟨c4, by rw [hb]; rfl, ?_, hr⟩
 rw [zeroS_iff, ← hZ, List.length_replicate]
abbrev HeadR := Int × Int × Int × List Sp × Int
def chooseS (x y : HeadR) : Int × Int × Int × List Sp × Int × Int :=
 if x.2.2.2.2 = 0 then (if y.2.2.2.2 = 0 then (if y.1 > x.1 then (y.1, y.2.1, y.2.2.1, y.2.2.2.1, 1, 0) else (x.1, x.2.1, x.2.2.1, x.2.2.2.1, 0, 0)) else (x.1, x.2.1, x.2.2.1, x.2.2.2.1, 0, 0))
 else (if y.2.2.2.2 = 0 then (y.1, y.2.1, y.2.2.1, y.2.2.2.1, 1, 0) else (0, 0, 0, [], 0, 2))
theorem choose_head (a b : List UInt8) (ha : a.length ≤ 1000000000) (hb : b.length ≤ 1000000000) : Ev (fun k => head_Choose.f k (ba a) (ba b)) (chooseS (takeH a) (takeH b)) := by
 refine Ev.bind (take_head a ha) ?_
 refine Ev.bind (take_head b hb) ?_
 generalize takeH a = x
 generalize takeH b = y
 refine Ev.step (f := fun _ => some _) (fun k => ?_) (Ev.now _)
 simp only [head_Choose.j0]
 unfold chooseS
 by_cases h1 : x.2.2.2.2 = 0
 ·by_cases h2 : y.2.2.2.2 = 0
  ·by_cases h3 : y.1 > x.1
   ·simp [h1, h2, h3]
   ·simp [h1, h2, h3]
  ·simp [h1, h2]
 ·by_cases h2 : y.2.2.2.2 = 0
  ·simp [h1, h2]
  ·simp [h1, h2]
theorem take_seal (t : List UInt8) (h : t.length = 60) : takeH (sealed t) = bodyT t := by
 unfold takeH
 rw [if_pos (by rw [sealed_length]; omega), unsealed_sealed]
 exact if_pos rfl
theorem take_q (r : List UInt8) : (takeH (113 :: r)).2.2.2.2 ≠ 0 := by
 unfold takeH
 by_cases h1 : (113 :: r).length = 64
 ·rw [if_pos h1]
  by_cases h2 : (unsealed (113 :: r)).2 = 0
  ·rw [if_pos h2]
   obtain ⟨hs, hl⟩ := sealed_unsealed _ h2
   generalize (unsealed (113 :: r)).1 = t at hs hl
   unfold sealed at hs
   cases t with
   | nil => rw [h1] at hl; simp at hl
   | cons c t' =>
    rw [List.cons_append] at hs
    injection hs with hc _
    unfold bodyT
    rw [if_neg (fun h => by
     have := h.2.1
     rw [List.take_succ_cons] at this
     injection this with h3 _
     rw [hc] at h3
     exact absurd h3 (by decide))]
    decide
  ·rw [if_neg h2]; exact h2
 ·rw [if_neg h1]; decide
theorem right7 : rightH 9 65 [⟨2, 2⟩] = true := by decide +kernel
theorem right8 : rightH 9 0 [] = true := by decide +kernel
theorem body7 : (bodyT (bodyH 7 9 65 [⟨2, 2⟩])).1 = 7 ∧ (bodyT (bodyH 7 9 65 [⟨2, 2⟩])).2.2.1 = 65 ∧ (bodyT (bodyH 7 9 65 [⟨2, 2⟩])).2.2.2.2 = 0 := by decide +kernel
theorem body8 : (bodyT (bodyH 8 9 0 [])).1 = 8 ∧ (bodyT (bodyH 8 9 0 [])).2.2.2.2 = 0 := by decide +kernel
set_option maxRecDepth 100000 in
theorem shown6 : Ev (fun k => l6_shown.f k) true := by
 have p1 := put_head 7 9 65 [⟨2, 2⟩] (by decide) (by decide) (by decide) (by decide)
 have p2 := put_head 8 9 0 [] (by decide) (by decide) (by decide) (by decide)
 have e1 : putH 7 9 65 [⟨2, 2⟩] = (ba (sealed (bodyH 7 9 65 [⟨2, 2⟩])), 0) := by unfold putH; rw [if_pos right7]; rfl
 have e2 : putH 8 9 0 [] = (ba (sealed (bodyH 8 9 0 [])), 0) := by unfold putH; rw [if_pos right8]; rfl
 rw [e1] at p1
 rw [e2] at p2
 have l1 : (sealed (bodyH 7 9 65 [⟨2, 2⟩])).length = 64 := by rw [sealed_length, bodyH_length _ _ _ _ (by decide)]
 have l2 : (sealed (bodyH 8 9 0 [])).length = 64 := by rw [sealed_length, bodyH_length _ _ _ _ (by decide)]
 have t1 := take_seal (bodyH 7 9 65 [⟨2, 2⟩]) (bodyH_length _ _ _ _ (by decide))
 have t2 := take_seal (bodyH 8 9 0 []) (bodyH_length _ _ _ _ (by decide))
 have b7 := body7
 have b8 := body8
 rw [← t1] at b7
 rw [← t2] at b8
 refine Ev.bind p1 ?_
 refine Ev.bind p2 ?_
 generalize sealed (bodyH 7 9 65 [⟨2, 2⟩]) = s at l1 b7 ⊢
 generalize sealed (bodyH 8 9 0 []) = t at l2 b8 ⊢
 refine Ev.congr (fun k => (if_pos (by rw [ba_size]; omega)).trans ((if_pos (by rw [ba_size]; omega)).trans (if_pos rfl))) ?_
 have c1 := choose_head s t (by omega) (by omega)
 have c2 := choose_head s (113 :: t.drop 1) (by omega) (by rw [List.length_cons, List.length_drop]; omega)
 have hq := take_q (t.drop 1)
 have x1 : chooseS (takeH s) (takeH t) = ((takeH t).1, (takeH t).2.1, (takeH t).2.2.1, (takeH t).2.2.2.1, 1, 0) := by
  unfold chooseS
  rw [if_pos b7.2.2, if_pos b8.2, if_pos (by rw [b7.1, b8.1]; decide)]
 have x2 : chooseS (takeH s) (takeH (113 :: t.drop 1)) = ((takeH s).1, (takeH s).2.1, (takeH s).2.2.1, (takeH s).2.2.2.1, 0, 0) := by
  unfold chooseS
  rw [if_pos b7.2.2, if_neg hq]
 rw [x1] at c1
 rw [x2] at c2
 clear x1 x2 hq t1 t2 e1 e2 p1 p2
 generalize takeH t = y at c1 b8
 generalize takeH s = x at c2 b7
 refine Ev.step (f := fun k => (head_Choose.f k (ba s) (ba t)).bind fun bt144 => (head_Choose.f k (ba s) (ba (113 :: t.drop 1))).bind fun bt153 => (if bt144.1 = 8 then (if bt144.2.2.2.2.1 = 1 then (if bt144.2.2.2.2.2 = 0 then (if bt153.1 = 7 then (if bt153.2.2.2.2.1 = 0 then (if bt153.2.2.2.2.2 = 0 then (some (bt153.2.2.1 == 65)) else (some false)) else (some false)) else (some false)) else (some false)) else (some false)) else (some false))) (fun k => ?_) ?_
 ·show l6_shown.j0 (k + 1) (ba s) (ba t) false = _
  simp only [l6_shown.j0]
  refine (if_neg (by decide)).trans ?_
  congr 1
  funext bt144
  rw [if_pos (by rw [ba_size]; omega), if_pos (by rw [ba_size]; omega), ba_drop, show (⟨#[113]⟩ : ByteArray) = ba [113] from rfl, ba_append]
  rfl
 ·refine Ev.bind c1 ?_
  refine Ev.bind c2 ?_
  refine Ev.congr (f := fun _ => some true) (fun k => ?_) (Ev.now _)
  show (if y.1 = 8 then (if (1 : Int) = 1 then (if (0 : Int) = 0 then (if x.1 = 7 then (if (0 : Int) = 0 then (if (0 : Int) = 0 then (some (x.2.2.1 == 65)) else (some false)) else (some false)) else (some false)) else (some false)) else (some false)) else (some false)) = some true
  rw [b8.1, b7.1, b7.2.1]
  rfl
theorem put_ok {a0 a1 a2 : Int} {l : List Sp} (h : rightH a1 a2 l = true) : putH a0 a1 a2 l = (ba (sealed (bodyH a0.toNat a1.toNat a2.toNat l)), 0) := by
 unfold putH; exact if_pos h
theorem put_no {a0 a1 a2 : Int} {l : List Sp} (h : ¬ rightH a1 a2 l = true) : putH a0 a1 a2 l = (ba [], 1) := by
 unfold putH; exact if_neg h
theorem sec_length {a0 a1 a2 : Int} {l : List Sp} (h : rightH a1 a2 l = true) : (sealed (bodyH a0.toNat a1.toNat a2.toNat l)).length = 64 := by
 rw [sealed_length, bodyH_length _ _ _ _ (right_nat h).2.2.2.1]
theorem take_put {a0 a1 a2 : Int} {l : List Sp} (h0 : 0 ≤ a0) (h0' : a0 < 18446744073709551616) (h : rightH a1 a2 l = true) : takeH (sealed (bodyH a0.toNat a1.toNat a2.toNat l)) = (a0, a1, a2, l, 0) := by
 obtain ⟨c1, c2, c3, c4, hn, c5⟩ := right_nat h
 rw [take_seal _ (bodyH_length _ _ _ _ c4), body_back a0.toNat a1.toNat a2.toNat l (by omega) (by rw [Int.toNat_of_nonneg (by omega), Int.toNat_of_nonneg c3]; exact h), Int.toNat_of_nonneg h0, Int.toNat_of_nonneg (by omega), Int.toNat_of_nonneg c3]
theorem body_no {t : List UInt8} (h : (bodyT t).2.2.2.2 ≠ 0) : bodyT t = (0, 0, 0, [], 2) := by
 revert h
 unfold bodyT
 intro h
 split
 next hc => rw [if_pos hc] at h; exact absurd rfl h
 next hc => rfl
def toI (l : List UInt8) : List Int := l.map fun c => (c.toNat : Int)
theorem toI_str (l : List UInt8) : strOfNums (toI l) = ba l := by
 unfold strOfNums toI ba
 rw [List.map_map]
 congr 2
 conv => rhs; rw [← List.map_id l]
 apply List.map_congr_left
 intro c _
 simp
theorem toI_len (l : List UInt8) : (toI l).length = l.length := by simp [toI]
theorem toI_zero (n : Nat) : toI (List.replicate n 0) = List.replicate n 0 := by simp [toI]
def TurnedTo (L M : List UInt8) (at_ : Nat) (W : BitVec 32) (j : Nat) : Prop := M.length = L.length ∧ ∀ k, bitsF M k = (bitsF L k ^^ (decide (at_ ≤ k ∧ k < at_ + j) && W.getLsbD (k - at_)))
theorem rd_toI (M : List UInt8) (i : Nat) : rd (toI M) (i : Int) = (((M.getD i 0).toNat : Nat) : Int) := by
 unfold rd toI
 rw [Int.toNat_natCast, List.getD_eq_getElem?_getD, List.getD_eq_getElem?_getD, List.getElem?_map]
 cases M[i]? <;> rfl
theorem set_toI (M : List UInt8) (i n : Nat) (h : n < 256) : (toI M).set i (n : Int) = toI (M.set i (UInt8.ofNat n)) := by
 unfold toI
 rw [List.map_set, UInt8.toNat_ofNat', Nat.mod_eq_of_lt h]
theorem toI_bytes (l : List UInt8) : toI l = Go.Proofs.YtcgejogmiglalaaDoorW.PrintWords.bytesOf (ba l) := by unfold toI Go.Proofs.YtcgejogmiglalaaDoorW.PrintWords.bytesOf; rw [ba_list]
theorem zeros_sum : (unsealed (List.replicate 64 0)).2 = 9 := by decide +kernel
theorem take_bad (s : List UInt8) (h1 : s.length = 64) (h2 : (unsealed s).2 = 9) : (takeH s).2.2.2.2 = 9 := by
 unfold takeH
 rw [if_pos h1, if_neg (by rw [h2]; decide)]
 exact h2
theorem take_zeros : (takeH (List.replicate 64 0)).2.2.2.2 = 9 := take_bad _ (List.length_replicate ..) zeros_sum
theorem take_long (s : List UInt8) (h : s.length ≠ 64) : (takeH s).2.2.2.2 = 1 := by
 unfold takeH; rw [if_neg h]
theorem choose_none (x : HeadR) (h : x.2.2.2.2 ≠ 0) : chooseS x x = (0, 0, 0, [], 0, 2) := by
 unfold chooseS; rw [if_neg h, if_neg h]
theorem toI_zeros (n : Nat) : strOfNums (List.replicate n 0) = ba (List.replicate n 0) := by rw [← toI_zero, toI_str]
theorem body_take (a0 a1 a2 : Nat) (l : List Sp) : (bodyH a0 a1 a2 l).take 4 = [114, 116, 99, 108] := by
 unfold bodyH headB
 simp only [List.append_assoc]
 rfl
theorem not_j1 (a0 a1 a2 : Int) (l : List Sp) (h0 : 0 ≤ a0 ∧ a0 < 18446744073709551616) (hr : rightH a1 a2 l = true) (x1 : Int) (c : Nat) (hc : c < 256) :
  Ev (fun k => l6_HeadNot.j1 k x1 (c : Int) (ba (sealed (bodyH a0.toNat a1.toNat a2.toNat l))) 0 false) true := by
 have hl := sec_length hr (a0 := a0)
 have hb := bodyH_length a0.toNat a1.toNat a2.toNat l (right_nat hr).2.2.2.1
 have h4 := body_take a0.toNat a1.toNat a2.toNat l
 have hk := take_put h0.1 h0.2 hr
 have h60 : (sealed (bodyH a0.toNat a1.toNat a2.toNat l)).take 60 = bodyH a0.toNat a1.toNat a2.toNat l := by
  unfold sealed
  exact List.take_left' hb
 rw [take_seal _ hb] at hk
 have hk0 : (bodyT (bodyH a0.toNat a1.toNat a2.toNat l)).2.2.2.2 = 0 := by rw [hk]
 clear hk
 generalize sealed (bodyH a0.toNat a1.toNat a2.toNat l) = s at hl h60 ⊢
 generalize bodyH a0.toNat a1.toNat a2.toNat l = b at hb h4 hk0 h60
 obtain ⟨m, hm, hm3⟩ : ∃ m : Nat, mx 0 (mn x1 3) = (m : Int) ∧ m ≤ 3 := by
  refine ⟨(mx 0 (mn x1 3)).toNat, ?_, ?_⟩ <;> unfold mx mn <;> split <;> split <;> omega
 obtain ⟨Z, hZ, hzl, hz⟩ : ∃ Z : List UInt8, List.replicate 64 0 = Z ∧ Z.length = 64 ∧ (takeH Z).2.2.2.2 = 9 := ⟨_, rfl, List.length_replicate .., take_zeros⟩
 have t1 := take_head Z (by omega)
 have t2 := take_head (s.take 63) (by rw [List.length_take]; omega)
 have t3 := take_head (s ++ [120]) (by rw [List.length_append]; show s.length + 1 ≤ _; omega)
 have c1 := choose_head Z Z (by omega) (by omega)
 rw [choose_none _ (by rw [hz]; decide)] at c1
 have hs : (b.set m (UInt8.ofNat c)).length = 60 := by rw [List.length_set]; exact hb
 have p1 := ref_seal_put (b.set m (UInt8.ofNat c)) (by omega)
 have t4 := take_head (sealed (b.set m (UInt8.ofNat c))) (by rw [sealed_length]; omega)
 rw [take_seal _ hs] at t4
 have e63 := take_long (s.take 63) (by rw [List.length_take]; omega)
 have e65 := take_long (s ++ [120]) (by rw [List.length_append]; show s.length + 1 ≠ 64; omega)
 have hrd := rd_toI b m
 have hfin : ((((b.getD m 0).toNat : Nat) : Int) = (c : Int) → (bodyT (b.set m (UInt8.ofNat c))).2.2.2.2 = 0) ∧ (¬ (((b.getD m 0).toNat : Nat) : Int) = (c : Int) → (bodyT (b.set m (UInt8.ofNat c))).2.2.2.2 = 2) := by
  have hmb : m < b.length := by omega
  have hg : b.getD m 0 = b[m]'hmb := by rw [List.getD_eq_getElem?_getD, List.getElem?_eq_getElem hmb]; rfl
  rw [hg]
  constructor
  ·intro h
   have hc' : UInt8.ofNat c = b[m]'hmb := by
    rw [show c = (b[m]'hmb).toNat by omega]
    exact UInt8.ofNat_toNat
   rw [hc', List.set_getElem_self]
   exact hk0
  ·intro h
   have hn : ¬ (b.set m (UInt8.ofNat c)).take 4 = [114, 116, 99, 108] := fun e => by
    rw [← h4] at e
    have e2 := congrArg (fun x => x[m]?) e
    simp only [List.getElem?_take, if_pos (show m < 4 by omega), List.getElem?_set_self hmb, List.getElem?_eq_getElem hmb, Option.some.injEq] at e2
    apply h
    rw [← e2, UInt8.toNat_ofNat', Nat.mod_eq_of_lt (by omega)]
   unfold bodyT
   rw [if_neg (fun h => hn h.2.1)]
 refine Ev.step (f := fun k => (head_Take.f k (ba Z)).bind fun bt370 => ((head_Take.f k (ba (s.take 63))).bind fun bt378 => ((head_Take.f k (ba (s ++ [120]))).bind fun bt386 => ((head_Choose.f k (ba Z) (ba Z)).bind fun bt394 => ((r3_Put.f k (ba (b.set m (UInt8.ofNat c)))).bind fun t408 => ((head_Take.f k t408).bind fun bt409 => (if bt370.2.2.2.2 = 9 then (if bt378.2.2.2.2 = 1 then (if bt386.2.2.2.2 = 1 then (if bt394.2.2.2.2.2 = 2 then (if (((b.getD m 0).toNat : Nat) : Int) = (c : Int) then (if bt409.2.2.2.2 = 0 then (some true) else (if ((((b.getD m 0).toNat : Nat) : Int) = (c : Int)) then (none) else (some (bt409.2.2.2.2 == 2)))) else (if ((((b.getD m 0).toNat : Nat) : Int) = (c : Int)) then (none) else (some (bt409.2.2.2.2 == 2)))) else (none)) else (none)) else (none)) else (none)))))))) (fun k => ?_) ?_
 ·simp only [l6_HeadNot.j1]
  refine (if_neg (by decide)).trans ?_
  refine (if_pos (by decide)).trans ?_
  rw [Option.bind_some, toI_zeros, hZ, ba_take, ba_take, show (⟨#[120]⟩ : ByteArray) = ba [120] from rfl, ba_append, h60, ba_size, ba_size, ← toI_bytes]
  congr 1
  funext bt370
  refine (if_pos (by decide)).trans ?_
  refine (if_pos (by omega)).trans ?_
  congr 1
  funext bt378
  refine (if_pos (by omega)).trans ?_
  congr 1
  funext bt386
  congr 1
  funext bt394
  refine (if_pos (by decide)).trans ?_
  refine (if_pos (by omega)).trans ?_
  refine (if_pos (by omega)).trans ?_
  rw [Option.bind_some, toI_len, hm, Int.toNat_natCast, set_toI _ _ _ hc, toI_str, hrd]
  refine (if_pos (by omega)).trans ?_
  exact if_pos (by omega)
 refine Ev.bind t1 ?_
 refine Ev.bind t2 ?_
 refine Ev.bind t3 ?_
 refine Ev.bind c1 ?_
 refine Ev.bind p1 ?_
 refine Ev.bind t4 ?_
 refine Ev.congr (f := fun _ => some true) (fun k => ?_) (Ev.now _)
 rw [if_pos hz, if_pos e63, if_pos e65]
 refine (if_pos rfl).trans ?_
 by_cases h : (((b.getD m 0).toNat : Nat) : Int) = (c : Int)
 ·rw [if_pos h, if_pos (hfin.1 h)]
 ·rw [if_neg h, if_neg h, hfin.2 h]
  rfl
theorem not_j0 (a0 a1 a2 : Int) (l : List Sp) (h0 : 0 ≤ a0 ∧ a0 < 18446744073709551616) (h1 : a1 ≤ 9223372036854775807) (h2 : a2 ≤ 9223372036854775807) (x1 : Int) (c : Nat) (hc : c < 256) :
  Ev (fun k => l6_HeadNot.j0 k x1 (c : Int) true false a0 a1 a2 l) true := by
 refine Ev.step (f := fun k => (head_Put.f k a0 a1 a2 l).bind fun bt365 => (if bt365.2 = 0 then (l6_HeadNot.j1 k x1 (c : Int) bt365.1 bt365.2 ((bt365.1.size : Int) != 64)) else (l6_HeadNot.j1 k x1 (c : Int) bt365.1 bt365.2 true))) (fun k => ?_) ?_
 ·simp only [l6_HeadNot.j0]
  exact if_neg (by decide)
 refine Ev.bind (put_head a0 a1 a2 l h0.1 h0.2 h1 h2) ?_
 by_cases hr : rightH a1 a2 l = true
 ·rw [put_ok hr]
  have hl := sec_length hr (a0 := a0)
  have h := not_j1 a0 a1 a2 l h0 hr x1 c hc
  refine Ev.congr (fun k => if_pos rfl) ?_
  show Ev (fun k => l6_HeadNot.j1 k x1 (c : Int) (ba (sealed (bodyH a0.toNat a1.toNat a2.toNat l))) 0 (((ba (sealed (bodyH a0.toNat a1.toNat a2.toNat l))).size : Int) != 64)) true
  rw [ba_size, hl]
  exact h
 ·rw [put_no hr]
  refine Ev.congr (fun k => if_neg (show ¬ (1 : Int) = 0 by decide)) ?_
  refine Ev.step (f := fun _ => some true) (fun k => ?_) (Ev.now _)
  simp only [l6_HeadNot.j1]
  exact if_pos trivial
theorem HeadNot (a0 a1 a2 : Int) (l : List Sp) (x y : Int) (h0 : 0 ≤ a0 ∧ a0 < 18446744073709551616) (h1 : a1 ≤ 9223372036854775807) (h2 : a2 ≤ 9223372036854775807) (hy : 0 ≤ y ∧ y < 256) : ∃ k, l6_HeadNot.f k a0 a1 a2 l x y = some true := by
 obtain ⟨c, rfl⟩ : ∃ c : Nat, y = (c : Int) := ⟨y.toNat, by omega⟩
 refine Ev.rounds (g := fun k => l6_HeadNot.f k a0 a1 a2 l x (c : Int)) ?_
 refine Ev.bind shown6 ?_
 refine Ev.congr (fun k => if_pos rfl) ?_
 by_cases h : (l.length : Int) > 20
 ·rw [decide_eq_true h]
  refine Ev.step (f := fun _ => some true) (fun k => ?_) (Ev.now _)
  simp only [l6_HeadNot.j0]
  exact if_pos trivial
 ·rw [decide_eq_false h]
  exact not_j0 a0 a1 a2 l h0 h1 h2 x c (by omega)
end Go.Proofs.YtcgejogmiglalaaDoor.Pu
end
section
namespace Go.Proofs.YtcgejogmiglalaaDoor.RowB0
open Go.Shelf Go.ChangeShapes Go.WideShapes Go.ChangeAt Go.RowKit Go.Lib Go.Deep
theorem own : ownKnob Tryd.prog.godebug = none := by kernel_rfl
theorem laidOut : laidOutB Tryd.prog = true := by kernel_rfl
def litOf : DataW Unit → Value
  | .lit (.int k z) => .int k z
  | _ => .bool false
def cellsOf : DataW Unit → List Value
  | .agg l => l.flatMap fun | .agg m => m.map litOf | x => [litOf x]
  | x => [litOf x]
theorem first_eq : Rows.laid_unicode_utf8_first = firstData := by unfold Rows.laid_unicode_utf8_first; exact Pinned.utf8First_eq
abbrev laids : List (String × DataW Unit) := [("unicode/utf8.acceptRanges", Rows.laid_unicode_utf8_acceptRanges), ("unicode/utf8.first", Rows.laid_unicode_utf8_first)]
noncomputable def laidWorld (os : Os) : World :=
  let w0 := World.holding Tryd.prog os ⟨#[], #[], []⟩
  let put (h : Array Obj) (g : Nat) (cs : Array Value) : Array Obj := h.modify g fun
    | .cells _ t frozen => .cells cs t frozen
    | o => o
  let h0 := put w0.heap 2 (cellsOf Rows.laid_unicode_utf8_acceptRanges).toArray
  let h1 := put h0 1 (Lib.firstTab.map fun z => Value.int .u8 z).toArray
  { w0 with heap := h1 }
theorem laid_met (os : Os) (args : Array Value) : laidMet Tryd.prog laids ((laidWorld os).forCall (fun _ _ => 0) ⟨#[], args, []⟩).memory := by
  unfold laids
  rw [first_eq]
  exact laidMet_of_run' 8 (by kernel_rfl) (by kernel_rfl)
end Go.Proofs.YtcgejogmiglalaaDoor.RowB0
end
section
namespace Go.Proofs.YtcgejogmiglalaaDoor.RowN
open Go.Shelf Go.ChangeShapes Go.WideShapes Go.ChangeAt Go.RowKit Go.Lib Go.Deep
open Go.ChangeMaps (open_string shut_string)
set_option maxRecDepth 100000
section
variable {H : Type} {enc : TypeId × Value → H} {W : World} {base b0 : Nat} {sp : Nat → Bool} {held : Bool}
theorem open_num {t : TypeId} {k : IntKind} (ht : Tryd.prog.underlying t = some (.int k)) {r : Reach} {v : Value} {d : DataW H} {p : List MemPlace} (hv : Value.okWide Tryd.prog W r b0 t v)
    (h : DataW.Trod enc Tryd.prog W base sp held t v d p) : ∃ a : Int, v = .int k a ∧ (Lit.int k a).wf = true := by
  obtain ⟨a, rfl, _, _, w⟩ := open_int ht hv h
  exact ⟨a, rfl, w⟩
theorem u8_b {a : Int} (w : (Lit.int .u8 a).wf = true) : 0 ≤ a ∧ a < 256 := by have := bounds_u8 w; omega
end
end Go.Proofs.YtcgejogmiglalaaDoor.RowN
end
section
namespace Go.Proofs.YtcgejogmiglalaaDoor.RowHead
open Go.Shelf Go.ChangeShapes Go.WideShapes Go.ChangeAt Go.RowKit Go.Lib Go.Deep Go.Proofs.YtcgejogmiglalaaDoorW.PrintWords Go.Proofs.YtcgejogmiglalaaDoor.Fn
set_option maxRecDepth 100000
section
variable {H : Type} {enc : TypeId × Value → H} {W : World} {base b0 : Nat} {sp : Nat → Bool} {held : Bool}
theorem cells_int : Tryd.prog.cellsOf 3 = 1 := by kernel_rfl
theorem cells_u64 : Tryd.prog.cellsOf 22 = 1 := by kernel_rfl
theorem cells_row : Tryd.prog.cellsOf 23 = 1 := by kernel_rfl
theorem cells_span : Tryd.prog.cellsOf 53 = 2 := by kernel_rfl
theorem cells_head : Tryd.prog.cellsOf 25 = 4 := by kernel_rfl
theorem core {fuel : Nat} {cs : List Value} {y : DataW H × List MemPlace} (h : DataW.trod enc Tryd.prog W base sp held fuel 53 cs = some y) : ∃ x : S53, k53.K W x cs ∧ True := by
  obtain ⟨xs, n, _, hx, hl, hlen, hg⟩ := DataW.trod_struct Tryd.underlying53 h
  match cs, hl.trans cells_span with
  | [c0, c1], _ =>
    match xs, hlen with
    | [y0, y1], _ =>
      have g0 := hg 0 _ rfl
      change DataW.trod enc Tryd.prog W base sp held n 3 (([c0, c1].drop 0).take (Tryd.prog.cellsOf 3)) = some y0 at g0
      rw [cells_int] at g0
      have g1 := hg 1 _ rfl
      change DataW.trod enc Tryd.prog W base sp held n 3 (([c0, c1].drop 1).take (Tryd.prog.cellsOf 3)) = some y1 at g1
      rw [cells_int] at g1
      obtain ⟨m0, e0, _, w0⟩ := DataW.trod_int Tryd.underlying3 g0
      obtain ⟨m1, e1, _, w1⟩ := DataW.trod_int Tryd.underlying3 g1
      cases e0; cases e1
      exact ⟨⟨m0, m1⟩, k53_mk W _, trivial⟩
theorem open_row {α : Type} (d : Kd α) (Q : α → Prop) {t e : TypeId} (ht : Tryd.prog.underlying t = some (.slice e)) (hsz : Tryd.prog.cellsOf e = d.sz)
    (core : ∀ (fuel : Nat) (cs : List Value) (y : DataW H × List MemPlace), DataW.trod enc Tryd.prog W base sp held fuel e cs = some y → ∃ x : α, d.K W x cs ∧ Q x)
    {fuel : Nat} {cs : List Value} {y : DataW H × List MemPlace} (h : DataW.trod enc Tryd.prog W base sp held fuel t cs = some y) :
    ∃ (A : Option Addr) (l : List α) (c : Nat), cs = [.slice A l.length c] ∧ d.C W A l.length l ∧ l.length ≤ c ∧ ∀ x ∈ l, Q x := by
  rcases open_slice ht h with ⟨rfl, _⟩ | ⟨a, len, cap, m, n, D, Pl, rfl, hb, hl, hm, hmm, hx, hi⟩
  · exact ⟨none, [], 0, rfl, ⟨rfl, Nat.zero_le _, fun h => absurd h (by simp)⟩, Nat.le_refl _, fun x hx => by cases hx⟩
  · have hml : len ≤ m := by rw [hmm]; split <;> omega
    have hall : ∀ k, k ≤ len → ∃ l : List α, l.length = k ∧ (∀ x ∈ l, Q x) ∧ ∀ j p, l[j]? = some p → ∃ c, c.length = d.sz ∧ d.K W p c ∧ ∀ i u, c[i]? = some u → W.cell? (a.add (j * d.sz + i)) = some u := by
      intro k
      induction k with
      | zero => intro _; exact ⟨[], rfl, (fun x hx => by cases hx), (fun j p hj => by simp at hj)⟩
      | succ k ih =>
        intro hk
        obtain ⟨l, hlen, hq, hg⟩ := ih (by omega)
        obtain ⟨cs', hc, ht'⟩ := hi k (by omega)
        obtain ⟨x, hK, hQ⟩ := core _ _ _ ht'
        obtain ⟨_, hcl, hat⟩ := World.cells?_some hc
        rw [hsz] at hcl hat
        refine ⟨l ++ [x], by simp [hlen], fun z hz => ?_, fun j p hj => ?_⟩
        · rcases List.mem_append.1 hz with hz | hz
          · exact hq z hz
          · rw [List.mem_singleton.1 hz]; exact hQ
        · rcases Nat.lt_or_ge j l.length with hjl | hjl
          · rw [List.getElem?_append_left hjl] at hj
            exact hg j p hj
          · rw [List.getElem?_append_right hjl] at hj
            have hj0 : j - l.length = 0 := by
              rcases Nat.eq_zero_or_pos (j - l.length) with h0 | h0
              · exact h0
              · rw [List.getElem?_eq_none (by simp only [List.length_singleton]; omega)] at hj; cases hj
            rw [hj0] at hj
            cases hj
            refine ⟨cs', hcl, hK, fun i u hu => ?_⟩
            have hil : i < d.sz := by rw [← hcl]; exact (List.getElem?_eq_some_iff.1 hu).1
            have h1 := hat i hil
            rw [← Go.Deep.add_add, show j = k by omega, h1, hu]
    obtain ⟨l, hlen, hq, hg⟩ := hall len (Nat.le_refl _)
    subst hlen
    exact ⟨some a, l, cap, rfl, ⟨rfl, by unfold maxLen at hm; omega, fun _ => ⟨a, rfl, hg⟩⟩, hl, hq⟩
theorem opened {r : Reach} {v : Value} {d : DataW H} {p : List MemPlace} (hv : Value.okWide Tryd.prog W r b0 25 v)
    (h : DataW.Trod enc Tryd.prog W base sp held 25 v d p) : ∃ (a0 a1 a2 : Int) (A : Option Addr) (l : List S53) (c : Nat), v = .agg #[.int .u64 a0, .int .i64 a1, .int .i64 a2, .slice A l.length c] ∧ (0 ≤ a0 ∧ a0 < 18446744073709551616) ∧ a1 ≤ 9223372036854775807 ∧ a2 ≤ 9223372036854775807 ∧ Kd.C k53 W A l.length l ∧ l.length ≤ c := by
  obtain ⟨cs, rfl, hsz⟩ := okWide_struct Tryd.underlying25 hv
  obtain ⟨l⟩ := cs
  match l, hsz.trans cells_head with
  | [c0, c1, c2, c3], _ =>
    obtain ⟨fuel, hf⟩ := h
    obtain ⟨xs, n, _, hx, _, hlen, hg⟩ := DataW.trod_struct Tryd.underlying25 hf
    match xs, hlen with
    | [y0, y1, y2, y3], _ =>
      have g0 := hg 0 _ rfl
      change DataW.trod enc Tryd.prog W base sp held n 22 (([c0, c1, c2, c3].drop 0).take (Tryd.prog.cellsOf 22)) = some y0 at g0
      rw [cells_u64] at g0
      have g1 := hg 1 _ rfl
      change DataW.trod enc Tryd.prog W base sp held n 3 (([c0, c1, c2, c3].drop 1).take (Tryd.prog.cellsOf 3)) = some y1 at g1
      rw [cells_int] at g1
      have g2 := hg 2 _ rfl
      change DataW.trod enc Tryd.prog W base sp held n 3 (([c0, c1, c2, c3].drop 2).take (Tryd.prog.cellsOf 3)) = some y2 at g2
      rw [cells_int] at g2
      have g3 := hg 3 _ rfl
      change DataW.trod enc Tryd.prog W base sp held n 23 (([c0, c1, c2, c3].drop 3).take (Tryd.prog.cellsOf 23)) = some y3 at g3
      rw [cells_row] at g3
      obtain ⟨m0, e0, _, w0⟩ := DataW.trod_int Tryd.underlying22 g0
      obtain ⟨m1, e1, _, w1⟩ := DataW.trod_int Tryd.underlying3 g1
      obtain ⟨m2, e2, _, w2⟩ := DataW.trod_int Tryd.underlying3 g2
      obtain ⟨A, l, c, e3, h1, h2, _⟩ := open_row k53 (fun _ => True) Tryd.underlying23 cells_span (fun _ _ _ => core) g3
      cases e0; cases e1; cases e2; cases e3
      have hb0 := bounds_u64 w0
      have hb1 := bounds_i64 w1
      have hb2 := bounds_i64 w2
      exact ⟨m0, m1, m2, A, l, c, rfl, ⟨hb0.1, by omega⟩, by omega, by omega, h1, h2⟩
end
end Go.Proofs.YtcgejogmiglalaaDoor.RowHead
end
