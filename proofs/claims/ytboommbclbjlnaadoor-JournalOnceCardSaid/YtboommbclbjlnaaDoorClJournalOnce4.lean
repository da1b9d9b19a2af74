-- Packed by pack.py, a program of this session, out of texts of this claim.
import Derived.Test.YtboommbclbjlnaaDoorPlBytes
import Derived.Test.YtboommbclbjlnaaDoorPlCrc
import Derived.Test.YtboommbclbjlnaaDoorClJournalOnce1
import Derived.Test.YtboommbclbjlnaaDoorPlRunes
import Derived.Test.YtboommbclbjlnaaDoorClJournalOnce2
import Derived.Test.YtboommbclbjlnaaDoorClJournalOnce3
import Derived.Test.YtboommbclbjlnaaDoorRows
import Derived.Test.YtboommbclbjlnaaDoorLfValid
import Derived.Lib.LaidU8T
import Derived.Lib.LaidTab
import Derived.PinnedBridge
import Derived.WalkKit
import Derived.ProofKit
import Derived.OpenShut
import Derived.ChangeOld
import Derived.Below
import Derived.SizedLaws
import Derived.Carry
import Derived.Deep.DeepHandedRow
import Derived.Deep.DeepWitnessRowRef
import Derived.Deep.Fields
import Derived.Lib.SmallJoins
import Derived.Deep.Slices
section
namespace Go.Proofs.YtboommbclbjlnaaDoor.Pu
open Go Go.RowKit Go.Proofs.YtboommbclbjlnaaDoor.Pl Go.Proofs.YtboommbclbjlnaaDoor.Lf Go.Proofs.YtboommbclbjlnaaDoor.Fn Go.Proofs.YtboommbclbjlnaaDoorW.PrintWords
theorem u64_nat (n : Nat) (h : n < 18446744073709551616) : IntKind.u64.wrap (n : Int) = (n : Int) := by
 simp [IntKind.wrap, IntKind.bits, IntKind.signed]; omega
theorem w64 (x : Int) (h0 : -9223372036854775808 ≤ x) (h1 : x < 9223372036854775808) : wrap64 x = x := by unfold wrap64; omega
theorem str_put (n m : Nat) : strOfNums (Go.Proofs.YtboommbclbjlnaaDoor.Lf.bytesOf (n : Int) m) = ba (putN n m) := by
 unfold strOfNums Go.Proofs.YtboommbclbjlnaaDoor.Lf.bytesOf putN ba
 rw [List.map_map]
 congr 2
theorem put_eq (n : Nat) (h : n < 18446744073709551616) (m : Int) : le_Put.f (n : Int) m = some (ba (putN n (many8 m))) := by
 unfold le_Put.f
 rw [if_pos ⟨by omega, by omega⟩, str_put]
theorem bx (a b : BitVec 32) : bits .xor .u32 ((a.toNat : Nat) : Int) ((b.toNat : Nat) : Int) = (((a ^^^ b).toNat : Nat) : Int) := by
 rw [u32_xor_nat _ _ a.isLt b.isLt, BitVec.toNat_xor]
theorem nib_eq (r : BitVec 32) : nib ((r.toNat : Nat) : Int) = (((ticks 4 r).toNat : Nat) : Int) := by
 unfold nib
 have e1 : ((r.toNat : Nat) : Int) / (16 : Int) = (((r >>> 4).toNat : Nat) : Int) := by
  rw [BitVec.toNat_ushiftRight, Nat.shiftRight_eq_div_pow]; omega
 have e2 : bits .and .u32 ((r.toNat : Nat) : Int) 15 = (((r &&& 15#32).toNat : Nat) : Int) := by
  have := u32_and_nat r.toNat 15 r.isLt (by omega)
  rw [show ((15 : Nat) : Int) = 15 from rfl] at this
  rw [this, BitVec.toNat_and]; rfl
 have e3 : ((tabL.getD ((r &&& 15#32).toNat : Int).toNat 0 : Nat) : Int) = (((ticks 4 (r &&& 15#32)).toNat : Nat) : Int) := by
  have hlt : (r &&& 15#32).toNat < 16 := by
   rw [BitVec.toNat_and]; exact Nat.and_lt_two_pow (n := 4) _ (by decide)
  have key : ∀ i : Fin 16, tabL.getD i.val 0 = (ticks 4 (BitVec.ofNat 32 i.val)).toNat := by decide +kernel
  have := key ⟨(r &&& 15#32).toNat, hlt⟩
  simp only [BitVec.ofNat_toNat, BitVec.setWidth_eq] at this
  rw [Int.toNat_natCast, this]
 rw [e1, e2, e3, bx, ← ticks4_split]
theorem byteStep_eq (r : BitVec 32) (c : UInt8) : byteStep ((r.toNat : Nat) : Int) c = (((crcB r c).toNat : Nat) : Int) := by
 unfold byteStep crcB
 have hc := c.toNat_lt
 have e : (c.toNat : Int) % 4294967296 = (((BitVec.ofNat 32 c.toNat).toNat : Nat) : Int) := by
  rw [BitVec.toNat_ofNat, Nat.mod_eq_of_lt (by omega)]; omega
 rw [e, bx, nib_eq, nib_eq, ← ticks8]
theorem sumI_eq (l : List UInt8) : sumI l = (((crcR (BitVec.allOnes 32) l).toNat : Nat) : Int) := by
 have key : ∀ (l : List UInt8) (r : BitVec 32), l.foldl byteStep ((r.toNat : Nat) : Int) = (((crcR r l).toNat : Nat) : Int) := by
  intro l
  induction l with
  | nil => intro r; rfl
  | cons c l ih => intro r; rw [List.foldl_cons, byteStep_eq, ih]; rfl
 exact key l (BitVec.allOnes 32)
theorem not_eq (r : BitVec 32) : bits .xor .u32 4294967295 ((r.toNat : Nat) : Int) = (((~~~r).toNat : Nat) : Int) := by
 have := bx (BitVec.allOnes 32) r
 rw [BitVec.allOnes_xor] at this
 exact this
theorem not_eq' (r : BitVec 32) : bits .xor .u32 ((r.toNat : Nat) : Int) 4294967295 = (((~~~r).toNat : Nat) : Int) := by
 have := bx r (BitVec.allOnes 32)
 rw [BitVec.xor_allOnes] at this
 exact this
theorem sum_eq (l : List UInt8) (h : l.length ≤ 9223372036854775807) : seal_Sum.f (ba l) = some (((crc l).toNat : Nat) : Int) := by
 unfold seal_Sum.f
 rw [ba_size, if_pos h, ba_list, sumI_eq, not_eq]
 rfl
def sealed (l : List UInt8) : List UInt8 := l ++ putN (crc l).toNat 4
theorem sealed_length (l : List UInt8) : (sealed l).length = l.length + 4 := by simp [sealed, putN_length]
theorem seal_put_eq (l : List UInt8) (h : l.length ≤ 1000000000) : seal_Put.f (ba l) = some (ba (sealed l)) := by
 unfold seal_Put.f
 have hc := (crc l).isLt
 rw [sum_eq l (by omega), Option.bind_some, u64_nat _ (by omega), put_eq _ (by omega), Option.bind_some]
 have : many8 4 = 4 := by decide
 rw [this, ba_size, ba_size, putN_length, if_pos (by omega), ba_append]
 rfl
theorem bt_ba (l : List UInt8) (i : Nat) (h : i < l.length) : bt (ba l) (i : Int) = ((l[i]'h).toNat : Int) := by
 unfold bt
 have h2 : (i : Int).toNat < (ba l).size := by rw [ba_size]; simpa using h
 rw [dif_pos h2]
 have : (ba l)[(i : Int).toNat]'h2 = l[i]'h := by
  show (ba l).data[(i : Int).toNat]'h2 = _
  simp [ba]
 rw [this]
end Go.Proofs.YtboommbclbjlnaaDoor.Pu
end
section
namespace Go.Proofs.YtboommbclbjlnaaDoor.Pu
open Go Go.Lib Go.RowKit Go.Proofs.YtboommbclbjlnaaDoor.Pl Go.Proofs.YtboommbclbjlnaaDoor.Lf Go.Proofs.YtboommbclbjlnaaDoor.Fn Go.Proofs.YtboommbclbjlnaaDoorW.PrintWords
theorem bt_all (l : List UInt8) (i : Nat) : bt (ba l) (i : Int) = ((l.getD i 0).toNat : Int) := by
 by_cases h : i < l.length
 ·rw [bt_ba l i h, List.getD_eq_getElem?_getD, List.getElem?_eq_getElem h]; rfl
 ·unfold bt
  rw [dif_neg (by rw [ba_size]; simpa using h), List.getD_eq_getElem?_getD, List.getElem?_eq_none (by omega)]
  rfl
def refN (n b0 b1 b2 b3 : Nat) : Int × Int :=
 if b0 < 128 then ((b0 : Int), 1)
 else if (194 ≤ b0 ∧ b0 ≤ 223) ∧ (1 < n ∧ 128 ≤ b1 ∧ b1 ≤ 191) then (((b0 : Int) - 192) * 64 + b1 - 128, 2)
 else if (224 ≤ b0 ∧ b0 ≤ 239) ∧ (1 < n ∧ 128 ≤ b1 ∧ b1 ≤ 191) ∧ (2 < n ∧ 128 ≤ b2 ∧ b2 ≤ 191) ∧ (2048 ≤ ((b0 : Int) - 224) * 4096 + ((b1 : Int) - 128) * 64 + b2 - 128 ∧ ¬ (55296 ≤ ((b0 : Int) - 224) * 4096 + ((b1 : Int) - 128) * 64 + b2 - 128 ∧ ((b0 : Int) - 224) * 4096 + ((b1 : Int) - 128) * 64 + b2 - 128 ≤ 57343)) then (((b0 : Int) - 224) * 4096 + ((b1 : Int) - 128) * 64 + b2 - 128, 3)
 else if (240 ≤ b0 ∧ b0 ≤ 244) ∧ (1 < n ∧ 128 ≤ b1 ∧ b1 ≤ 191) ∧ (2 < n ∧ 128 ≤ b2 ∧ b2 ≤ 191) ∧ (3 < n ∧ 128 ≤ b3 ∧ b3 ≤ 191) ∧ (65536 ≤ ((b0 : Int) - 240) * 262144 + ((b1 : Int) - 128) * 4096 + ((b2 : Int) - 128) * 64 + b3 - 128 ∧ ((b0 : Int) - 240) * 262144 + ((b1 : Int) - 128) * 4096 + ((b2 : Int) - 128) * 64 + b3 - 128 ≤ 1114111) then (((b0 : Int) - 240) * 262144 + ((b1 : Int) - 128) * 4096 + ((b2 : Int) - 128) * 64 + b3 - 128, 4)
 else (-1, 1)
theorem wb (b : Nat) (h : b < 256) : wrap64 (b : Int) = b := by unfold wrap64; omega
theorem wa2 (b0 b1 : Nat) (h0 : b0 < 256) (h1 : b1 < 256) : wrap64 (wrap64 (wrap64 (wrap64 ((b0 : Int) - 192) * 64) + b1) - 128) = ((b0 : Int) - 192) * 64 + b1 - 128 := by unfold wrap64; omega
theorem wa3 (b0 b1 b2 : Nat) (h0 : b0 < 256) (h1 : b1 < 256) (h2 : b2 < 256) : wrap64 (wrap64 (wrap64 (wrap64 (wrap64 ((b0 : Int) - 224) * 4096) + wrap64 (wrap64 ((b1 : Int) - 128) * 64)) + b2) - 128) = ((b0 : Int) - 224) * 4096 + ((b1 : Int) - 128) * 64 + b2 - 128 := by unfold wrap64; omega
theorem wa4 (b0 b1 b2 b3 : Nat) (h0 : b0 < 256) (h1 : b1 < 256) (h2 : b2 < 256) (h3 : b3 < 256) : wrap64 (wrap64 (wrap64 (wrap64 (wrap64 (wrap64 ((b0 : Int) - 240) * 262144) + wrap64 (wrap64 ((b1 : Int) - 128) * 4096)) + wrap64 (wrap64 ((b2 : Int) - 128) * 64)) + b3) - 128) = ((b0 : Int) - 240) * 262144 + ((b1 : Int) - 128) * 4096 + ((b2 : Int) - 128) * 64 + b3 - 128 := by unfold wrap64; omega
def c3 (b0 b1 b2 : Nat) : Int := ((b0 : Int) - 224) * 4096 + ((b1 : Int) - 128) * 64 + b2 - 128
def c4 (b0 b1 b2 b3 : Nat) : Int := ((b0 : Int) - 240) * 262144 + ((b1 : Int) - 128) * 4096 + ((b2 : Int) - 128) * 64 + b3 - 128
section
variable (s : ByteArray) (n b0 b1 b2 b3 : Nat) (h0 : b0 < 256) (h1 : b1 < 256) (h2 : b2 < 256) (h3 : b3 < 256) (S : (s.size : Int) = n)
  (B0 : bt s 0 = b0) (B1 : bt s 1 = b1) (B2 : bt s 2 = b2) (B3 : bt s 3 = b3)
include h0 h1 h2 h3 S B1 B2 B3
theorem rj3 (k : Nat) (q : Bool) (hq : q = true → 3 < n) : r1_Rune.j3 (k + 1) s b0 q = some (if q = true ∧ (65536 ≤ c4 b0 b1 b2 b3 ∧ c4 b0 b1 b2 b3 ≤ 1114111) then (c4 b0 b1 b2 b3, 4) else (-1, 1)) := by
 cases q
 ·rfl
 ·have hn := hq rfl
  have g1 : (1 : Int) < n := by omega
  have g2 : (2 : Int) < n := by omega
  have g3 : (3 : Int) < n := by omega
  simp only [r1_Rune.j3, S, if_pos g1, if_pos g2, if_pos g3, if_true, B1, B2, B3, wb b1 h1, wb b2 h2, wb b3 h3, wa4 b0 b1 b2 b3 h0 h1 h2 h3]
  show (if c4 b0 b1 b2 b3 ≥ 65536 then _ else _) = _
  by_cases x : c4 b0 b1 b2 b3 ≥ 65536
  ·rw [if_pos x]
   by_cases y : c4 b0 b1 b2 b3 ≤ 1114111
   ·rw [if_pos (show ((b0 : Int) - 240) * 262144 + ((b1 : Int) - 128) * 4096 + ((b2 : Int) - 128) * 64 + b3 - 128 ≤ 1114111 from y), if_pos ⟨trivial, x, y⟩]; rfl
   ·rw [if_neg (show ¬ ((b0 : Int) - 240) * 262144 + ((b1 : Int) - 128) * 4096 + ((b2 : Int) - 128) * 64 + b3 - 128 ≤ 1114111 from y), if_neg (fun h => y h.2.2)]
  ·rw [if_neg x, if_neg (fun h => x h.2.1)]
variable (m1 m2 m3 : Bool) (M1 : r1_more.f s 1 = some m1) (M2 : r1_more.f s 2 = some m2) (M3 : r1_more.f s 3 = some m3) (q1 : m1 = true → 1 < n) (q2 : m2 = true → 2 < n) (q3 : m3 = true → 3 < n)
include M1 M2 M3 q3
theorem rj2 (k : Nat) : r1_Rune.j2 (k + 2) s b0 = some (if (240 ≤ b0 ∧ b0 ≤ 244) ∧ m1 = true ∧ m2 = true ∧ m3 = true ∧ (65536 ≤ c4 b0 b1 b2 b3 ∧ c4 b0 b1 b2 b3 ≤ 1114111) then (c4 b0 b1 b2 b3, 4) else (-1, 1)) := by
 have J := fun q hq => rj3 s n b0 b1 b2 b3 h0 h1 h2 h3 S B1 B2 B3 k q hq
 have Jf := J false (fun h => by cases h)
 have J3 := J m3 q3
 rw [if_neg (by simp)] at Jf
 simp only [r1_Rune.j2, M1, M2, M3, Option.bind_some]
 by_cases x : 240 ≤ b0
 ·rw [if_pos (show (b0 : Int) ≥ 240 by omega)]
  by_cases y : b0 ≤ 244
  ·rw [if_pos (show (b0 : Int) ≤ 244 by omega)]
   cases m1
   ·rw [if_neg (by decide), Jf, if_neg (by simp)]
   ·cases m2
    ·rw [if_pos rfl, if_neg (by decide), Jf, if_neg (by simp)]
    ·rw [if_pos rfl, if_pos rfl, J3]
     congr 1
     by_cases z : m3 = true ∧ (65536 ≤ c4 b0 b1 b2 b3 ∧ c4 b0 b1 b2 b3 ≤ 1114111)
     ·rw [if_pos z, if_pos ⟨⟨x, y⟩, rfl, rfl, z⟩]
     ·rw [if_neg z, if_neg (fun h => z h.2.2.2)]
  ·rw [if_neg (show ¬ (b0 : Int) ≤ 244 by omega), Jf, if_neg (fun h => y h.1.2)]
 ·rw [if_neg (show ¬ (b0 : Int) ≥ 240 by omega), Jf, if_neg (fun h => x h.1.1)]
include q2
theorem rj1 (k : Nat) (q : Bool) (hq : q = true → m2 = true) : r1_Rune.j1 (k + 3) s b0 q = some (if q = true ∧ (2048 ≤ c3 b0 b1 b2 ∧ ¬ (55296 ≤ c3 b0 b1 b2 ∧ c3 b0 b1 b2 ≤ 57343)) then (c3 b0 b1 b2, 3) else if (240 ≤ b0 ∧ b0 ≤ 244) ∧ m1 = true ∧ m2 = true ∧ m3 = true ∧ (65536 ≤ c4 b0 b1 b2 b3 ∧ c4 b0 b1 b2 b3 ≤ 1114111) then (c4 b0 b1 b2 b3, 4) else (-1, 1)) := by
 have J2 := rj2 s n b0 b1 b2 b3 h0 h1 h2 h3 S B1 B2 B3 m1 m2 m3 M1 M2 M3 q3 k
 cases q
 ·rw [if_neg (by simp), ← J2]
  simp only [r1_Rune.j1]
  rw [if_neg (by decide)]
 ·have hn := q2 (hq rfl)
  have g1 : (1 : Int) < n := by omega
  have g2 : (2 : Int) < n := by omega
  simp only [r1_Rune.j1, S, if_pos g1, if_pos g2, if_true, B1, B2, wb b1 h1, wb b2 h2, wa3 b0 b1 b2 h0 h1 h2]
  show (if c3 b0 b1 b2 ≥ 2048 then (if c3 b0 b1 b2 ≥ 55296 then (if c3 b0 b1 b2 ≤ 57343 then _ else some (c3 b0 b1 b2, 3)) else some (c3 b0 b1 b2, 3)) else _) = _
  by_cases x : c3 b0 b1 b2 ≥ 2048
  ·rw [if_pos x]
   by_cases y : c3 b0 b1 b2 ≥ 55296
   ·rw [if_pos y]
    by_cases z : c3 b0 b1 b2 ≤ 57343
    ·rw [if_pos z, if_neg (fun h => h.2.2 ⟨y, z⟩)]; exact J2
    ·rw [if_neg z, if_pos ⟨trivial, x, fun h => z h.2⟩]
   ·rw [if_neg y, if_pos ⟨trivial, x, fun h => y h.1⟩]
  ·rw [if_neg x, if_neg (fun h => x h.2.1)]; exact J2
include q1
theorem rj0 (k : Nat) (q : Bool) (hq : q = true → m1 = true) : r1_Rune.j0 (k + 4) s b0 q = some (if q = true then (((b0 : Int) - 192) * 64 + b1 - 128, 2) else if ((224 ≤ b0 ∧ b0 ≤ 239) ∧ m1 = true ∧ m2 = true) ∧ (2048 ≤ c3 b0 b1 b2 ∧ ¬ (55296 ≤ c3 b0 b1 b2 ∧ c3 b0 b1 b2 ≤ 57343)) then (c3 b0 b1 b2, 3) else if (240 ≤ b0 ∧ b0 ≤ 244) ∧ m1 = true ∧ m2 = true ∧ m3 = true ∧ (65536 ≤ c4 b0 b1 b2 b3 ∧ c4 b0 b1 b2 b3 ≤ 1114111) then (c4 b0 b1 b2 b3, 4) else (-1, 1)) := by
 have J := fun q hq => rj1 s n b0 b1 b2 b3 h0 h1 h2 h3 S B1 B2 B3 m1 m2 m3 M1 M2 M3 q2 q3 k q hq
 revert J
 generalize (if (240 ≤ b0 ∧ b0 ≤ 244) ∧ m1 = true ∧ m2 = true ∧ m3 = true ∧ (65536 ≤ c4 b0 b1 b2 b3 ∧ c4 b0 b1 b2 b3 ≤ 1114111) then (c4 b0 b1 b2 b3, 4) else ((-1 : Int), (1 : Int))) = E
 intro J
 have Jf := J false (fun h => by cases h)
 rw [if_neg (by simp)] at Jf
 have J2 := J m2 (fun h => h)
 cases q
 ·rw [if_neg (by decide)]
  simp only [r1_Rune.j0, M1, M2, Option.bind_some]
  rw [if_neg (by decide)]
  by_cases x : 224 ≤ b0
  ·rw [if_pos (show (b0 : Int) ≥ 224 by omega)]
   by_cases y : b0 ≤ 239
   ·rw [if_pos (show (b0 : Int) ≤ 239 by omega)]
    cases m1
    ·rw [if_neg (by decide), Jf, if_neg (by simp)]
    ·rw [if_pos rfl, J2]
     congr 1
     by_cases z : m2 = true ∧ (2048 ≤ c3 b0 b1 b2 ∧ ¬ (55296 ≤ c3 b0 b1 b2 ∧ c3 b0 b1 b2 ≤ 57343))
     ·rw [if_pos z, if_pos ⟨⟨⟨x, y⟩, rfl, z.1⟩, z.2⟩]
     ·rw [if_neg z, if_neg (fun h => z ⟨h.1.2.2, h.2⟩)]
   ·rw [if_neg (show ¬ (b0 : Int) ≤ 239 by omega), Jf, if_neg (fun h => y h.1.1.2)]
  ·rw [if_neg (show ¬ (b0 : Int) ≥ 224 by omega), Jf, if_neg (fun h => x h.1.1.1)]
 ·have hn := q1 (hq rfl)
  have g1 : (1 : Int) < n := by omega
  simp only [r1_Rune.j0, S, if_pos g1, if_true, B1, wb b1 h1, wa2 b0 b1 h0 h1]
include B0
theorem rune_N (hn : 1 ≤ n) (k : Nat) : r1_Rune.f (k + 4) s = some (if b0 < 128 then ((b0 : Int), 1) else if (194 ≤ b0 ∧ b0 ≤ 223) ∧ m1 = true then (((b0 : Int) - 192) * 64 + b1 - 128, 2) else if ((224 ≤ b0 ∧ b0 ≤ 239) ∧ m1 = true ∧ m2 = true) ∧ (2048 ≤ c3 b0 b1 b2 ∧ ¬ (55296 ≤ c3 b0 b1 b2 ∧ c3 b0 b1 b2 ≤ 57343)) then (c3 b0 b1 b2, 3) else if (240 ≤ b0 ∧ b0 ≤ 244) ∧ m1 = true ∧ m2 = true ∧ m3 = true ∧ (65536 ≤ c4 b0 b1 b2 b3 ∧ c4 b0 b1 b2 b3 ≤ 1114111) then (c4 b0 b1 b2 b3, 4) else (-1, 1)) := by
 have J := fun q hq => rj0 s n b0 b1 b2 b3 h0 h1 h2 h3 S B1 B2 B3 m1 m2 m3 M1 M2 M3 q1 q2 q3 k q hq
 revert J
 generalize (if ((224 ≤ b0 ∧ b0 ≤ 239) ∧ m1 = true ∧ m2 = true) ∧ (2048 ≤ c3 b0 b1 b2 ∧ ¬ (55296 ≤ c3 b0 b1 b2 ∧ c3 b0 b1 b2 ≤ 57343)) then (c3 b0 b1 b2, (3 : Int)) else (if (240 ≤ b0 ∧ b0 ≤ 244) ∧ m1 = true ∧ m2 = true ∧ m3 = true ∧ (65536 ≤ c4 b0 b1 b2 b3 ∧ c4 b0 b1 b2 b3 ≤ 1114111) then (c4 b0 b1 b2 b3, 4) else ((-1 : Int), (1 : Int)))) = E
 intro J
 have Jf := J false (fun h => by cases h)
 rw [if_neg (by simp)] at Jf
 have J1 := J m1 (fun h => h)
 have g0 : (0 : Int) < n := by omega
 simp only [r1_Rune.f, S, if_pos g0, B0, wb b0 h0, M1, Option.bind_some]
 by_cases w : b0 < 128
 ·rw [if_pos (show (b0 : Int) < 128 by omega), if_pos w]
 ·rw [if_neg (show ¬ (b0 : Int) < 128 by omega), if_neg w]
  by_cases x : 194 ≤ b0
  ·rw [if_pos (show (b0 : Int) ≥ 194 by omega)]
   by_cases y : b0 ≤ 223
   ·rw [if_pos (show (b0 : Int) ≤ 223 by omega), J1]
    congr 1
    by_cases z : m1 = true
    ·rw [if_pos z, if_pos ⟨⟨x, y⟩, z⟩]
    ·rw [if_neg z, if_neg (fun h => z h.2)]
   ·rw [if_neg (show ¬ (b0 : Int) ≤ 223 by omega), Jf, if_neg (fun h => y h.1.2)]
  ·rw [if_neg (show ¬ (b0 : Int) ≥ 194 by omega), Jf, if_neg (fun h => x h.1.1)]
end
def rr (l : List UInt8) : Int × Int := if (decodeL l).1 = 65533 ∧ (decodeL l).2 = 1 then (-1, 1) else (((decodeL l).1 : Int), ((decodeL l).2 : Int))
theorem rr_width (l : List UInt8) (_hl : l ≠ []) : (rr l).2 = (((decodeL l).2 : Nat) : Int) := by
 unfold rr
 by_cases h : (decodeL l).1 = 65533 ∧ (decodeL l).2 = 1
 ·rw [if_pos h, h.2]; rfl
 ·rw [if_neg h]
theorem rr_bad (l : List UInt8) : ((rr l).1 < 0) = ((decodeL l).1 = 65533 ∧ (decodeL l).2 = 1) := by
 unfold rr
 by_cases h : (decodeL l).1 = 65533 ∧ (decodeL l).2 = 1
 ·rw [if_pos h]; simp [h]
 ·rw [if_neg h]; simp [h]
def fineB (b : UInt8) : Bool := decide (32 ≤ b.toNat) && !(b.toNat == 127)
theorem shape (l : List UInt8) (hl : l ≠ []) (hv : ¬ ((decodeL l).1 = 65533 ∧ (decodeL l).2 = 1)) :
  (∃ (b : UInt8) (r : List UInt8), l = b :: r ∧ b.toNat < 128 ∧ decodeL l = (b.toNat, 1)) ∨ ((∀ b ∈ l.take (decodeL l).2, 128 ≤ b.toNat) ∧ 128 ≤ (decodeL l).1) := by
 have h0 := (l.getD 0 0).toNat_lt
 have h1 := (l.getD 1 0).toNat_lt
 have h2 := (l.getD 2 0).toNat_lt
 have h3 := (l.getD 3 0).toNat_lt
 have hlen : 0 < l.length := List.length_pos_iff.2 hl
 rw [decodeL_N] at hv ⊢
 have at_ : ∀ i, i < l.length → l[i]? = some (l.getD i 0) := fun i hi => by
  rw [List.getD_eq_getElem?_getD, List.getElem?_eq_getElem hi]; rfl
 have tk : ∀ w, w ≤ 4 → (∀ i, i < w → 128 ≤ (l.getD i 0).toNat) → ∀ b ∈ l.take w, 128 ≤ b.toNat := by
  intro w _ hw b hb
  obtain ⟨i, hi, e⟩ := List.mem_take_iff_getElem.1 hb
  have hi1 : i < w := by omega
  have := hw i hi1
  rw [List.getD_eq_getElem?_getD, List.getElem?_eq_getElem (by omega)] at this
  rw [← e]
  exact this
 rcases decodeN_shape l.length (l.getD 0 0).toNat (l.getD 1 0).toNat (l.getD 2 0).toNat (l.getD 3 0).toNat with ⟨c, e⟩ | ⟨c1, c2, c3, cv, e⟩ | ⟨c1, c2, c3, c4, cv, cs, e⟩ | ⟨c1, c2, c3, c4, c5, cv, cw, e⟩ | e
 ·left
  cases l with
  | nil => exact absurd rfl hl
  | cons b r => exact ⟨b, r, rfl, c, e⟩
 ·right
  rw [e]
  refine ⟨tk 2 (by omega) (fun i hi => ?_), cv⟩
  have : i = 0 ∨ i = 1 := by omega
  rcases this with rfl | rfl <;> omega
 ·right
  rw [e]
  refine ⟨tk 3 (by omega) (fun i hi => ?_), by simp only; omega⟩
  have : i = 0 ∨ i = 1 ∨ i = 2 := by omega
  rcases this with rfl | rfl | rfl <;> omega
 ·right
  rw [e]
  refine ⟨tk 4 (by omega) (fun i hi => ?_), by simp only; omega⟩
  have : i = 0 ∨ i = 1 ∨ i = 2 ∨ i = 3 := by omega
  rcases this with rfl | rfl | rfl | rfl <;> omega
 ·exact absurd (by rw [e]; exact ⟨rfl, rfl⟩) hv
theorem bytes_fine (l : List UInt8) (hv : validD l = true) : (runes l).all fine = l.all fineB := by
 induction hn : l.length using Nat.strongRecOn generalizing l with
 | _ n ih =>
  by_cases e : l = []
  ·subst e; rfl
  ·have hs := drop_short l e
   rw [validD_step l e] at hv
   by_cases hb : (decodeL l).1 = 65533 ∧ (decodeL l).2 = 1
   ·rw [if_pos hb] at hv; exact absurd hv (by decide)
   ·rw [if_neg hb] at hv
    have h := ih _ (by omega) (l.drop (decodeL l).2) hv rfl
    rw [runes_cons l e, List.all_cons, h]
    conv => rhs; rw [← List.take_append_drop (decodeL l).2 l, List.all_append]
    congr 1
    rcases shape l e hb with ⟨b, r, rfl, hb1, hd⟩ | ⟨h1, h2⟩
    ·rw [hd]
     simp only [List.take_succ_cons, List.take_zero, List.all_cons, List.all_nil, Bool.and_true]
     rfl
    ·have : fine (decodeL l) = true := by unfold fine; rw [decide_eq_true (by omega)]; simp; omega
     rw [this]
     symm
     rw [List.all_eq_true]
     intro b hb
     have := h1 b hb
     unfold fineB; rw [decide_eq_true (by omega)]; simp; omega
theorem rightB_bytes (l : List UInt8) : rightB l = (validD l && (!l.isEmpty && (decide ((runes l).length ≤ 24) && (!(l.headD 0).toNat == 32 && (!(l.getLastD 0).toNat == 32 && l.all fineB))))) := by
 unfold rightB
 cases hv : validD l
 ·simp
 ·rw [bytes_fine l hv]
  cases l.all fineB <;> simp
theorem right_eq (l : List UInt8) (h : l.length ≤ 1000000000) : label_Right.f (ba l) = some (rightB l) := by
 unfold label_Right.f
 rw [ba_size, if_pos (by omega), ba_list]
def numB (n : Int) : Bool := decide (0 ≤ n) && decide (n ≤ 2147483647)
def rightS (kind a b : Int) (t : List UInt8) : Bool := (t.isEmpty || (kind == 1 && rightB t)) && (decide (1 ≤ kind) && (decide (kind ≤ 8) && (numB a && numB b)))
theorem number_eq (n : Int) : step_number.f n = some (numB n) := by
 unfold step_number.f numB
 by_cases h : 0 ≤ n
 ·rw [if_pos h, decide_eq_true h, Bool.true_and]
 ·rw [if_neg h, decide_eq_false h, Bool.false_and]
theorem right_j (kind a b n : Int) (t : ByteArray) (q : Bool) : Ev (fun k => step_Right.j0 k q kind a b n t) (!q && (decide (1 ≤ kind) && (decide (kind ≤ 8) && (numB a && numB b)))) := by
 refine Ev.step (f := fun _ => some (!q && (decide (1 ≤ kind) && (decide (kind ≤ 8) && (numB a && numB b))))) (fun k => ?_) (Ev.now _)
 simp only [step_Right.j0, number_eq, Option.bind_some]
 cases q
 ·rw [if_neg (by decide)]
  by_cases h1 : 1 ≤ kind
  ·rw [if_pos h1, decide_eq_true h1]
   by_cases h2 : kind ≤ 8
   ·rw [if_pos h2, decide_eq_true h2]
    cases numB a <;> simp
   ·rw [if_neg h2, decide_eq_false h2]; rfl
  ·rw [if_neg h1, decide_eq_false h1]; rfl
 ·rfl
theorem step_right (kind a b n : Int) (l : List UInt8) (hl : l.length ≤ 1000000000) : Ev (fun k => step_Right.f k kind a b n (ba l)) (rightS kind a b l) := by
 unfold rightS
 by_cases e : l = []
 ·subst e
  refine Ev.congr (fun k => ?_) (right_j kind a b n (ba []) false)
  unfold step_Right.f
  rw [ba_toList, if_pos rfl]
 ·have hie : l.isEmpty = false := by simpa using e
  rw [hie, Bool.false_or]
  by_cases h1 : kind = 1
  ·subst h1
   have hj := right_j 1 a b n (ba l) (!rightB l)
   rw [Bool.not_not] at hj
   refine Ev.congr (fun k => ?_) hj
   unfold step_Right.f
   rw [ba_toList, if_neg e, if_pos rfl, right_eq l hl, Option.bind_some]
  ·rw [show (kind == 1) = false by simpa using h1, Bool.false_and]
   refine Ev.congr (fun k => ?_) (right_j kind a b n (ba l) true)
   unfold step_Right.f
   rw [ba_toList, if_neg e, if_neg h1]
theorem tail_eq (kind a b : Int) : (if kind ≥ 1 then (if kind ≤ 8 then (if a ≥ 0 then (if a ≤ 2147483647 then (if b ≥ 0 then (some (decide (b ≤ 2147483647))) else (some false)) else (some false)) else (some false)) else (some false)) else (some false)) = some (decide (1 ≤ kind) && (decide (kind ≤ 8) && (numB a && numB b))) := by
 unfold numB
 by_cases h1 : 1 ≤ kind
 ·rw [if_pos h1, decide_eq_true h1]
  by_cases h2 : kind ≤ 8
  ·rw [if_pos h2, decide_eq_true h2]
   by_cases h3 : 0 ≤ a
   ·rw [if_pos h3, decide_eq_true h3]
    by_cases h4 : a ≤ 2147483647
    ·rw [if_pos h4, decide_eq_true h4]
     by_cases h5 : 0 ≤ b
     ·rw [if_pos h5, decide_eq_true h5]; simp
     ·rw [if_neg h5, decide_eq_false h5]; simp
    ·rw [if_neg h4, decide_eq_false h4]; simp
   ·rw [if_neg h3, decide_eq_false h3]; simp
  ·rw [if_neg h2, decide_eq_false h2]; simp
 ·rw [if_neg h1, decide_eq_false h1]; simp
def bodyS (kind a b n : Nat) (t : List UInt8) : List UInt8 := putN kind 1 ++ putN a 4 ++ putN b 4 ++ putN n 8 ++ t
def recordS (kind a b n : Nat) (t : List UInt8) : List UInt8 := putN (sealed (bodyS kind a b n t)).length 2 ++ sealed (bodyS kind a b n t)
theorem bodyS_length (kind a b n : Nat) (t : List UInt8) : (bodyS kind a b n t).length = 17 + t.length := by simp [bodyS, putN_length]; omega
theorem recordS_length (kind a b n : Nat) (t : List UInt8) : (recordS kind a b n t).length = 23 + t.length := by simp [recordS, putN_length, sealed_length, bodyS_length]; omega
theorem bodyS_is (kk a b n : Nat) (l : List UInt8) : putN kk 1 ++ putN a 4 ++ putN b 4 ++ putN n 8 ++ l = bodyS kk a b n l := by unfold bodyS; rfl
theorem seal_body (kk a b n : Nat) (l : List UInt8) (hl : l.length ≤ 100000000) : seal_Put.f (ba (bodyS kk a b n l)) = some (ba (sealed (bodyS kk a b n l))) := by
 have hb := bodyS_length kk a b n l
 exact seal_put_eq _ (by omega)
theorem size_body (kk a b n : Nat) (l : List UInt8) (hl : l.length ≤ 100000000) : (sealed (bodyS kk a b n l)).length < 18446744073709551616 := by
 have hb := bodyS_length kk a b n l
 have hs := sealed_length (bodyS kk a b n l)
 omega
def putS (kind a b n : Int) (t : List UInt8) : ByteArray × Int := if rightS kind a b t = true then (ba (recordS kind.toNat a.toNat b.toNat n.toNat t), 0) else (ba [], 1)
theorem rightS_bounds {kind a b : Int} {t : List UInt8} (h : rightS kind a b t = true) : (1 ≤ kind ∧ kind ≤ 8) ∧ (0 ≤ a ∧ a ≤ 2147483647) ∧ (0 ≤ b ∧ b ≤ 2147483647) := by
 unfold rightS numB at h
 simp only [Bool.and_eq_true, decide_eq_true_eq] at h
 omega
theorem m1 : many8 1 = 1 := by decide
theorem m2 : many8 2 = 2 := by decide
theorem m4 : many8 4 = 4 := by decide
theorem m8 : many8 8 = 8 := by decide
theorem ev_put (n : Nat) (m : Int) (h : n < 18446744073709551616) : Ev (fun _ => le_Put.f (n : Int) m) (ba (putN n (many8 m))) := Ev.congr (fun _ => put_eq n h m) (Ev.now _)
theorem step_put (kind a b n : Int) (l : List UInt8) (hl : l.length ≤ 100000000) (hn : 0 ≤ n ∧ n < 18446744073709551616) : Ev (fun k => step_Put.f k kind a b n (ba l)) (putS kind a b n l) := by
 have hr := step_right kind a b n l (by omega)
 unfold putS
 by_cases h : rightS kind a b l = true
 ·rw [if_pos h]
  rw [h] at hr
  refine Ev.bind hr ?_
  refine Ev.congr (fun k => if_pos rfl) ?_
  obtain ⟨⟨k1, k2⟩, ⟨a1, a2⟩, ⟨b1, b2⟩⟩ := rightS_bounds h
  obtain ⟨kk, rfl⟩ := Int.eq_ofNat_of_zero_le (show 0 ≤ kind by omega)
  obtain ⟨a, rfl⟩ := Int.eq_ofNat_of_zero_le a1
  obtain ⟨b, rfl⟩ := Int.eq_ofNat_of_zero_le b1
  obtain ⟨n, rfl⟩ := Int.eq_ofNat_of_zero_le hn.1
  simp only [Int.toNat_natCast]
  have hb := bodyS_length kk a b n l
  have hs := sealed_length (bodyS kk a b n l)
  refine Ev.congr (fun k => by rw [u64_nat kk (by omega), u64_nat a (by omega), u64_nat b (by omega)]) (Ev.bind (ev_put kk 1 (by omega)) ?_)
  refine Ev.bind (ev_put a 4 (by omega)) ?_
  refine Ev.congr (fun k => by rw [m1, m4]; simp only [ba_size, putN_length, ba_append]; rw [if_pos (by omega)]) (Ev.bind (ev_put b 4 (by omega)) ?_)
  refine Ev.congr (fun k => by rw [m4]; simp only [ba_size, putN_length, ba_append]; rw [if_pos (by omega)]) (Ev.bind (ev_put n 8 (by omega)) ?_)
  refine Ev.congr (fun k => by rw [m8]; simp only [ba_size, putN_length, ba_append]; rw [if_pos (by omega), if_pos (by omega), bodyS_is]) (Ev.bind (Ev.congr (fun _ => seal_body kk a b n l hl) (Ev.now _)) ?_)
  refine Ev.congr (fun k => by rw [ba_size, u64_nat _ (size_body kk a b n l hl)]) (Ev.bind (ev_put _ 2 (size_body kk a b n l hl)) ?_)
  refine Ev.congr (f := fun _ => some _) (fun k => ?_) (Ev.now _)
  rw [m2]
  simp only [ba_size, putN_length, ba_append]
  rw [if_pos (by omega)]
  unfold recordS
  trivial
 ·rw [if_neg h]
  rw [Bool.eq_false_iff.2 h] at hr
  refine Ev.bind hr ?_
  exact Ev.congr (fun k => by rw [if_neg (by decide)]; rfl) (Ev.now _)
def txtS (x : S24) : List UInt8 := x.f4.data.toList
def okT (x : S24) : Prop := (0 ≤ x.f3 ∧ x.f3 < 18446744073709551616) ∧ (txtS x).length ≤ 200
def goodS (x : S24) : Bool := rightS x.f0 x.f1 x.f2 (txtS x)
def recS (x : S24) : List UInt8 := recordS x.f0.toNat x.f1.toNat x.f2.toNat x.f3.toNat (txtS x)
theorem recS_len (x : S24) : (recS x).length = 23 + (txtS x).length := recordS_length _ _ _ _ _
def putO (x : S24) : ByteArray × Int := if goodS x = true then (ba (recS x), 0) else (ba [], 1)
theorem ev_put24 (x : S24) (h : okT x) : Ev (fun k => step_Put.f k x.f0 x.f1 x.f2 x.f3 x.f4) (putO x) := by
 have := step_put x.f0 x.f1 x.f2 x.f3 (txtS x) (by have := h.2; omega) h.1
 unfold txtS at this
 rw [ba_data] at this
 exact this
def recsL (l : List S24) : List UInt8 := l.flatMap recS
theorem recsL_len : ∀ (l : List S24), (∀ x ∈ l, okT x) → (recsL l).length ≤ 223 * l.length
 | [], _ => by simp [recsL]
 | x :: l, h => by
  have ih := recsL_len l (fun y hy => h y (List.mem_cons_of_mem _ hy))
  have hx := (h x List.mem_cons_self).2
  have := recS_len x
  unfold recsL at ih ⊢
  rw [List.flatMap_cons, List.length_append, List.length_cons]
  omega
def a26 (x : S24) : S26 := ⟨x.f0, x.f1, x.f2, x.f3, x.f4⟩
def a46 (g : S44) : S46 := ⟨g.f0, g.f1.map a26⟩
theorem rj24 (l : List S24) (i : Nat) (h : i < l.length) : rd_T24 l (i : Int) = l[i]'h := by
 unfold rd_T24
 rw [Int.toNat_natCast, List.getD_eq_getElem?_getD, List.getElem?_eq_getElem h]; rfl
theorem rj26 (l : List S24) (i : Nat) (h : i < l.length) : rd_T26 (l.map a26) (i : Int) = a26 (l[i]'h) := by
 unfold rd_T26
 rw [Int.toNat_natCast, List.getD_eq_getElem?_getD, List.getElem?_eq_getElem (by rw [List.length_map]; exact h), List.getElem_map]; rfl
theorem rj44 (l : List S44) (i : Nat) (h : i < l.length) : rd_T44 l (i : Int) = l[i]'h := by
 unfold rd_T44
 rw [Int.toNat_natCast, List.getD_eq_getElem?_getD, List.getElem?_eq_getElem h]; rfl
theorem wj (i : Nat) (h : i ≤ 1000000000) : wrap64 ((i : Int) + 1) = ((i + 1 : Nat) : Int) := by rw [w64 _ (by omega) (by omega)]; rfl
def cm (seq : Nat) : S24 := ⟨8, 0, 0, (seq : Int), ⟨#[]⟩⟩
theorem cm_ok (seq : Nat) (h : seq < 18446744073709551616) : okT (cm seq) := ⟨⟨by show (0 : Int) ≤ (seq : Int); omega, by show (seq : Int) < _; omega⟩, by show (0 : Nat) ≤ 200; omega⟩
theorem cm_good (seq : Nat) : goodS (cm seq) = true := rfl
theorem puts_g : ∀ (l : List S24) (acc : List UInt8), (∀ x ∈ l, okT x) → l.length ≤ 100000 → acc.length + 223 * l.length ≤ 100000000 →
  Ev (fun k => journal_put.g k l (ba acc)) (if l.all goodS = true then (ba (acc ++ recsL l), 0) else (ba [], 1))
 | [], acc, _, _, _ => by
  refine Ev.congr (f := fun _ => some _) (fun k => ?_) (Ev.now _)
  rw [journal_put.g]
  simp [recsL]
 | x :: l, acc, h, hl, hb => by
  have hx := h x List.mem_cons_self
  have hr := recS_len x
  have hx2 := hx.2
  simp only [List.length_cons] at hl hb
  refine Ev.congr (fun k => by rw [journal_put.g]) ?_
  refine Ev.bind (ev_put24 x hx) ?_
  unfold putO
  cases hg : goodS x with
  | true =>
   have ih := puts_g l (acc ++ recS x) (fun y hy => h y (List.mem_cons_of_mem _ hy)) (by omega) (by rw [List.length_append]; omega)
   rw [if_pos rfl]
   refine Ev.congr (fun k => ?_) (show Ev (fun k => journal_put.g k l (ba (acc ++ recS x))) _ from ?_)
   ·simp only
    rw [if_pos trivial, if_pos (by rw [ba_size, ba_size]; omega), ba_append]
   ·rw [List.all_cons, hg, Bool.true_and]
    unfold recsL at ih ⊢
    rw [List.flatMap_cons, ← List.append_assoc]
    exact ih
  | false =>
   rw [if_neg (by decide), List.all_cons, hg, Bool.false_and]
   refine Ev.congr (f := fun _ => some (ba [], 1)) (fun k => ?_) (Ev.now _)
   simp only
   rw [if_neg (by decide)]
   rfl
theorem puts (l : List S24) (h : ∀ x ∈ l, okT x) (hl : l.length ≤ 100000) : Ev (fun k => journal_put.f k l) (if l.all goodS = true then (ba (recsL l), 0) else (ba [], 1)) := by
 have := puts_g l [] h hl (by simp; omega)
 rw [List.nil_append] at this
 refine Ev.congr (fun k => ?_) this
 unfold journal_put.f
 rw [if_pos (by omega)]
 rfl
def closedP (seq : Nat) (l : List S24) : Option (List UInt8) := if l.any isCommit = true ∨ l.all goodS = false then none else some (recsL l ++ recS (cm seq))
def closedO (seq : Nat) (l : List S24) : ByteArray × Int := match closedP seq l with | none => (ba [], 1) | some b => (ba b, 0)
theorem ev_closed (seq : Nat) (l : List S24) (hs : seq < 18446744073709551616) (h : ∀ x ∈ l, okT x) (hl : l.length ≤ 10000) : Ev (fun k => journal_closed.f k (seq : Int) l) (closedO seq l) := by
 unfold closedO closedP
 have e1 : step_Step_contains.f l = some (l.any isCommit) := if_pos (by omega)
 have e2 : step_Step.f l = some l := if_pos (by omega)
 refine Ev.congr (fun k => by unfold journal_closed.f; rw [e1, Option.bind_some, e2, Option.bind_some]) ?_
 cases hc : l.any isCommit with
 | true =>
  refine Ev.congr (f := fun _ => some (ba [], 1)) (fun k => ?_) (by simp only [true_or, if_true]; exact Ev.now _)
  rw [if_pos rfl]
  rfl
 | false =>
  have hp := puts (l ++ [cm seq]) (fun x hx => by
   rcases List.mem_append.1 hx with hx | hx
   ·exact h x hx
   ·rw [List.mem_singleton.1 hx]; exact cm_ok seq hs) (by simp; omega)
  have ea : (l ++ [cm seq]).all goodS = l.all goodS := by rw [List.all_append, List.all_cons, cm_good]; simp
  have er : recsL (l ++ [cm seq]) = recsL l ++ recS (cm seq) := by unfold recsL; rw [List.flatMap_append]; simp
  rw [ea, er] at hp
  have key : Ev (fun k => (journal_put.f k (l ++ [cm seq])).bind fun b => some (b.1, b.2)) (match if false = true ∨ l.all goodS = false then none else some (recsL l ++ recS (cm seq)) with | none => (ba [], 1) | some b => (ba b, 0)) := by
   refine Ev.bind hp ?_
   cases l.all goodS with
   | true => exact Ev.now _
   | false => exact Ev.now _
  refine Ev.congr (fun k => ?_) key
  rw [if_neg (by simp), Option.bind_some, if_pos (by simp only [List.length_singleton]; omega)]
  rfl
structure LogP where
 seq : Nat
 gr : List S44
 by_ : List UInt8
def zeroL : LogP := ⟨0, [], []⟩
def LogP.out (s : LogP) (e : Int) : Int × List S44 × ByteArray × Int := ((s.seq : Int), s.gr, ba s.by_, e)
def LogP.outR (s : LogP) (e : Int) : Int × List S46 × ByteArray × Int := ((s.seq : Int), s.gr.map a46, ba s.by_, e)
def withP (s : LogP) (seq : Nat) (l : List S24) : LogP × Int := match closedP seq l with | none => (zeroL, 1) | some b => (⟨seq, s.gr ++ [⟨(seq : Int), l⟩], s.by_ ++ b⟩, 0)
theorem closedP_len {seq : Nat} {l : List S24} {b : List UInt8} (h : ∀ x ∈ l, okT x) (hb : closedP seq l = some b) : b.length ≤ 223 * l.length + 23 := by
 unfold closedP at hb
 split at hb
 ·cases hb
 ·cases hb
  have := recsL_len l h
  have h2 := recS_len (cm seq)
  have h3 : (txtS (cm seq)).length = 0 := rfl
  rw [List.length_append]
  omega
theorem ev_with (s : LogP) (a0 : Int) (seq : Nat) (l : List S24) (hs : seq < 18446744073709551616) (h : ∀ x ∈ l, okT x) (hl : l.length ≤ 10000) (hg : s.gr.length ≤ 100000) (hb : s.by_.length ≤ 100000000) :
  Ev (fun k => journal_Log_with.f k a0 s.gr (ba s.by_) (seq : Int) l) ((withP s seq l).1.out (withP s seq l).2) := by
 refine Ev.bind (ev_closed seq l hs h hl) ?_
 unfold closedO withP
 cases hc : closedP seq l with
 | none =>
  refine Ev.congr (f := fun _ => some _) (fun k => ?_) (Ev.now _)
  simp only
  rw [if_neg (by decide)]
  rfl
 | some b =>
  have hbl := closedP_len h hc
  refine Ev.congr (f := fun _ => some _) (fun k => ?_) (Ev.now _)
  simp only
  unfold step_Step.f step_Group.f
  rw [if_pos trivial, if_pos (by omega), Option.bind_some, if_pos (by omega), Option.bind_some, Option.bind_some, if_pos (by simp only [List.length_singleton]; omega), ba_size, ba_size, if_pos (by omega), ba_append]
  rfl
def newP (seq : Nat) (l : List S24) : LogP × Int := withP zeroL seq l
theorem ev_new (seq : Nat) (l : List S24) (hs : seq < 18446744073709551616) (h : ∀ x ∈ l, okT x) (hl : l.length ≤ 10000) : Ev (fun k => journal_New.f k (seq : Int) l) ((newP seq l).1.out (newP seq l).2) := by
 exact Ev.bind (ev_with zeroL 0 seq l hs h hl (by simp [zeroL]) (by simp [zeroL])) (Ev.now _)
def addP (s : LogP) (l : List S24) : LogP × Int :=
 if (withP s ((s.seq + 1) % 18446744073709551616) l).2 = 0 then (if s.seq = 18446744073709551615 then (zeroL, 14) else ((withP s ((s.seq + 1) % 18446744073709551616) l).1, 0)) else (zeroL, (withP s ((s.seq + 1) % 18446744073709551616) l).2)
theorem wrapU (n : Nat) : IntKind.u64.wrap ((n : Int) + 1) = (((n + 1) % 18446744073709551616 : Nat) : Int) := by
 simp [IntKind.wrap, IntKind.bits, IntKind.signed]
theorem ev_add (s : LogP) (l : List S24) (h : ∀ x ∈ l, okT x) (hl : l.length ≤ 10000) (hg : s.gr.length ≤ 100000) (hb : s.by_.length ≤ 100000000) :
  Ev (fun k => journal_Add.f k (s.seq : Int) s.gr (ba s.by_) l) ((addP s l).1.out (addP s l).2) := by
 have hw := ev_with s (s.seq : Int) ((s.seq + 1) % 18446744073709551616) l (Nat.mod_lt _ (by decide)) h hl hg hb
 unfold addP
 generalize withP s ((s.seq + 1) % 18446744073709551616) l = W at hw
 obtain ⟨t, e⟩ := W
 refine Ev.congr (fun k => by unfold journal_Add.f; rw [wrapU]) ?_
 refine Ev.bind hw ?_
 refine Ev.congr (f := fun _ => some _) (fun k => ?_) (Ev.now _)
 change (if e = 0 then (if (s.seq : Int) = 18446744073709551615 then some ((0 : Int), ([] : List S44), (⟨#[]⟩ : ByteArray), (14 : Int)) else some ((t.seq : Int), t.gr, ba t.by_, 0)) else some (0, [], ⟨#[]⟩, e)) = some ((if e = 0 then (if s.seq = 18446744073709551615 then (zeroL, (14 : Int)) else (t, 0)) else (zeroL, e)).1.out (if e = 0 then (if s.seq = 18446744073709551615 then (zeroL, (14 : Int)) else (t, 0)) else (zeroL, e)).2)
 by_cases he : e = 0
 ·rw [if_pos he, if_pos he]
  by_cases hm : s.seq = 18446744073709551615
  ·rw [if_pos hm, if_pos (by omega)]; rfl
  ·rw [if_neg hm, if_neg (by omega)]; rfl
 ·rw [if_neg he, if_neg he]; rfl
theorem steps13_l (l : List S24) (h : l.length ≤ 1000000) : ∀ (d i : Nat) (acc : List S26), i + d = l.length → acc.length = i → Ev (fun k => l13_steps.l0 k l acc (i : Int)) (acc ++ (l.drop i).map a26) := by
 intro d
 induction d with
 | zero =>
  intro i acc hi ha
  refine Ev.step (f := fun _ => some _) (fun k => ?_) (Ev.now _)
  simp only [l13_steps.l0]
  rw [if_neg (by omega), List.drop_eq_nil_of_le (by omega), List.map_nil, List.append_nil]
 | succ d ih =>
  intro i acc hi ha
  have hlt : i < l.length := by omega
  have hE := ih (i + 1) (acc ++ [a26 (l[i]'hlt)]) (by omega) (by simp [ha])
  rw [List.drop_eq_getElem_cons hlt, List.map_cons]
  rw [List.append_assoc, List.singleton_append] at hE
  refine Ev.step (fun k => ?_) hE
  simp only [l13_steps.l0]
  rw [if_pos (by omega), if_pos (by omega), if_pos (by omega), rj24 l i hlt, wj i (by omega)]
  rfl
theorem steps13 (l : List S24) (h : l.length ≤ 1000000) : Ev (fun k => l13_steps.f k l) (l.map a26) := by
 have := steps13_l l h l.length 0 [] (by omega) rfl
 rw [List.nil_append, List.drop_zero] at this
 exact this
theorem sameS_yes_l (l : List S24) (h : l.length ≤ 1000000) : ∀ (d i : Nat), i + d = l.length → Ev (fun k => l13_sameSteps.l0 k l (l.map a26) (i : Int)) true := by
 intro d
 induction d with
 | zero =>
  intro i hi
  refine Ev.step (f := fun _ => some _) (fun k => ?_) (Ev.now _)
  simp only [l13_sameSteps.l0]
  rw [if_neg (by omega)]
 | succ d ih =>
  intro i hi
  have hlt : i < l.length := by omega
  have hr := rj24 l i hlt
  have hr' := rj26 l i hlt
  have hE := ih (i + 1) (by omega)
  generalize l[i]'hlt = x at hr hr'
  refine Ev.step (fun k => ?_) hE
  simp only [l13_sameSteps.l0]
  rw [if_pos (by omega), if_pos (by omega), if_pos (by rw [List.length_map]; omega), hr, hr', wj i (by omega)]
  exact (if_pos rfl).trans ((if_pos rfl).trans ((if_pos rfl).trans ((if_pos rfl).trans (if_pos rfl))))
theorem sameS_yes (l : List S24) (h : l.length ≤ 1000000) : Ev (fun k => l13_sameSteps.f k l (l.map a26)) true := by
 refine Ev.congr (fun k => ?_) (sameS_yes_l l h l.length 0 (by omega))
 unfold l13_sameSteps.f
 rw [if_pos (by rw [List.length_map])]
 rfl
def okL (s : LogP) : Prop := s.gr.length ≤ 100000 ∧ s.by_.length ≤ 100000000 ∧ s.seq < 18446744073709551616 ∧ ∀ g ∈ s.gr, g.f1.length ≤ 1000000
theorem short13_l (l : List S24) (h : l.length ≤ 60) : ∀ (d i : Nat), i + d = l.length → ∃ b, Ev (fun k => l13_shortSteps.l0 k l (i : Int)) b ∧ (b = true → ∀ x ∈ l.drop i, (txtS x).length ≤ 200) := by
 intro d
 induction d with
 | zero =>
  intro i hi
  refine ⟨true, Ev.step (f := fun _ => some _) (fun k => ?_) (Ev.now _), fun _ x hx => by rw [List.drop_eq_nil_of_le (by omega)] at hx; cases hx⟩
  simp only [l13_shortSteps.l0]
  rw [if_neg (by omega)]
 | succ d ih =>
  intro i hi
  have hlt : i < l.length := by omega
  have hz : (txtS (l[i]'hlt)).length = (l[i]'hlt).f4.size := Array.length_toList
  by_cases hs : ((l[i]'hlt).f4.size : Int) > 200
  ·refine ⟨false, Ev.step (f := fun _ => some _) (fun k => ?_) (Ev.now _), fun h => by cases h⟩
   simp only [l13_shortSteps.l0]
   rw [if_pos (by omega), if_pos (by omega), rj24 l i hlt, if_pos hs]
  ·obtain ⟨b, hb, hx⟩ := ih (i + 1) (by omega)
   refine ⟨b, Ev.step (fun k => ?_) hb, fun h x hm => ?_⟩
   ·simp only [l13_shortSteps.l0]
    rw [if_pos (by omega), if_pos (by omega), rj24 l i hlt, if_neg hs, wj i (by omega)]
   ·rw [List.drop_eq_getElem_cons hlt] at hm
    rcases List.mem_cons.1 hm with rfl | hm
    ·omega
    ·exact hx h x hm
theorem short13 (l : List S24) : ∃ b, Ev (fun k => l13_shortSteps.f k l) b ∧ (b = true → l.length ≤ 60 ∧ ∀ x ∈ l, (txtS x).length ≤ 200) := by
 by_cases h : (l.length : Int) > 60
 ·refine ⟨false, Ev.congr (f := fun _ => some false) (fun k => ?_) (Ev.now _), fun h => by cases h⟩
  unfold l13_shortSteps.f
  rw [if_pos h]
 ·obtain ⟨b, hb, hx⟩ := short13_l l (by omega) l.length 0 (by omega)
  refine ⟨b, Ev.congr (fun k => ?_) hb, fun hh => ⟨by omega, by have := hx hh; rwa [List.drop_zero] at this⟩⟩
  unfold l13_shortSteps.f
  rw [if_neg h]
  rfl
theorem rjL (l : List (List S24)) (i : Nat) (h : i < l.length) : rd_L4 l (i : Int) = l[i]'h := by
 unfold rd_L4
 rw [Int.toNat_natCast, List.getD_eq_getElem?_getD, List.getElem?_eq_getElem h]; rfl
theorem shorts_l (l : List (List S24)) (h : l.length ≤ 12) : ∀ (d i : Nat), i + d = l.length → ∃ b, Ev (fun k => l13_short.l0 k l (i : Int)) b ∧ (b = true → ∀ g ∈ l.drop i, g.length ≤ 12 ∧ ∀ x ∈ g, (txtS x).length ≤ 200) := by
 intro d
 induction d with
 | zero =>
  intro i hi
  refine ⟨true, Ev.step (f := fun _ => some _) (fun k => ?_) (Ev.now _), fun _ x hx => by rw [List.drop_eq_nil_of_le (by omega)] at hx; cases hx⟩
  simp only [l13_short.l0]
  rw [if_neg (by omega)]
 | succ d ih =>
  intro i hi
  have hlt : i < l.length := by omega
  obtain ⟨c, hc, hcx⟩ := short13 (l[i]'hlt)
  have st : ∀ k, l13_short.l0 (k + 1) l (i : Int) = (l13_shortSteps.f k (l[i]'hlt)).bind fun t => if t = true then (if ((l[i]'hlt).length : Int) > 12 then some false else l13_short.l0 k l ((i + 1 : Nat) : Int)) else some false := by
   intro k
   simp only [l13_short.l0]
   rw [if_pos (by omega), if_pos (by omega), rjL l i hlt, wj i (by omega)]
  cases c with
  | false => exact ⟨false, Ev.step st (Ev.bind hc (Ev.congr (f := fun _ => some false) (fun k => by rw [if_neg (by decide)]) (Ev.now _))), fun h => by cases h⟩
  | true =>
   by_cases h12 : ((l[i]'hlt).length : Int) > 12
   ·exact ⟨false, Ev.step st (Ev.bind hc (Ev.congr (f := fun _ => some false) (fun k => by rw [if_pos rfl, if_pos h12]) (Ev.now _))), fun h => by cases h⟩
   ·obtain ⟨b, hb, hx⟩ := ih (i + 1) (by omega)
    refine ⟨b, Ev.step st (Ev.bind hc (Ev.congr (fun k => by rw [if_pos rfl, if_neg h12]) hb)), fun h g hm => ?_⟩
    rw [List.drop_eq_getElem_cons hlt] at hm
    rcases List.mem_cons.1 hm with rfl | hm
    ·exact ⟨by omega, (hcx rfl).2⟩
    ·exact hx h g hm
theorem shorts13 (l : List (List S24)) : ∃ b, Ev (fun k => l13_short.f k l) b ∧ (b = true → l.length ≤ 12 ∧ ∀ g ∈ l, g.length ≤ 12 ∧ ∀ x ∈ g, (txtS x).length ≤ 200) := by
 by_cases h : (l.length : Int) > 12
 ·refine ⟨false, Ev.congr (f := fun _ => some false) (fun k => ?_) (Ev.now _), fun h => by cases h⟩
  unfold l13_short.f
  rw [if_pos h]
 ·obtain ⟨b, hb, hx⟩ := shorts_l l (by omega) l.length 0 (by omega)
  refine ⟨b, Ev.congr (fun k => ?_) hb, fun hh => ⟨by omega, by have := hx hh; rwa [List.drop_zero] at this⟩⟩
  unfold l13_short.f
  rw [if_neg h]
  rfl
def nextP (s : LogP) (l : List S24) : LogP := if (addP s l).2 = 0 then (addP s l).1 else s
def bldP : LogP → List (List S24) → LogP
 | s, [] => s
 | s, l :: r => bldP (nextP s l) r
def okM (m : Nat) (s : LogP) : Prop := s.gr.length ≤ m ∧ s.by_.length ≤ 14000 * m ∧ s.seq < 18446744073709551616 ∧ ∀ g ∈ s.gr, g.f1.length ≤ 60
theorem okM_zero (m : Nat) : okM m zeroL := ⟨Nat.zero_le _, Nat.zero_le _, by decide, fun g hg => by cases hg⟩
theorem okM_with {m : Nat} {s : LogP} (h : okM m s) (seq : Nat) (l : List S24) (hs : seq < 18446744073709551616) (hl : l.length ≤ 60) (ho : ∀ x ∈ l, okT x) : okM (m + 1) (withP s seq l).1 := by
 unfold withP
 cases hc : closedP seq l with
 | none => exact okM_zero _
 | some b =>
  have hb := closedP_len ho hc
  obtain ⟨h1, h2, h3, h4⟩ := h
  refine ⟨by simp; omega, by simp; omega, hs, fun g hg => ?_⟩
  rcases List.mem_append.1 hg with hg | hg
  ·exact h4 g hg
  ·rw [List.mem_singleton.1 hg]; exact hl
theorem okM_add {m : Nat} {s : LogP} (h : okM m s) (l : List S24) (hl : l.length ≤ 60) (ho : ∀ x ∈ l, okT x) : okM (m + 1) (addP s l).1 := by
 unfold addP
 split
 ·split
  ·exact okM_zero _
  ·exact okM_with h _ l (Nat.mod_lt _ (by decide)) hl ho
 ·exact okM_zero _
theorem okM_up {m : Nat} {s : LogP} (h : okM m s) : okM (m + 1) s := ⟨by have := h.1; omega, by have := h.2.1; omega, h.2.2.1, h.2.2.2⟩
theorem okM_next {m : Nat} {s : LogP} (h : okM m s) (l : List S24) (hl : l.length ≤ 60) (ho : ∀ x ∈ l, okT x) : okM (m + 1) (nextP s l) := by
 unfold nextP
 split
 ·exact okM_add h l hl ho
 ·exact okM_up h
def builtO (s : LogP) : Int × List S44 × ByteArray × Int × List S46 × ByteArray × Bool := ((s.seq : Int), s.gr, ba s.by_, (s.seq : Int), s.gr.map a46, ba s.by_, true)
def afterP (gr : List S44) (seq : Int) : List S24 := gr.flatMap fun g => if g.f0 > seq then g.f1 else []
theorem afterP_len (seq : Int) : ∀ (gr : List S44), (∀ g ∈ gr, g.f1.length ≤ 60) → (afterP gr seq).length ≤ 60 * gr.length
 | [], _ => by simp [afterP]
 | g :: r, h => by
  have ih := afterP_len seq r (fun x hx => h x (List.mem_cons_of_mem _ hx))
  have hg := h g List.mem_cons_self
  unfold afterP at ih ⊢
  rw [List.flatMap_cons, List.length_append, List.length_cons]
  split
  ·omega
  ·rw [List.length_nil]; omega
theorem after_l (gr : List S44) (seq : Int) (h : gr.length ≤ 1000) (hg : ∀ g ∈ gr, g.f1.length ≤ 60) : ∀ (d i : Nat) (acc : List S24), i + d = gr.length → acc.length ≤ 60 * i →
  Ev (fun k => journal_After.l0 k seq acc gr (gr.length : Int) (i : Int)) (acc ++ afterP (gr.drop i) seq) := by
 intro d
 induction d with
 | zero =>
  intro i acc hi ha
  rw [List.drop_eq_nil_of_le (by omega)]
  refine Ev.step (f := fun _ => some _) (fun k => ?_) (Ev.now _)
  simp only [journal_After.l0]
  rw [if_neg (by omega)]
  simp [afterP]
 | succ d ih =>
  intro i acc hi ha
  have hlt : i < gr.length := by omega
  have hx := hg _ (List.getElem_mem hlt)
  have hr := rj44 gr i hlt
  rw [List.drop_eq_getElem_cons hlt]
  generalize gr[i]'hlt = x at hx hr
  unfold afterP
  rw [List.flatMap_cons]
  by_cases hs : x.f0 > seq
  ·have hE := ih (i + 1) (acc ++ x.f1) (by omega) (by rw [List.length_append]; omega)
   rw [if_pos hs, ← List.append_assoc]
   refine Ev.step (fun k => ?_) hE
   simp only [journal_After.l0]
   rw [if_pos (by omega), if_pos (by omega), if_pos (by omega), hr, if_pos hs, if_pos (by omega), wj i (by omega)]
  ·have hE := ih (i + 1) acc (by omega) (by omega)
   rw [if_neg hs, List.nil_append]
   refine Ev.step (fun k => ?_) hE
   simp only [journal_After.l0]
   rw [if_pos (by omega), if_pos (by omega), if_pos (by omega), hr, if_neg hs, wj i (by omega)]
theorem ev_after (s : LogP) (seq : Int) (h : s.gr.length ≤ 1000) (hg : ∀ g ∈ s.gr, g.f1.length ≤ 60) : Ev (fun k => journal_After.f k (s.seq : Int) s.gr (ba s.by_) seq) (afterP s.gr seq) := by
 have hE := after_l s.gr seq h hg s.gr.length 0 [] (by omega) (by simp)
 rw [List.nil_append, List.drop_zero] at hE
 exact hE
theorem shown13 : Ev (fun k => l13_shown.f k) true := by
 have o1 : ∀ x ∈ [(⟨3, 1, 0, 0, ⟨#[]⟩⟩ : S24)], okT x := fun x hx => by rw [List.mem_singleton.1 hx]; exact ⟨by decide, by decide⟩
 have o2 : ∀ x ∈ [(⟨3, 2, 0, 0, ⟨#[]⟩⟩ : S24)], okT x := fun x hx => by rw [List.mem_singleton.1 hx]; exact ⟨by decide, by decide⟩
 have o3 : ∀ x ∈ [(⟨3, 3, 0, 0, ⟨#[]⟩⟩ : S24)], okT x := fun x hx => by rw [List.mem_singleton.1 hx]; exact ⟨by decide, by decide⟩
 have b0 : okM 1 (newP 5 [(⟨3, 1, 0, 0, ⟨#[]⟩⟩ : S24)]).1 := okM_with (okM_zero 0) 5 _ (by decide) (by decide) o1
 have c0 : (newP 5 [(⟨3, 1, 0, 0, ⟨#[]⟩⟩ : S24)]).2 = 0 ∧ (newP 5 [(⟨3, 1, 0, 0, ⟨#[]⟩⟩ : S24)]).1.seq = 5 ∧ (newP 5 [(⟨3, 1, 0, 0, ⟨#[]⟩⟩ : S24)]).1.gr = [⟨5, [⟨3, 1, 0, 0, ⟨#[]⟩⟩]⟩] := ⟨rfl, rfl, rfl⟩
 have h1 := ev_new 5 [⟨3, 1, 0, 0, ⟨#[]⟩⟩] (by decide) o1 (by decide)
 generalize newP 5 [(⟨3, 1, 0, 0, ⟨#[]⟩⟩ : S24)] = W1 at b0 c0 h1
 obtain ⟨s1, e1⟩ := W1
 obtain ⟨d0, d1, d2⟩ := c0
 simp only at d0 d1 d2 b0 h1
 have h2 := ev_add s1 [⟨3, 2, 0, 0, ⟨#[]⟩⟩] o2 (by decide) (by rw [d2]; decide) (by have := b0.2.1; omega)
 have b1 := okM_add b0 [(⟨3, 2, 0, 0, ⟨#[]⟩⟩ : S24)] (by decide) o2
 have c1 : (addP s1 [(⟨3, 2, 0, 0, ⟨#[]⟩⟩ : S24)]).2 = 0 ∧ (addP s1 [(⟨3, 2, 0, 0, ⟨#[]⟩⟩ : S24)]).1.seq = 6 ∧ (addP s1 [(⟨3, 2, 0, 0, ⟨#[]⟩⟩ : S24)]).1.gr = s1.gr ++ [⟨6, [⟨3, 2, 0, 0, ⟨#[]⟩⟩]⟩] := by
  unfold addP withP
  rw [d1]
  exact ⟨rfl, rfl, rfl⟩
 generalize addP s1 [(⟨3, 2, 0, 0, ⟨#[]⟩⟩ : S24)] = W2 at b1 c1 h2
 obtain ⟨s2, e2⟩ := W2
 obtain ⟨f0, f1, f2⟩ := c1
 simp only at f0 f1 f2 b1 h2
 have h3 := ev_add s2 [⟨3, 3, 0, 0, ⟨#[]⟩⟩] o3 (by decide) (by have := b1.1; omega) (by have := b1.2.1; omega)
 have b2 := okM_add b1 [(⟨3, 3, 0, 0, ⟨#[]⟩⟩ : S24)] (by decide) o3
 have c2 : (addP s2 [(⟨3, 3, 0, 0, ⟨#[]⟩⟩ : S24)]).2 = 0 ∧ (addP s2 [(⟨3, 3, 0, 0, ⟨#[]⟩⟩ : S24)]).1.seq = 7 ∧ (addP s2 [(⟨3, 3, 0, 0, ⟨#[]⟩⟩ : S24)]).1.gr = s2.gr ++ [⟨7, [⟨3, 3, 0, 0, ⟨#[]⟩⟩]⟩] := by
  unfold addP withP
  rw [f1]
  exact ⟨rfl, rfl, rfl⟩
 generalize addP s2 [(⟨3, 3, 0, 0, ⟨#[]⟩⟩ : S24)] = W3 at b2 c2 h3
 obtain ⟨s3, e3⟩ := W3
 obtain ⟨g0, g1, g2⟩ := c2
 simp only at g0 g1 g2 b2 h3
 have h4 := ev_after s3 6 (by have := b2.1; omega) b2.2.2.2
 have ha : afterP s3.gr 6 = [⟨3, 3, 0, 0, ⟨#[]⟩⟩] := by rw [g2, f2, d2]; rfl
 rw [ha] at h4
 refine Ev.bind h1 ?_
 refine Ev.bind h2 ?_
 refine Ev.bind h3 ?_
 refine Ev.bind h4 ?_
 refine Ev.congr (f := fun _ => some true) (fun k => ?_) (Ev.now _)
 exact (if_pos d0).trans ((if_pos f0).trans ((if_pos g0).trans ((if_pos (show (s3.seq : Int) = 7 by omega)).trans rfl)))
def flatF (gr : List S44) : List S24 := gr.flatMap fun g => g.f1
def numG : Nat → List S44 → Prop
 | _, [] => True
 | a, g :: r => g.f0 = (a : Int) ∧ numG (a + 1) r
theorem numG_snoc : ∀ (gr : List S44) (a : Nat) (g : S44), numG a gr → g.f0 = ((a + gr.length : Nat) : Int) → numG a (gr ++ [g])
 | [], a, g, _, h => ⟨by rw [h]; rfl, trivial⟩
 | x :: r, a, g, h, hg => ⟨h.1, numG_snoc r (a + 1) g h.2 (by rw [hg, List.length_cons]; omega)⟩
theorem numG_get : ∀ (gr : List S44) (a i : Nat) (h : i < gr.length), numG a gr → (gr[i]'h).f0 = ((a + i : Nat) : Int)
 | g :: r, a, 0, _, h => h.1
 | g :: r, a, i + 1, hi, h => by
  have := numG_get r (a + 1) i (by rw [List.length_cons] at hi; omega) h.2
  rw [List.getElem_cons_succ, this]
  omega
theorem after_all : ∀ (gr : List S44) (a : Nat) (q : Int), numG a gr → q < (a : Int) → afterP gr q = flatF gr
 | [], _, _, _, _ => rfl
 | g :: r, a, q, h, hq => by
  have ih := after_all r (a + 1) q h.2 (by omega)
  unfold afterP flatF at ih ⊢
  rw [List.flatMap_cons, List.flatMap_cons, ih, if_pos (by rw [h.1]; exact hq)]
theorem after_at : ∀ (gr : List S44) (a k : Nat) (q : Int), numG a gr → q = ((a + k : Nat) : Int) → afterP gr q = flatF (gr.drop (k + 1))
 | [], _, _, _, _, _ => by simp [afterP, flatF]
 | g :: r, a, k, q, h, hq => by
  have h0 : ¬ g.f0 > q := by rw [h.1, hq]; omega
  have e : afterP (g :: r) q = afterP r q := by
   unfold afterP
   rw [List.flatMap_cons, if_neg h0, List.nil_append]
  rw [e]
  cases k with
  | zero => exact after_all r (a + 1) q h.2 (by omega)
  | succ k => exact after_at r (a + 1) k q h.2 (by omega)
theorem flat_take (gr : List S44) (k : Nat) : flatF gr = flatF (gr.take k) ++ flatF (gr.drop k) := by
 unfold flatF
 rw [← List.flatMap_append, List.take_append_drop]
theorem flat_len : ∀ (gr : List S44), (∀ g ∈ gr, g.f1.length ≤ 60) → (flatF gr).length ≤ 60 * gr.length
 | [], _ => by simp [flatF]
 | g :: r, h => by
  have ih := flat_len r (fun x hx => h x (List.mem_cons_of_mem _ hx))
  have hg := h g List.mem_cons_self
  unfold flatF at ih ⊢
  rw [List.flatMap_cons, List.length_append, List.length_cons]
  omega
structure NumL (a : Nat) (s : LogP) : Prop where
 num : numG a s.gr
 pos : 0 < s.gr.length
 len : s.seq + 1 = a + s.gr.length
theorem num_new (a : Nat) : NumL a (newP a []).1 := ⟨⟨rfl, trivial⟩, Nat.zero_lt_one, rfl⟩
theorem next_cases (s : LogP) (hs : s.seq < 18446744073709551616) (l : List S24) : nextP s l = s ∨ ∃ b, nextP s l = ⟨s.seq + 1, s.gr ++ [⟨((s.seq + 1 : Nat) : Int), l⟩], s.by_ ++ b⟩ := by
 unfold nextP addP
 by_cases h0 : (withP s ((s.seq + 1) % 18446744073709551616) l).2 = 0
 ·rw [if_pos h0]
  by_cases hm : s.seq = 18446744073709551615
  ·rw [if_pos hm]; exact .inl (if_neg (by decide))
  ·rw [if_neg hm]
   refine .inr ?_
   rw [Nat.mod_eq_of_lt (show s.seq + 1 < 18446744073709551616 by omega)] at h0 ⊢
   unfold withP at h0 ⊢
   cases hc : closedP (s.seq + 1) l with
   | none => rw [hc] at h0; exact absurd (show (1 : Int) = 0 from h0) (by decide)
   | some b => exact ⟨b, if_pos rfl⟩
 ·rw [if_neg h0]; exact .inl (if_neg h0)
theorem num_next {a : Nat} {s : LogP} (h : NumL a s) (hs : s.seq < 18446744073709551616) (l : List S24) : NumL a (nextP s l) := by
 rcases next_cases s hs l with e | ⟨b, e⟩
 ·rw [e]; exact h
 ·rw [e]
  refine ⟨numG_snoc _ _ _ h.num (by show ((s.seq + 1 : Nat) : Int) = _; rw [h.len]), ?_, ?_⟩
  ·show 0 < (s.gr ++ [_]).length
   rw [List.length_append]; exact Nat.lt_of_lt_of_le h.pos (Nat.le_add_right _ _)
  ·show s.seq + 1 + 1 = a + (s.gr ++ [_]).length
   rw [List.length_append, h.len]; rfl
theorem any_low (gr : List S44) (a : Int) (h : ∀ g ∈ gr, g.f0 ≤ a) : gr.any (isBehind a) = false := by
 rw [List.any_eq_false]
 intro g hg
 unfold isBehind
 rw [decide_eq_false (by have := h g hg; omega)]
 decide
theorem take_low (gr : List S44) (b j : Nat) (a : Int) (h : numG b gr) (hj : (b : Int) + j ≤ a + 1) : ∀ g ∈ gr.take j, g.f0 ≤ a := fun g hg => by
 obtain ⟨i, hi, rfl⟩ := List.getElem_of_mem hg
 rw [List.length_take] at hi
 rw [List.getElem_take, numG_get gr b i (by omega) h]
 omega
theorem idx_none (gr : List S44) (b a : Nat) (h : numG b gr) (hn : b + gr.length ≤ a + 1) : idxOf (isBehind (a : Int)) gr = -1 := by
 refine idx_miss _ _ (any_low _ _ ?_)
 have := take_low gr b gr.length (a : Int) h (by omega)
 rwa [List.take_length] at this
theorem idx_at (gr : List S44) (b a j : Nat) (h : numG b gr) (hj : j < gr.length) (h1 : b + j ≤ a + 1) (h2 : a < b + j) : idxOf (isBehind (a : Int)) gr = (j : Int) := by
 refine idx_hit _ gr j (gr[j]'hj) (any_low _ _ (take_low gr b j (a : Int) h (by omega))) (List.getElem?_eq_getElem hj) ?_
 unfold isBehind
 rw [numG_get gr b j hj h]
 exact decide_eq_true (by omega)
theorem idx_zero (gr : List S44) (b a : Nat) (h : numG b gr) (hp : 0 < gr.length) (h2 : a < b) : idxOf (isBehind (a : Int)) gr = 0 := by
 refine idx_hit _ gr 0 (gr[0]'hp) (by simp) (List.getElem?_eq_getElem hp) ?_
 unfold isBehind
 rw [numG_get gr b 0 hp h]
 exact decide_eq_true (by omega)
theorem index_f (gr : List S44) (a r : Int) (h : gr.length ≤ 1000) (e : idxOf (isBehind a) gr = r) : step_Group_index.f gr a = some r := by
 unfold step_Group_index.f
 rw [if_pos (by omega), e]
theorem flat_snoc1 (gr : List S44) (i : Nat) (h : i < gr.length) : flatF (gr.take (i + 1)) = flatF (gr.take i) ++ (gr[i]'h).f1 := by
 unfold flatF
 rw [List.take_succ_eq_append_getElem h, List.flatMap_append]
 simp
theorem flatT_len (gr : List S44) (i : Nat) (hg : ∀ g ∈ gr, g.f1.length ≤ 60) : (flatF (gr.take i)).length ≤ 60 * gr.length := by
 have := flat_len (gr.take i) (fun g h => hg g (List.mem_of_mem_take h))
 rw [List.length_take] at this
 omega
theorem join_tail (s t : LogP) (x7 : Int) (hs : s.gr.length ≤ 100) (hsg : ∀ g ∈ s.gr, g.f1.length ≤ 60) (ht : t.gr.length ≤ 100) (htg : ∀ g ∈ t.gr, g.f1.length ≤ 60) : ∀ (d i : Nat), i + d = s.gr.length →
  Ev (fun k => journal_Join.l0 k x7 (flatF (s.gr.take i)) s.gr (s.gr.length : Int) (i : Int) (s.seq : Int) s.gr (ba s.by_) (t.seq : Int) t.gr (ba t.by_)) (flatF s.gr ++ afterP t.gr (s.seq : Int), x7, 0) := by
 intro d
 induction d with
 | zero =>
  intro i hi
  have hl := flatT_len s.gr i hsg
  have ha := afterP_len (s.seq : Int) t.gr htg
  rw [List.take_of_length_le (by omega)] at hl ⊢
  refine Ev.step (f := fun k => (journal_After.f k (t.seq : Int) t.gr (ba t.by_) (s.seq : Int)).bind fun t329 => (if (flatF s.gr).length + t329.length < 2932031007402 then (some ((flatF s.gr ++ t329), x7, 0)) else (none))) (fun k => ?_) ?_
  ·simp only [journal_Join.l0]
   exact if_neg (by omega)
  ·refine Ev.bind (ev_after t (s.seq : Int) (by omega) htg) ?_
   exact Ev.congr (fun k => if_pos (by omega)) (Ev.now _)
 | succ d ih =>
  intro i hi
  have hlt : i < s.gr.length := by omega
  have hl := flatT_len s.gr i hsg
  have hx := hsg _ (List.getElem_mem hlt)
  have hr := rj44 s.gr i hlt
  have hE := ih (i + 1) (by omega)
  rw [flat_snoc1 s.gr i hlt] at hE
  refine Ev.step (fun k => ?_) hE
  simp only [journal_Join.l0]
  rw [if_pos (by omega), if_pos (by omega), if_pos (by omega), hr, if_pos (by omega), wj i (by omega)]
def joinO (s : LogP) (b : Nat) (t : LogP) : List S24 × Int × Int :=
 if s.seq + 1 < b then ([], 0, 2) else (flatF s.gr ++ afterP t.gr (s.seq : Int), ((Nat.max s.seq t.seq : Nat) : Int), 0)
theorem wsub1 (x : Nat) (h0 : 0 < x) (h1 : x < 18446744073709551616) : IntKind.u64.wrap ((x : Int) - 1) = ((x - 1 : Nat) : Int) := by
 simp [IntKind.wrap, IntKind.bits, IntKind.signed]
 omega
theorem ev_join (s t : LogP) (b : Nat) (h : NumL b t) (hp : 0 < s.gr.length) (hq : t.seq < 18446744073709551616) (hs : s.gr.length ≤ 100) (hsg : ∀ g ∈ s.gr, g.f1.length ≤ 60) (ht : t.gr.length ≤ 100) (htg : ∀ g ∈ t.gr, g.f1.length ≤ 60) :
  Ev (fun k => journal_Join.f k (s.seq : Int) s.gr (ba s.by_) (t.seq : Int) t.gr (ba t.by_)) (joinO s b t) := by
 have hlen := h.len
 have hpos := h.pos
 have tail : ∀ x7 : Int, Ev (fun k => journal_Join.j1 k x7 (s.seq : Int) s.gr (ba s.by_) (t.seq : Int) t.gr (ba t.by_)) (flatF s.gr ++ afterP t.gr (s.seq : Int), x7, 0) := fun x7 =>
  Ev.step (fun k => by simp only [journal_Join.j1]; rfl) (join_tail s t x7 hs hsg ht htg s.gr.length 0 (by omega))
 unfold joinO
 by_cases hb : s.seq + 1 < b
 ·rw [if_pos hb]
  have hi := index_f t.gr (s.seq : Int) 0 (by omega) (idx_zero t.gr b s.seq h.num hpos (by omega))
  have hg := numG_get t.gr b 0 hpos h.num
  have hr := rj44 t.gr 0 hpos
  refine Ev.congr (fun k => by unfold journal_Join.f; rw [hi, Option.bind_some, if_neg (by omega), if_pos (by decide), if_pos (by decide), if_pos (by omega)]) ?_
  refine Ev.step (f := fun _ => some ([], 0, 2)) (fun k => ?_) (Ev.now _)
  simp only [journal_Join.j0]
  rw [show rd_T44 t.gr 0 = t.gr[0]'hpos from hr, hg, wsub1 (b + 0) (by omega) (by omega)]
  exact if_pos (bne_iff_ne.2 (by omega))
 ·rw [if_neg hb]
  by_cases hn : b + t.gr.length ≤ s.seq + 1
  ·have hi := index_f t.gr (s.seq : Int) (-1) (by omega) (idx_none t.gr b s.seq h.num hn)
   refine Ev.congr (fun k => by unfold journal_Join.f; rw [hi, Option.bind_some, if_neg (by omega), if_neg (by decide)]) ?_
   rw [show Nat.max s.seq t.seq = s.seq from Nat.max_eq_left (by omega)]
   refine Ev.step (fun k => ?_) (tail (s.seq : Int))
   simp only [journal_Join.j0]
   exact (if_neg (by decide)).trans (if_neg (by decide))
  ·have hlt : s.seq + 1 - b < t.gr.length := by omega
   have hi := index_f t.gr (s.seq : Int) ((s.seq + 1 - b : Nat) : Int) (by omega) (idx_at t.gr b s.seq (s.seq + 1 - b) h.num hlt (by omega) (by omega))
   have hg := numG_get t.gr b (s.seq + 1 - b) hlt h.num
   have hr := rj44 t.gr (s.seq + 1 - b) hlt
   have hlast : t.gr.length - 1 < t.gr.length := by omega
   have hgl := numG_get t.gr b (t.gr.length - 1) hlast h.num
   have hrl := rj44 t.gr (t.gr.length - 1) hlast
   have hw : wrap64 ((t.gr.length : Int) - 1) = ((t.gr.length - 1 : Nat) : Int) := by rw [w64 _ (by omega) (by omega)]; omega
   refine Ev.congr (fun k => by unfold journal_Join.f; rw [hi, Option.bind_some, if_neg (by omega), if_pos (by omega), if_pos (by omega), if_pos (by omega), hr, hg, wsub1 _ (by omega) (by omega)]) ?_
   rw [show Nat.max s.seq t.seq = t.seq from Nat.max_eq_right (by omega)]
   refine Ev.step (fun k => ?_) (tail (t.seq : Int))
   simp only [journal_Join.j0]
   rw [hw, hrl, hgl, show b + (t.gr.length - 1) = t.seq by omega, show (((b + (s.seq + 1 - b) - 1 : Nat) : Int) != (s.seq : Int)) = false from bne_eq_false_iff_eq.2 (by omega)]
   refine (if_neg (by decide)).trans ((if_pos (by omega)).trans ((if_pos (by omega)).trans (if_pos (by omega))))
structure Ahead (a : Nat) (r s : LogP) : Prop where
 old : NumL a r
 now : NumL a s
 le : r.gr.length ≤ s.gr.length
 pre : s.gr.take r.gr.length = r.gr
theorem ahead_self {a : Nat} {s : LogP} (h : NumL a s) : Ahead a s s := ⟨h, h, Nat.le_refl _, List.take_length⟩
theorem next_grows (s : LogP) (hs : s.seq < 18446744073709551616) (l : List S24) : ∃ z, (nextP s l).gr = s.gr ++ z := by
 rcases next_cases s hs l with e | ⟨b, e⟩
 ·exact ⟨[], by rw [List.append_nil, e]⟩
 ·exact ⟨_, by rw [e]⟩
theorem ahead_next {a : Nat} {r s : LogP} (h : Ahead a r s) (hs : s.seq < 18446744073709551616) (l : List S24) : Ahead a r (nextP s l) := by
 obtain ⟨z, hz⟩ := next_grows s hs l
 refine ⟨h.old, num_next h.now hs l, ?_, ?_⟩
 ·rw [hz, List.length_append]; exact Nat.le_trans h.le (Nat.le_add_right _ _)
 ·rw [hz, List.take_append_of_le_length h.le]; exact h.pre
theorem join_ahead {a : Nat} {r s : LogP} (h : Ahead a r s) : joinO r a s = (flatF s.gr, (s.seq : Int), 0) := by
 have h1 := h.old.len
 have h2 := h.now.len
 have h3 := h.old.pos
 have h4 := h.le
 unfold joinO
 rw [if_neg (by omega), after_at s.gr a (r.gr.length - 1) (r.seq : Int) h.now.num (by omega), show r.gr.length - 1 + 1 = r.gr.length by omega, show Nat.max r.seq s.seq = s.seq from Nat.max_eq_right (by omega)]
 have e := flat_take s.gr r.gr.length
 rw [h.pre] at e
 rw [← e]
theorem once_end (L : List (List S24)) (c : Int) (a : Nat) (r s : LogP) (m : Nat) (hm : m ≤ 50) (hM : okM m s) (hR : okM m r) (h : Ahead a r s) (i : Nat) (hi : i = L.length) :
  Ev (fun k => l13_JournalOnce.l0 k (a : Int) L c (i : Int) (s.seq : Int) s.gr (ba s.by_) (r.seq : Int) r.gr (ba r.by_)) true := by
 have hm1 := hM.1
 have hr1 := hR.1
 have j1 := ev_join r s a h.now h.old.pos hM.2.2.1 (by omega) hR.2.2.2 (by omega) hM.2.2.2
 have j2 := ev_join s s a h.now h.now.pos hM.2.2.1 (by omega) hM.2.2.2 (by omega) hM.2.2.2
 rw [join_ahead h] at j1
 rw [join_ahead (ahead_self h.now)] at j2
 have j3 := ev_after s 0 (by omega) hM.2.2.2
 have hl := flat_len s.gr hM.2.2.2
 have hal := afterP_len 0 s.gr hM.2.2.2
 have st := steps13 (flatF s.gr) (by omega)
 have sm := sameS_yes (flatF s.gr) (by omega)
 have tail : ∀ Y : List S24, (¬ (a : Int) = 0 → Y = flatF s.gr) → Ev (fun k => l13_JournalOnce.j2 k (a : Int) (flatF s.gr) (s.seq : Int) 0 Y (s.seq : Int) s.gr (ba s.by_)) true := fun Y hY => by
  refine Ev.step (fun k => by simp only [l13_JournalOnce.j2]; rfl) ?_
  refine Ev.bind j2 ?_
  refine Ev.congr (fun k => (if_pos trivial).trans ((if_pos rfl).trans ((if_pos trivial).trans (if_pos rfl)))) ?_
  refine Ev.bind st ?_
  refine Ev.bind sm ?_
  refine Ev.congr (fun k => if_pos rfl) ?_
  by_cases h0 : (a : Int) = 0
  ·exact Ev.congr (fun k => if_pos h0) (Ev.now _)
  ·rw [hY h0]
   refine Ev.congr (fun k => if_neg h0) ?_
   refine Ev.bind st ?_
   exact Ev.bind sm (Ev.now _)
 refine Ev.step (fun k => by simp only [l13_JournalOnce.l0]; rw [if_neg (by omega)]) ?_
 refine Ev.bind j1 ?_
 refine Ev.bind j3 ?_
 by_cases h0 : (a : Int) = 0
 ·refine Ev.congr (fun k => (if_pos h0).trans ?_) (tail (afterP s.gr 0) (fun h => absurd h0 h))
  rw [Option.bind_some]
  exact if_pos (by show 0 + (afterP s.gr 0).length < _; omega)
 ·refine Ev.congr (fun k => if_neg h0) (tail (afterP s.gr 0) (fun _ => after_all s.gr a 0 h.now.num (by omega)))
theorem once_loop (L : List (List S24)) (c : Int) (a : Nat) (h12 : L.length ≤ 12) (ho : ∀ l ∈ L, l.length ≤ 60 ∧ ∀ x ∈ l, okT x) : ∀ (d i : Nat) (r s : LogP), i + d = L.length → okM (1 + i) s → okM (1 + i) r → Ahead a r s →
  Ev (fun k => l13_JournalOnce.l0 k (a : Int) L c (i : Int) (s.seq : Int) s.gr (ba s.by_) (r.seq : Int) r.gr (ba r.by_)) true := by
 intro d
 induction d with
 | zero =>
  intro i r s hi hM hR h
  exact once_end L c a r s (1 + i) (by omega) hM hR h i (by omega)
 | succ d ih =>
  intro i r s hi hM hR h
  have hlt : i < L.length := by omega
  obtain ⟨hl, hlo⟩ := ho _ (List.getElem_mem hlt)
  have hr := rjL L i hlt
  generalize L[i]'hlt = l at hr hl hlo
  have hm1 := hM.1
  have hm2 := hM.2.1
  have hE := ev_add s l hlo (by omega) (by omega) (by omega)
  have hN := okM_next hM l hl hlo
  have hA := ahead_next h hM.2.2.1 l
  have h1 := ih (i + 1) (nextP s l) (nextP s l) (by omega) (by rw [show 1 + (i + 1) = 1 + i + 1 by omega]; exact hN) (by rw [show 1 + (i + 1) = 1 + i + 1 by omega]; exact hN) (ahead_self hA.now)
  have h2 := ih (i + 1) r (nextP s l) (by omega) (by rw [show 1 + (i + 1) = 1 + i + 1 by omega]; exact hN) (by rw [show 1 + (i + 1) = 1 + i + 1 by omega]; exact okM_up hR) hA
  unfold nextP at h1 h2
  generalize addP s l = W at hE h1 h2
  obtain ⟨t, e⟩ := W
  refine Ev.step (fun k => by simp only [l13_JournalOnce.l0]; rw [if_pos (by omega), if_pos (by omega), hr, wj i (by omega)]) ?_
  refine Ev.bind hE ?_
  by_cases he : e = 0
  ·rw [if_pos he] at h1 h2
   refine Ev.congr (fun k => if_pos he) ?_
   by_cases hc : ((i + 1 : Nat) : Int) = c
   ·exact Ev.congr (fun k => if_pos hc) h1
   ·exact Ev.congr (fun k => if_neg hc) h2
  ·rw [if_neg he] at h1 h2
   refine Ev.congr (fun k => if_neg he) ?_
   by_cases hc : ((i + 1 : Nat) : Int) = c
   ·exact Ev.congr (fun k => if_pos hc) h1
   ·exact Ev.congr (fun k => if_neg hc) h2
theorem JournalOnce (a : Int) (L : List (List S24)) (c : Int) (ha : 0 ≤ a ∧ a < 18446744073709551616) (hL : ∀ l ∈ L, ∀ x ∈ l, 0 ≤ x.f3 ∧ x.f3 < 18446744073709551616) (_hc : -9223372036854775808 ≤ c ∧ c < 9223372036854775808) : ∃ k, l13_JournalOnce.f k a L c = some true := by
 obtain ⟨s, rfl⟩ : ∃ s : Nat, a = (s : Int) := ⟨a.toNat, by omega⟩
 obtain ⟨q, hq, hqx⟩ := shorts13 L
 have body : ∀ r : Bool, (r = false → q = true) → Ev (fun k => l13_JournalOnce.j0 k (s : Int) L c true r) true := by
  intro r hr
  cases r with
  | true =>
   refine Ev.step (f := fun _ => some true) (fun k => ?_) (Ev.now _)
   simp only [l13_JournalOnce.j0]
   rw [if_pos trivial]
  | false =>
   obtain rfl := hr rfl
   obtain ⟨h12, hx⟩ := hqx rfl
   have hn : ∀ x ∈ ([] : List S24), okT x := fun x hx => by cases hx
   have hLo : ∀ l ∈ L, l.length ≤ 60 ∧ ∀ x ∈ l, okT x := fun l hm => ⟨by have := (hx l hm).1; omega, fun x hxm => ⟨hL l hm x hxm, (hx l hm).2 x hxm⟩⟩
   have hE := ev_new s [] (by omega) hn (by simp)
   have hM := okM_with (okM_zero 0) s [] (by omega) (by simp) hn
   have hN := num_new s
   have h := once_loop L (mx 0 (mn c (L.length : Int))) s h12 hLo L.length 0 (newP s []).1 (newP s []).1 (by omega) hM hM (ahead_self hN)
   refine Ev.step (fun k => by simp only [l13_JournalOnce.j0]; rw [if_neg (by decide)]) ?_
   refine Ev.bind hE ?_
   exact h
 refine Ev.rounds (Ev.bind shown13 (Ev.bind hq (Ev.congr (fun k => if_pos rfl) ?_)))
 cases q with
 | false => exact Ev.congr (fun k => if_neg (by decide)) (body true (by simp))
 | true => exact Ev.congr (fun k => if_pos rfl) (body _ (fun _ => rfl))
end Go.Proofs.YtboommbclbjlnaaDoor.Pu
end
section
namespace Go.Proofs.YtboommbclbjlnaaDoor.RowB
open Go.Shelf Go.ChangeShapes Go.WideShapes Go.ChangeAt Go.RowKit Go.Lib Go.Deep
theorem own : ownKnob Tryd.prog.godebug = none := by kernel_rfl
theorem laidOut : laidOutB Tryd.prog = true := by kernel_rfl
theorem accept_eq : (Rows.laid_unicode_utf8_acceptRanges : DataW Unit) = acceptData := by kernel_rfl
theorem first_eq : Rows.laid_unicode_utf8_first = firstData := by unfold Rows.laid_unicode_utf8_first; exact Pinned.utf8First_eq
theorem tabs {W : World} (h : laidMetH Tryd.prog [("unicode/utf8.acceptRanges", Rows.laid_unicode_utf8_acceptRanges), ("unicode/utf8.first", Rows.laid_unicode_utf8_first)] W) : Lf.Tabs W := by
  have h' : laidMet Tryd.prog [("unicode/utf8.acceptRanges", Rows.laid_unicode_utf8_acceptRanges), ("unicode/utf8.first", Rows.laid_unicode_utf8_first)] W := h
  have h1 := Lib.laidMet.reads h' (.head _)
  have h2 := Lib.laidMet.reads h' (.tail _ (.head _))
  rw [accept_eq] at h1
  rw [first_eq] at h2
  exact ⟨utf8Tabs_of_readsT (U8Types.of196 Lf.laysValid) ⟨by kernel_rfl, by kernel_rfl, by kernel_rfl, by kernel_rfl, by kernel_rfl, by kernel_rfl, by kernel_rfl⟩ h2 h1⟩
noncomputable def laidWorld (os : Os) : World :=
  let w0 := World.holding Tryd.prog os ⟨#[], #[], []⟩
  let put (h : Array Obj) (g : Nat) (cs : Array Value) : Array Obj := h.modify g fun
    | .cells _ t frozen => .cells cs t frozen
    | o => o
  let h1 := put w0.heap 0 (Lib.firstTab.map fun z => Value.int .u8 z).toArray
  let h2 := put h1 1 ((List.range 16).flatMap fun i => [Value.int .u8 (Lib.accLo i), Value.int .u8 (Lib.accHi i)]).toArray
  { w0 with heap := h2 }
theorem laid_met (os : Os) (args : Array Value) : laidMet Tryd.prog [("unicode/utf8.acceptRanges", Rows.laid_unicode_utf8_acceptRanges), ("unicode/utf8.first", Rows.laid_unicode_utf8_first)] ((laidWorld os).forCall (fun _ _ => 0) ⟨#[], args, []⟩).memory := by
  rw [accept_eq, first_eq]
  exact laidMet_of_run' 8 (by kernel_rfl) (by kernel_rfl)
end Go.Proofs.YtboommbclbjlnaaDoor.RowB
end
section
namespace Go.Proofs.YtboommbclbjlnaaDoor.RowA
open Go.Shelf Go.ChangeShapes Go.WideShapes Go.ChangeAt Go.RowKit Go.Lib Go.Deep
open Go.ChangeMaps (open_string shut_string)
set_option maxRecDepth 100000
section
variable {H : Type} {enc : TypeId × Value → H} {W : World} {base b0 : Nat} {sp : Nat → Bool} {held : Bool}
theorem open_num {t : TypeId} {k : IntKind} (ht : Tryd.prog.underlying t = some (.int k)) {r : Reach} {v : Value} {d : DataW H} {p : List MemPlace} (hv : Value.okWide Tryd.prog W r b0 t v)
    (h : DataW.Trod enc Tryd.prog W base sp held t v d p) : ∃ a : Int, v = .int k a ∧ (Lit.int k a).wf = true := by
  obtain ⟨a, rfl, _, _, w⟩ := open_int ht hv h
  exact ⟨a, rfl, w⟩
theorem cells3 : Tryd.prog.cellsOf 3 = 1 := by kernel_rfl
theorem cells9 : Tryd.prog.cellsOf 9 = 1 := by kernel_rfl
theorem cells22 : Tryd.prog.cellsOf 22 = 1 := by kernel_rfl
theorem cells24 : Tryd.prog.cellsOf 24 = 5 := by kernel_rfl
end
end Go.Proofs.YtboommbclbjlnaaDoor.RowA
end
section
namespace Go.Proofs.YtboommbclbjlnaaDoor.RowA
open Go.Shelf Go.ChangeShapes Go.WideShapes Go.ChangeAt Go.RowKit Go.Lib Go.Deep Go.Proofs.YtboommbclbjlnaaDoorW.PrintWords Go.Proofs.YtboommbclbjlnaaDoor.Fn
set_option maxRecDepth 100000
section
variable {H : Type} {enc : TypeId × Value → H} {W : World} {base b0 : Nat} {sp : Nat → Bool} {held : Bool}
def okStep (x : S24) : Prop := 0 ≤ x.f3 ∧ x.f3 < 18446744073709551616
theorem core24 {fuel : Nat} {cs : List Value} {y : DataW H × List MemPlace} (h : DataW.trod enc Tryd.prog W base sp held fuel 24 cs = some y) : ∃ x : S24, k24.K W x cs ∧ okStep x := by
  obtain ⟨xs, n, _, hx, hl, hlen, hg⟩ := DataW.trod_struct Tryd.underlying24 h
  match cs, hl.trans cells24 with
  | [c0, c1, c2, c3, c4], _ =>
    match xs, hlen with
    | [y0, y1, y2, y3, y4], _ =>
      have g0 := hg 0 _ rfl
      change DataW.trod enc Tryd.prog W base sp held n 3 (([c0, c1, c2, c3, c4].drop 0).take (Tryd.prog.cellsOf 3)) = some y0 at g0
      rw [cells3] at g0
      have g1 := hg 1 _ rfl
      change DataW.trod enc Tryd.prog W base sp held n 3 (([c0, c1, c2, c3, c4].drop 1).take (Tryd.prog.cellsOf 3)) = some y1 at g1
      rw [cells3] at g1
      have g2 := hg 2 _ rfl
      change DataW.trod enc Tryd.prog W base sp held n 3 (([c0, c1, c2, c3, c4].drop 2).take (Tryd.prog.cellsOf 3)) = some y2 at g2
      rw [cells3] at g2
      have g3 := hg 3 _ rfl
      change DataW.trod enc Tryd.prog W base sp held n 22 (([c0, c1, c2, c3, c4].drop 3).take (Tryd.prog.cellsOf 22)) = some y3 at g3
      rw [cells22] at g3
      have g4 := hg 4 _ rfl
      change DataW.trod enc Tryd.prog W base sp held n 9 (([c0, c1, c2, c3, c4].drop 4).take (Tryd.prog.cellsOf 9)) = some y4 at g4
      rw [cells9] at g4
      obtain ⟨m0, e0, _, w0⟩ := DataW.trod_int Tryd.underlying3 g0
      obtain ⟨m1, e1, _, w1⟩ := DataW.trod_int Tryd.underlying3 g1
      obtain ⟨m2, e2, _, w2⟩ := DataW.trod_int Tryd.underlying3 g2
      obtain ⟨m3, e3, _, w3⟩ := DataW.trod_int Tryd.underlying22 g3
      obtain ⟨m4, e4, _, w4⟩ := DataW.trod_string Tryd.underlying9 g4
      cases e0; cases e1; cases e2; cases e3; cases e4
      refine ⟨⟨m0, m1, m2, m3, m4⟩, k24_mk W _, ?_⟩
      have hb := bounds_u64 w3
      exact ⟨hb.1, by show m3 < _; omega⟩
theorem open_row {α : Type} (d : Kd α) (Q : α → Prop) {t e : TypeId} (ht : Tryd.prog.underlying t = some (.slice e)) (hsz : Tryd.prog.cellsOf e = d.sz)
    (core : ∀ (fuel : Nat) (cs : List Value) (y : DataW H × List MemPlace), DataW.trod enc Tryd.prog W base sp held fuel e cs = some y → ∃ x : α, d.K W x cs ∧ Q x)
    {fuel : Nat} {cs : List Value} {y : DataW H × List MemPlace} (h : DataW.trod enc Tryd.prog W base sp held fuel t cs = some y) :
    ∃ (A : Option Addr) (l : List α) (c : Nat), cs = [.slice A l.length c] ∧ d.C W A l.length l ∧ l.length ≤ c ∧ ∀ x ∈ l, Q x := by
  rcases open_slice ht h with ⟨rfl, _⟩ | ⟨a, len, cap, m, n, D, Pl, rfl, hb, hl, hm, hmm, hx, hi⟩
  · exact ⟨none, [], 0, rfl, ⟨rfl, Nat.zero_le _, fun h => absurd h (by simp)⟩, Nat.le_refl _, fun x hx => by cases hx⟩
  · have hml : len ≤ m := by rw [hmm]; split <;> omega
    have hall : ∀ k, k ≤ len → ∃ l : List α, l.length = k ∧ (∀ x ∈ l, Q x) ∧ ∀ j p, l[j]? = some p → ∃ c, c.length = d.sz ∧ d.K W p c ∧ ∀ i u, c[i]? = some u → W.cell? (a.add (j * d.sz + i)) = some u := by
      intro k
      induction k with
      | zero => intro _; exact ⟨[], rfl, (fun x hx => by cases hx), (fun j p hj => by simp at hj)⟩
      | succ k ih =>
        intro hk
        obtain ⟨l, hlen, hq, hg⟩ := ih (by omega)
        obtain ⟨cs', hc, ht'⟩ := hi k (by omega)
        obtain ⟨x, hK, hQ⟩ := core _ _ _ ht'
        obtain ⟨_, hcl, hat⟩ := World.cells?_some hc
        rw [hsz] at hcl hat
        refine ⟨l ++ [x], by simp [hlen], fun z hz => ?_, fun j p hj => ?_⟩
        · rcases List.mem_append.1 hz with hz | hz
          · exact hq z hz
          · rw [List.mem_singleton.1 hz]; exact hQ
        · rcases Nat.lt_or_ge j l.length with hjl | hjl
          · rw [List.getElem?_append_left hjl] at hj
            exact hg j p hj
          · rw [List.getElem?_append_right hjl] at hj
            have hj0 : j - l.length = 0 := by
              rcases Nat.eq_zero_or_pos (j - l.length) with h0 | h0
              · exact h0
              · rw [List.getElem?_eq_none (by simp only [List.length_singleton]; omega)] at hj; cases hj
            rw [hj0] at hj
            cases hj
            refine ⟨cs', hcl, hK, fun i u hu => ?_⟩
            have hil : i < d.sz := by rw [← hcl]; exact (List.getElem?_eq_some_iff.1 hu).1
            have h1 := hat i hil
            rw [← Go.Deep.add_add, show j = k by omega, h1, hu]
    obtain ⟨l, hlen, hq, hg⟩ := hall len (Nat.le_refl _)
    subst hlen
    exact ⟨some a, l, cap, rfl, ⟨rfl, by unfold maxLen at hm; omega, fun _ => ⟨a, rfl, hg⟩⟩, hl, hq⟩
theorem one29 : Tryd.prog.cellsOf 29 = 1 := by kernel_rfl
theorem open_rows {r : Reach} {v : Value} {d : DataW H} {p : List MemPlace} (hv : Value.okWide Tryd.prog W r b0 63 v) (h : DataW.Trod enc Tryd.prog W base sp held 63 v d p) :
    ∃ (A : Option Addr) (l : List (List S24)) (c : Nat), v = .slice A l.length c ∧ Kd.C (Kd.slice 24 k24) W A l.length l ∧ l.length ≤ c ∧ ∀ x ∈ l, ∀ s ∈ x, okStep s := by
  obtain ⟨a, n, c, rfl⟩ := okWide_slice Tryd.underlying63 hv
  obtain ⟨fuel, hf⟩ := h
  obtain ⟨A, l, c', e, h1, h2, h3⟩ := open_row (Kd.slice 24 k24) (fun x => ∀ s ∈ x, okStep s) Tryd.underlying63 one29 (fun fuel cs y hy => by
    obtain ⟨A, l, c, e, h1, h2, h3⟩ := open_row k24 okStep Tryd.underlying29 cells24 (fun _ _ _ => core24) hy
    exact ⟨l, ⟨A, c, e, h2, h1⟩, h3⟩) hf
  exact ⟨A, l, c', List.singleton_inj.1 e, h1, h2, h3⟩
end
end Go.Proofs.YtboommbclbjlnaaDoor.RowA
end
