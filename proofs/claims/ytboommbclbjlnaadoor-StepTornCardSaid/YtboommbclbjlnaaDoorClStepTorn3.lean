-- Packed by pack.py, a program of this session, out of texts of this claim.
import Derived.Test.YtboommbclbjlnaaDoorPlBytes
import Derived.Test.YtboommbclbjlnaaDoorPlCrc
import Derived.Test.YtboommbclbjlnaaDoorClStepTorn1
import Derived.Test.YtboommbclbjlnaaDoorPlRunes
import Derived.Test.YtboommbclbjlnaaDoorPlBurst
import Derived.Test.YtboommbclbjlnaaDoorClStepTorn2
import Derived.Test.YtboommbclbjlnaaDoorRows
import Derived.Test.YtboommbclbjlnaaDoorLfValid
import Derived.Lib.LaidU8T
import Derived.Lib.LaidTab
import Derived.PinnedBridge
import Derived.WalkKit
import Derived.ProofKit
import Derived.OpenShut
import Derived.ChangeOld
import Derived.Below
import Derived.SizedLaws
import Derived.Carry
import Derived.Deep.DeepHandedRow
import Derived.Deep.DeepWitnessRowRef
import Derived.Deep.Fields
import Derived.Lib.SmallJoins
import Derived.Deep.Slices
section
namespace Go.Proofs.YtboommbclbjlnaaDoor.Pu
open Go Go.RowKit Go.Proofs.YtboommbclbjlnaaDoor.Pl Go.Proofs.YtboommbclbjlnaaDoor.Lf Go.Proofs.YtboommbclbjlnaaDoor.Fn Go.Proofs.YtboommbclbjlnaaDoorW.PrintWords
theorem u64_nat (n : Nat) (h : n < 18446744073709551616) : IntKind.u64.wrap (n : Int) = (n : Int) := by
 simp [IntKind.wrap, IntKind.bits, IntKind.signed]; omega
theorem w64 (x : Int) (h0 : -9223372036854775808 ≤ x) (h1 : x < 9223372036854775808) : wrap64 x = x := by unfold wrap64; omega
theorem str_put (n m : Nat) : strOfNums (Go.Proofs.YtboommbclbjlnaaDoor.Lf.bytesOf (n : Int) m) = ba (putN n m) := by
 unfold strOfNums Go.Proofs.YtboommbclbjlnaaDoor.Lf.bytesOf putN ba
 rw [List.map_map]
 congr 2
theorem put_eq (n : Nat) (h : n < 18446744073709551616) (m : Int) : le_Put.f (n : Int) m = some (ba (putN n (many8 m))) := by
 unfold le_Put.f
 rw [if_pos ⟨by omega, by omega⟩, str_put]
theorem bx (a b : BitVec 32) : bits .xor .u32 ((a.toNat : Nat) : Int) ((b.toNat : Nat) : Int) = (((a ^^^ b).toNat : Nat) : Int) := by
 rw [u32_xor_nat _ _ a.isLt b.isLt, BitVec.toNat_xor]
theorem nib_eq (r : BitVec 32) : nib ((r.toNat : Nat) : Int) = (((ticks 4 r).toNat : Nat) : Int) := by
 unfold nib
 have e1 : ((r.toNat : Nat) : Int) / (16 : Int) = (((r >>> 4).toNat : Nat) : Int) := by
  rw [BitVec.toNat_ushiftRight, Nat.shiftRight_eq_div_pow]; omega
 have e2 : bits .and .u32 ((r.toNat : Nat) : Int) 15 = (((r &&& 15#32).toNat : Nat) : Int) := by
  have := u32_and_nat r.toNat 15 r.isLt (by omega)
  rw [show ((15 : Nat) : Int) = 15 from rfl] at this
  rw [this, BitVec.toNat_and]; rfl
 have e3 : ((tabL.getD ((r &&& 15#32).toNat : Int).toNat 0 : Nat) : Int) = (((ticks 4 (r &&& 15#32)).toNat : Nat) : Int) := by
  have hlt : (r &&& 15#32).toNat < 16 := by
   rw [BitVec.toNat_and]; exact Nat.and_lt_two_pow (n := 4) _ (by decide)
  have key : ∀ i : Fin 16, tabL.getD i.val 0 = (ticks 4 (BitVec.ofNat 32 i.val)).toNat := by decide +kernel
  have := key ⟨(r &&& 15#32).toNat, hlt⟩
  simp only [BitVec.ofNat_toNat, BitVec.setWidth_eq] at this
  rw [Int.toNat_natCast, this]
 rw [e1, e2, e3, bx, ← ticks4_split]
theorem byteStep_eq (r : BitVec 32) (c : UInt8) : byteStep ((r.toNat : Nat) : Int) c = (((crcB r c).toNat : Nat) : Int) := by
 unfold byteStep crcB
 have hc := c.toNat_lt
 have e : (c.toNat : Int) % 4294967296 = (((BitVec.ofNat 32 c.toNat).toNat : Nat) : Int) := by
  rw [BitVec.toNat_ofNat, Nat.mod_eq_of_lt (by omega)]; omega
 rw [e, bx, nib_eq, nib_eq, ← ticks8]
theorem sumI_eq (l : List UInt8) : sumI l = (((crcR (BitVec.allOnes 32) l).toNat : Nat) : Int) := by
 have key : ∀ (l : List UInt8) (r : BitVec 32), l.foldl byteStep ((r.toNat : Nat) : Int) = (((crcR r l).toNat : Nat) : Int) := by
  intro l
  induction l with
  | nil => intro r; rfl
  | cons c l ih => intro r; rw [List.foldl_cons, byteStep_eq, ih]; rfl
 exact key l (BitVec.allOnes 32)
theorem not_eq (r : BitVec 32) : bits .xor .u32 4294967295 ((r.toNat : Nat) : Int) = (((~~~r).toNat : Nat) : Int) := by
 have := bx (BitVec.allOnes 32) r
 rw [BitVec.allOnes_xor] at this
 exact this
theorem not_eq' (r : BitVec 32) : bits .xor .u32 ((r.toNat : Nat) : Int) 4294967295 = (((~~~r).toNat : Nat) : Int) := by
 have := bx r (BitVec.allOnes 32)
 rw [BitVec.xor_allOnes] at this
 exact this
theorem sum_eq (l : List UInt8) (h : l.length ≤ 9223372036854775807) : seal_Sum.f (ba l) = some (((crc l).toNat : Nat) : Int) := by
 unfold seal_Sum.f
 rw [ba_size, if_pos h, ba_list, sumI_eq, not_eq]
 rfl
def sealed (l : List UInt8) : List UInt8 := l ++ putN (crc l).toNat 4
theorem sealed_length (l : List UInt8) : (sealed l).length = l.length + 4 := by simp [sealed, putN_length]
theorem seal_put_eq (l : List UInt8) (h : l.length ≤ 1000000000) : seal_Put.f (ba l) = some (ba (sealed l)) := by
 unfold seal_Put.f
 have hc := (crc l).isLt
 rw [sum_eq l (by omega), Option.bind_some, u64_nat _ (by omega), put_eq _ (by omega), Option.bind_some]
 have : many8 4 = 4 := by decide
 rw [this, ba_size, ba_size, putN_length, if_pos (by omega), ba_append]
 rfl
theorem bt_ba (l : List UInt8) (i : Nat) (h : i < l.length) : bt (ba l) (i : Int) = ((l[i]'h).toNat : Int) := by
 unfold bt
 have h2 : (i : Int).toNat < (ba l).size := by rw [ba_size]; simpa using h
 rw [dif_pos h2]
 have : (ba l)[(i : Int).toNat]'h2 = l[i]'h := by
  show (ba l).data[(i : Int).toNat]'h2 = _
  simp [ba]
 rw [this]
end Go.Proofs.YtboommbclbjlnaaDoor.Pu
end
section
namespace Go.Proofs.YtboommbclbjlnaaDoor.Pu
open Go Go.Lib Go.RowKit Go.Proofs.YtboommbclbjlnaaDoor.Pl Go.Proofs.YtboommbclbjlnaaDoor.Lf Go.Proofs.YtboommbclbjlnaaDoor.Fn Go.Proofs.YtboommbclbjlnaaDoorW.PrintWords
theorem bt_all (l : List UInt8) (i : Nat) : bt (ba l) (i : Int) = ((l.getD i 0).toNat : Int) := by
 by_cases h : i < l.length
 ·rw [bt_ba l i h, List.getD_eq_getElem?_getD, List.getElem?_eq_getElem h]; rfl
 ·unfold bt
  rw [dif_neg (by rw [ba_size]; simpa using h), List.getD_eq_getElem?_getD, List.getElem?_eq_none (by omega)]
  rfl
def refN (n b0 b1 b2 b3 : Nat) : Int × Int :=
 if b0 < 128 then ((b0 : Int), 1)
 else if (194 ≤ b0 ∧ b0 ≤ 223) ∧ (1 < n ∧ 128 ≤ b1 ∧ b1 ≤ 191) then (((b0 : Int) - 192) * 64 + b1 - 128, 2)
 else if (224 ≤ b0 ∧ b0 ≤ 239) ∧ (1 < n ∧ 128 ≤ b1 ∧ b1 ≤ 191) ∧ (2 < n ∧ 128 ≤ b2 ∧ b2 ≤ 191) ∧ (2048 ≤ ((b0 : Int) - 224) * 4096 + ((b1 : Int) - 128) * 64 + b2 - 128 ∧ ¬ (55296 ≤ ((b0 : Int) - 224) * 4096 + ((b1 : Int) - 128) * 64 + b2 - 128 ∧ ((b0 : Int) - 224) * 4096 + ((b1 : Int) - 128) * 64 + b2 - 128 ≤ 57343)) then (((b0 : Int) - 224) * 4096 + ((b1 : Int) - 128) * 64 + b2 - 128, 3)
 else if (240 ≤ b0 ∧ b0 ≤ 244) ∧ (1 < n ∧ 128 ≤ b1 ∧ b1 ≤ 191) ∧ (2 < n ∧ 128 ≤ b2 ∧ b2 ≤ 191) ∧ (3 < n ∧ 128 ≤ b3 ∧ b3 ≤ 191) ∧ (65536 ≤ ((b0 : Int) - 240) * 262144 + ((b1 : Int) - 128) * 4096 + ((b2 : Int) - 128) * 64 + b3 - 128 ∧ ((b0 : Int) - 240) * 262144 + ((b1 : Int) - 128) * 4096 + ((b2 : Int) - 128) * 64 + b3 - 128 ≤ 1114111) then (((b0 : Int) - 240) * 262144 + ((b1 : Int) - 128) * 4096 + ((b2 : Int) - 128) * 64 + b3 - 128, 4)
 else (-1, 1)
theorem wb (b : Nat) (h : b < 256) : wrap64 (b : Int) = b := by unfold wrap64; omega
theorem wa2 (b0 b1 : Nat) (h0 : b0 < 256) (h1 : b1 < 256) : wrap64 (wrap64 (wrap64 (wrap64 ((b0 : Int) - 192) * 64) + b1) - 128) = ((b0 : Int) - 192) * 64 + b1 - 128 := by unfold wrap64; omega
theorem wa3 (b0 b1 b2 : Nat) (h0 : b0 < 256) (h1 : b1 < 256) (h2 : b2 < 256) : wrap64 (wrap64 (wrap64 (wrap64 (wrap64 ((b0 : Int) - 224) * 4096) + wrap64 (wrap64 ((b1 : Int) - 128) * 64)) + b2) - 128) = ((b0 : Int) - 224) * 4096 + ((b1 : Int) - 128) * 64 + b2 - 128 := by unfold wrap64; omega
theorem wa4 (b0 b1 b2 b3 : Nat) (h0 : b0 < 256) (h1 : b1 < 256) (h2 : b2 < 256) (h3 : b3 < 256) : wrap64 (wrap64 (wrap64 (wrap64 (wrap64 (wrap64 ((b0 : Int) - 240) * 262144) + wrap64 (wrap64 ((b1 : Int) - 128) * 4096)) + wrap64 (wrap64 ((b2 : Int) - 128) * 64)) + b3) - 128) = ((b0 : Int) - 240) * 262144 + ((b1 : Int) - 128) * 4096 + ((b2 : Int) - 128) * 64 + b3 - 128 := by unfold wrap64; omega
def c3 (b0 b1 b2 : Nat) : Int := ((b0 : Int) - 224) * 4096 + ((b1 : Int) - 128) * 64 + b2 - 128
def c4 (b0 b1 b2 b3 : Nat) : Int := ((b0 : Int) - 240) * 262144 + ((b1 : Int) - 128) * 4096 + ((b2 : Int) - 128) * 64 + b3 - 128
section
variable (s : ByteArray) (n b0 b1 b2 b3 : Nat) (h0 : b0 < 256) (h1 : b1 < 256) (h2 : b2 < 256) (h3 : b3 < 256) (S : (s.size : Int) = n)
  (B0 : bt s 0 = b0) (B1 : bt s 1 = b1) (B2 : bt s 2 = b2) (B3 : bt s 3 = b3)
include h0 h1 h2 h3 S B1 B2 B3
theorem rj3 (k : Nat) (q : Bool) (hq : q = true → 3 < n) : r1_Rune.j3 (k + 1) s b0 q = some (if q = true ∧ (65536 ≤ c4 b0 b1 b2 b3 ∧ c4 b0 b1 b2 b3 ≤ 1114111) then (c4 b0 b1 b2 b3, 4) else (-1, 1)) := by
 cases q
 ·rfl
 ·have hn := hq rfl
  have g1 : (1 : Int) < n := by omega
  have g2 : (2 : Int) < n := by omega
  have g3 : (3 : Int) < n := by omega
  simp only [r1_Rune.j3, S, if_pos g1, if_pos g2, if_pos g3, if_true, B1, B2, B3, wb b1 h1, wb b2 h2, wb b3 h3, wa4 b0 b1 b2 b3 h0 h1 h2 h3]
  show (if c4 b0 b1 b2 b3 ≥ 65536 then _ else _) = _
  by_cases x : c4 b0 b1 b2 b3 ≥ 65536
  ·rw [if_pos x]
   by_cases y : c4 b0 b1 b2 b3 ≤ 1114111
   ·rw [if_pos (show ((b0 : Int) - 240) * 262144 + ((b1 : Int) - 128) * 4096 + ((b2 : Int) - 128) * 64 + b3 - 128 ≤ 1114111 from y), if_pos ⟨trivial, x, y⟩]; rfl
   ·rw [if_neg (show ¬ ((b0 : Int) - 240) * 262144 + ((b1 : Int) - 128) * 4096 + ((b2 : Int) - 128) * 64 + b3 - 128 ≤ 1114111 from y), if_neg (fun h => y h.2.2)]
  ·rw [if_neg x, if_neg (fun h => x h.2.1)]
variable (m1 m2 m3 : Bool) (M1 : r1_more.f s 1 = some m1) (M2 : r1_more.f s 2 = some m2) (M3 : r1_more.f s 3 = some m3) (q1 : m1 = true → 1 < n) (q2 : m2 = true → 2 < n) (q3 : m3 = true → 3 < n)
include M1 M2 M3 q3
theorem rj2 (k : Nat) : r1_Rune.j2 (k + 2) s b0 = some (if (240 ≤ b0 ∧ b0 ≤ 244) ∧ m1 = true ∧ m2 = true ∧ m3 = true ∧ (65536 ≤ c4 b0 b1 b2 b3 ∧ c4 b0 b1 b2 b3 ≤ 1114111) then (c4 b0 b1 b2 b3, 4) else (-1, 1)) := by
 have J := fun q hq => rj3 s n b0 b1 b2 b3 h0 h1 h2 h3 S B1 B2 B3 k q hq
 have Jf := J false (fun h => by cases h)
 have J3 := J m3 q3
 rw [if_neg (by simp)] at Jf
 simp only [r1_Rune.j2, M1, M2, M3, Option.bind_some]
 by_cases x : 240 ≤ b0
 ·rw [if_pos (show (b0 : Int) ≥ 240 by omega)]
  by_cases y : b0 ≤ 244
  ·rw [if_pos (show (b0 : Int) ≤ 244 by omega)]
   cases m1
   ·rw [if_neg (by decide), Jf, if_neg (by simp)]
   ·cases m2
    ·rw [if_pos rfl, if_neg (by decide), Jf, if_neg (by simp)]
    ·rw [if_pos rfl, if_pos rfl, J3]
     congr 1
     by_cases z : m3 = true ∧ (65536 ≤ c4 b0 b1 b2 b3 ∧ c4 b0 b1 b2 b3 ≤ 1114111)
     ·rw [if_pos z, if_pos ⟨⟨x, y⟩, rfl, rfl, z⟩]
     ·rw [if_neg z, if_neg (fun h => z h.2.2.2)]
  ·rw [if_neg (show ¬ (b0 : Int) ≤ 244 by omega), Jf, if_neg (fun h => y h.1.2)]
 ·rw [if_neg (show ¬ (b0 : Int) ≥ 240 by omega), Jf, if_neg (fun h => x h.1.1)]
include q2
theorem rj1 (k : Nat) (q : Bool) (hq : q = true → m2 = true) : r1_Rune.j1 (k + 3) s b0 q = some (if q = true ∧ (2048 ≤ c3 b0 b1 b2 ∧ ¬ (55296 ≤ c3 b0 b1 b2 ∧ c3 b0 b1 b2 ≤ 57343)) then (c3 b0 b1 b2, 3) else if (240 ≤ b0 ∧ b0 ≤ 244) ∧ m1 = true ∧ m2 = true ∧ m3 = true ∧ (65536 ≤ c4 b0 b1 b2 b3 ∧ c4 b0 b1 b2 b3 ≤ 1114111) then (c4 b0 b1 b2 b3, 4) else (-1, 1)) := by
 have J2 := rj2 s n b0 b1 b2 b3 h0 h1 h2 h3 S B1 B2 B3 m1 m2 m3 M1 M2 M3 q3 k
 cases q
 ·rw [if_neg (by simp), ← J2]
  simp only [r1_Rune.j1]
  rw [if_neg (by decide)]
 ·have hn := q2 (hq rfl)
  have g1 : (1 : Int) < n := by omega
  have g2 : (2 : Int) < n := by omega
  simp only [r1_Rune.j1, S, if_pos g1, if_pos g2, if_true, B1, B2, wb b1 h1, wb b2 h2, wa3 b0 b1 b2 h0 h1 h2]
  show (if c3 b0 b1 b2 ≥ 2048 then (if c3 b0 b1 b2 ≥ 55296 then (if c3 b0 b1 b2 ≤ 57343 then _ else some (c3 b0 b1 b2, 3)) else some (c3 b0 b1 b2, 3)) else _) = _
  by_cases x : c3 b0 b1 b2 ≥ 2048
  ·rw [if_pos x]
   by_cases y : c3 b0 b1 b2 ≥ 55296
   ·rw [if_pos y]
    by_cases z : c3 b0 b1 b2 ≤ 57343
    ·rw [if_pos z, if_neg (fun h => h.2.2 ⟨y, z⟩)]; exact J2
    ·rw [if_neg z, if_pos ⟨trivial, x, fun h => z h.2⟩]
   ·rw [if_neg y, if_pos ⟨trivial, x, fun h => y h.1⟩]
  ·rw [if_neg x, if_neg (fun h => x h.2.1)]; exact J2
include q1
theorem rj0 (k : Nat) (q : Bool) (hq : q = true → m1 = true) : r1_Rune.j0 (k + 4) s b0 q = some (if q = true then (((b0 : Int) - 192) * 64 + b1 - 128, 2) else if ((224 ≤ b0 ∧ b0 ≤ 239) ∧ m1 = true ∧ m2 = true) ∧ (2048 ≤ c3 b0 b1 b2 ∧ ¬ (55296 ≤ c3 b0 b1 b2 ∧ c3 b0 b1 b2 ≤ 57343)) then (c3 b0 b1 b2, 3) else if (240 ≤ b0 ∧ b0 ≤ 244) ∧ m1 = true ∧ m2 = true ∧ m3 = true ∧ (65536 ≤ c4 b0 b1 b2 b3 ∧ c4 b0 b1 b2 b3 ≤ 1114111) then (c4 b0 b1 b2 b3, 4) else (-1, 1)) := by
 have J := fun q hq => rj1 s n b0 b1 b2 b3 h0 h1 h2 h3 S B1 B2 B3 m1 m2 m3 M1 M2 M3 q2 q3 k q hq
 revert J
 generalize (if (240 ≤ b0 ∧ b0 ≤ 244) ∧ m1 = true ∧ m2 = true ∧ m3 = true ∧ (65536 ≤ c4 b0 b1 b2 b3 ∧ c4 b0 b1 b2 b3 ≤ 1114111) then (c4 b0 b1 b2 b3, 4) else ((-1 : Int), (1 : Int))) = E
 intro J
 have Jf := J false (fun h => by cases h)
 rw [if_neg (by simp)] at Jf
 have J2 := J m2 (fun h => h)
 cases q
 ·rw [if_neg (by decide)]
  simp only [r1_Rune.j0, M1, M2, Option.bind_some]
  rw [if_neg (by decide)]
  by_cases x : 224 ≤ b0
  ·rw [if_pos (show (b0 : Int) ≥ 224 by omega)]
   by_cases y : b0 ≤ 239
   ·rw [if_pos (show (b0 : Int) ≤ 239 by omega)]
    cases m1
    ·rw [if_neg (by decide), Jf, if_neg (by simp)]
    ·rw [if_pos rfl, J2]
     congr 1
     by_cases z : m2 = true ∧ (2048 ≤ c3 b0 b1 b2 ∧ ¬ (55296 ≤ c3 b0 b1 b2 ∧ c3 b0 b1 b2 ≤ 57343))
     ·rw [if_pos z, if_pos ⟨⟨⟨x, y⟩, rfl, z.1⟩, z.2⟩]
     ·rw [if_neg z, if_neg (fun h => z ⟨h.1.2.2, h.2⟩)]
   ·rw [if_neg (show ¬ (b0 : Int) ≤ 239 by omega), Jf, if_neg (fun h => y h.1.1.2)]
  ·rw [if_neg (show ¬ (b0 : Int) ≥ 224 by omega), Jf, if_neg (fun h => x h.1.1.1)]
 ·have hn := q1 (hq rfl)
  have g1 : (1 : Int) < n := by omega
  simp only [r1_Rune.j0, S, if_pos g1, if_true, B1, wb b1 h1, wa2 b0 b1 h0 h1]
include B0
theorem rune_N (hn : 1 ≤ n) (k : Nat) : r1_Rune.f (k + 4) s = some (if b0 < 128 then ((b0 : Int), 1) else if (194 ≤ b0 ∧ b0 ≤ 223) ∧ m1 = true then (((b0 : Int) - 192) * 64 + b1 - 128, 2) else if ((224 ≤ b0 ∧ b0 ≤ 239) ∧ m1 = true ∧ m2 = true) ∧ (2048 ≤ c3 b0 b1 b2 ∧ ¬ (55296 ≤ c3 b0 b1 b2 ∧ c3 b0 b1 b2 ≤ 57343)) then (c3 b0 b1 b2, 3) else if (240 ≤ b0 ∧ b0 ≤ 244) ∧ m1 = true ∧ m2 = true ∧ m3 = true ∧ (65536 ≤ c4 b0 b1 b2 b3 ∧ c4 b0 b1 b2 b3 ≤ 1114111) then (c4 b0 b1 b2 b3, 4) else (-1, 1)) := by
 have J := fun q hq => rj0 s n b0 b1 b2 b3 h0 h1 h2 h3 S B1 B2 B3 m1 m2 m3 M1 M2 M3 q1 q2 q3 k q hq
 revert J
 generalize (if ((224 ≤ b0 ∧ b0 ≤ 239) ∧ m1 = true ∧ m2 = true) ∧ (2048 ≤ c3 b0 b1 b2 ∧ ¬ (55296 ≤ c3 b0 b1 b2 ∧ c3 b0 b1 b2 ≤ 57343)) then (c3 b0 b1 b2, (3 : Int)) else (if (240 ≤ b0 ∧ b0 ≤ 244) ∧ m1 = true ∧ m2 = true ∧ m3 = true ∧ (65536 ≤ c4 b0 b1 b2 b3 ∧ c4 b0 b1 b2 b3 ≤ 1114111) then (c4 b0 b1 b2 b3, 4) else ((-1 : Int), (1 : Int)))) = E
 intro J
 have Jf := J false (fun h => by cases h)
 rw [if_neg (by simp)] at Jf
 have J1 := J m1 (fun h => h)
 have g0 : (0 : Int) < n := by omega
 simp only [r1_Rune.f, S, if_pos g0, B0, wb b0 h0, M1, Option.bind_some]
 by_cases w : b0 < 128
 ·rw [if_pos (show (b0 : Int) < 128 by omega), if_pos w]
 ·rw [if_neg (show ¬ (b0 : Int) < 128 by omega), if_neg w]
  by_cases x : 194 ≤ b0
  ·rw [if_pos (show (b0 : Int) ≥ 194 by omega)]
   by_cases y : b0 ≤ 223
   ·rw [if_pos (show (b0 : Int) ≤ 223 by omega), J1]
    congr 1
    by_cases z : m1 = true
    ·rw [if_pos z, if_pos ⟨⟨x, y⟩, z⟩]
    ·rw [if_neg z, if_neg (fun h => z h.2)]
   ·rw [if_neg (show ¬ (b0 : Int) ≤ 223 by omega), Jf, if_neg (fun h => y h.1.2)]
  ·rw [if_neg (show ¬ (b0 : Int) ≥ 194 by omega), Jf, if_neg (fun h => x h.1.1)]
end
def rr (l : List UInt8) : Int × Int := if (decodeL l).1 = 65533 ∧ (decodeL l).2 = 1 then (-1, 1) else (((decodeL l).1 : Int), ((decodeL l).2 : Int))
theorem rr_width (l : List UInt8) (_hl : l ≠ []) : (rr l).2 = (((decodeL l).2 : Nat) : Int) := by
 unfold rr
 by_cases h : (decodeL l).1 = 65533 ∧ (decodeL l).2 = 1
 ·rw [if_pos h, h.2]; rfl
 ·rw [if_neg h]
theorem rr_bad (l : List UInt8) : ((rr l).1 < 0) = ((decodeL l).1 = 65533 ∧ (decodeL l).2 = 1) := by
 unfold rr
 by_cases h : (decodeL l).1 = 65533 ∧ (decodeL l).2 = 1
 ·rw [if_pos h]; simp [h]
 ·rw [if_neg h]; simp [h]
def fineB (b : UInt8) : Bool := decide (32 ≤ b.toNat) && !(b.toNat == 127)
theorem shape (l : List UInt8) (hl : l ≠ []) (hv : ¬ ((decodeL l).1 = 65533 ∧ (decodeL l).2 = 1)) :
  (∃ (b : UInt8) (r : List UInt8), l = b :: r ∧ b.toNat < 128 ∧ decodeL l = (b.toNat, 1)) ∨ ((∀ b ∈ l.take (decodeL l).2, 128 ≤ b.toNat) ∧ 128 ≤ (decodeL l).1) := by
 have h0 := (l.getD 0 0).toNat_lt
 have h1 := (l.getD 1 0).toNat_lt
 have h2 := (l.getD 2 0).toNat_lt
 have h3 := (l.getD 3 0).toNat_lt
 have hlen : 0 < l.length := List.length_pos_iff.2 hl
 rw [decodeL_N] at hv ⊢
 have at_ : ∀ i, i < l.length → l[i]? = some (l.getD i 0) := fun i hi => by
  rw [List.getD_eq_getElem?_getD, List.getElem?_eq_getElem hi]; rfl
 have tk : ∀ w, w ≤ 4 → (∀ i, i < w → 128 ≤ (l.getD i 0).toNat) → ∀ b ∈ l.take w, 128 ≤ b.toNat := by
  intro w _ hw b hb
  obtain ⟨i, hi, e⟩ := List.mem_take_iff_getElem.1 hb
  have hi1 : i < w := by omega
  have := hw i hi1
  rw [List.getD_eq_getElem?_getD, List.getElem?_eq_getElem (by omega)] at this
  rw [← e]
  exact this
 rcases decodeN_shape l.length (l.getD 0 0).toNat (l.getD 1 0).toNat (l.getD 2 0).toNat (l.getD 3 0).toNat with ⟨c, e⟩ | ⟨c1, c2, c3, cv, e⟩ | ⟨c1, c2, c3, c4, cv, cs, e⟩ | ⟨c1, c2, c3, c4, c5, cv, cw, e⟩ | e
 ·left
  cases l with
  | nil => exact absurd rfl hl
  | cons b r => exact ⟨b, r, rfl, c, e⟩
 ·right
  rw [e]
  refine ⟨tk 2 (by omega) (fun i hi => ?_), cv⟩
  have : i = 0 ∨ i = 1 := by omega
  rcases this with rfl | rfl <;> omega
 ·right
  rw [e]
  refine ⟨tk 3 (by omega) (fun i hi => ?_), by simp only; omega⟩
  have : i = 0 ∨ i = 1 ∨ i = 2 := by omega
  rcases this with rfl | rfl | rfl <;> omega
 ·right
  rw [e]
  refine ⟨tk 4 (by omega) (fun i hi => ?_), by simp only; omega⟩
  have : i = 0 ∨ i = 1 ∨ i = 2 ∨ i = 3 := by omega
  rcases this with rfl | rfl | rfl | rfl <;> omega
 ·exact absurd (by rw [e]; exact ⟨rfl, rfl⟩) hv
theorem bytes_fine (l : List UInt8) (hv : validD l = true) : (runes l).all fine = l.all fineB := by
 induction hn : l.length using Nat.strongRecOn generalizing l with
 | _ n ih =>
  by_cases e : l = []
  ·subst e; rfl
  ·have hs := drop_short l e
   rw [validD_step l e] at hv
   by_cases hb : (decodeL l).1 = 65533 ∧ (decodeL l).2 = 1
   ·rw [if_pos hb] at hv; exact absurd hv (by decide)
   ·rw [if_neg hb] at hv
    have h := ih _ (by omega) (l.drop (decodeL l).2) hv rfl
    rw [runes_cons l e, List.all_cons, h]
    conv => rhs; rw [← List.take_append_drop (decodeL l).2 l, List.all_append]
    congr 1
    rcases shape l e hb with ⟨b, r, rfl, hb1, hd⟩ | ⟨h1, h2⟩
    ·rw [hd]
     simp only [List.take_succ_cons, List.take_zero, List.all_cons, List.all_nil, Bool.and_true]
     rfl
    ·have : fine (decodeL l) = true := by unfold fine; rw [decide_eq_true (by omega)]; simp; omega
     rw [this]
     symm
     rw [List.all_eq_true]
     intro b hb
     have := h1 b hb
     unfold fineB; rw [decide_eq_true (by omega)]; simp; omega
theorem rightB_bytes (l : List UInt8) : rightB l = (validD l && (!l.isEmpty && (decide ((runes l).length ≤ 24) && (!(l.headD 0).toNat == 32 && (!(l.getLastD 0).toNat == 32 && l.all fineB))))) := by
 unfold rightB
 cases hv : validD l
 ·simp
 ·rw [bytes_fine l hv]
  cases l.all fineB <;> simp
theorem right_eq (l : List UInt8) (h : l.length ≤ 1000000000) : label_Right.f (ba l) = some (rightB l) := by
 unfold label_Right.f
 rw [ba_size, if_pos (by omega), ba_list]
def numB (n : Int) : Bool := decide (0 ≤ n) && decide (n ≤ 2147483647)
def rightS (kind a b : Int) (t : List UInt8) : Bool := (t.isEmpty || (kind == 1 && rightB t)) && (decide (1 ≤ kind) && (decide (kind ≤ 8) && (numB a && numB b)))
theorem number_eq (n : Int) : step_number.f n = some (numB n) := by
 unfold step_number.f numB
 by_cases h : 0 ≤ n
 ·rw [if_pos h, decide_eq_true h, Bool.true_and]
 ·rw [if_neg h, decide_eq_false h, Bool.false_and]
theorem right_j (kind a b n : Int) (t : ByteArray) (q : Bool) : Ev (fun k => step_Right.j0 k q kind a b n t) (!q && (decide (1 ≤ kind) && (decide (kind ≤ 8) && (numB a && numB b)))) := by
 refine Ev.step (f := fun _ => some (!q && (decide (1 ≤ kind) && (decide (kind ≤ 8) && (numB a && numB b))))) (fun k => ?_) (Ev.now _)
 simp only [step_Right.j0, number_eq, Option.bind_some]
 cases q
 ·rw [if_neg (by decide)]
  by_cases h1 : 1 ≤ kind
  ·rw [if_pos h1, decide_eq_true h1]
   by_cases h2 : kind ≤ 8
   ·rw [if_pos h2, decide_eq_true h2]
    cases numB a <;> simp
   ·rw [if_neg h2, decide_eq_false h2]; rfl
  ·rw [if_neg h1, decide_eq_false h1]; rfl
 ·rfl
theorem step_right (kind a b n : Int) (l : List UInt8) (hl : l.length ≤ 1000000000) : Ev (fun k => step_Right.f k kind a b n (ba l)) (rightS kind a b l) := by
 unfold rightS
 by_cases e : l = []
 ·subst e
  refine Ev.congr (fun k => ?_) (right_j kind a b n (ba []) false)
  unfold step_Right.f
  rw [ba_toList, if_pos rfl]
 ·have hie : l.isEmpty = false := by simpa using e
  rw [hie, Bool.false_or]
  by_cases h1 : kind = 1
  ·subst h1
   have hj := right_j 1 a b n (ba l) (!rightB l)
   rw [Bool.not_not] at hj
   refine Ev.congr (fun k => ?_) hj
   unfold step_Right.f
   rw [ba_toList, if_neg e, if_pos rfl, right_eq l hl, Option.bind_some]
  ·rw [show (kind == 1) = false by simpa using h1, Bool.false_and]
   refine Ev.congr (fun k => ?_) (right_j kind a b n (ba l) true)
   unfold step_Right.f
   rw [ba_toList, if_neg e, if_neg h1]
theorem tail_eq (kind a b : Int) : (if kind ≥ 1 then (if kind ≤ 8 then (if a ≥ 0 then (if a ≤ 2147483647 then (if b ≥ 0 then (some (decide (b ≤ 2147483647))) else (some false)) else (some false)) else (some false)) else (some false)) else (some false)) = some (decide (1 ≤ kind) && (decide (kind ≤ 8) && (numB a && numB b))) := by
 unfold numB
 by_cases h1 : 1 ≤ kind
 ·rw [if_pos h1, decide_eq_true h1]
  by_cases h2 : kind ≤ 8
  ·rw [if_pos h2, decide_eq_true h2]
   by_cases h3 : 0 ≤ a
   ·rw [if_pos h3, decide_eq_true h3]
    by_cases h4 : a ≤ 2147483647
    ·rw [if_pos h4, decide_eq_true h4]
     by_cases h5 : 0 ≤ b
     ·rw [if_pos h5, decide_eq_true h5]; simp
     ·rw [if_neg h5, decide_eq_false h5]; simp
    ·rw [if_neg h4, decide_eq_false h4]; simp
   ·rw [if_neg h3, decide_eq_false h3]; simp
  ·rw [if_neg h2, decide_eq_false h2]; simp
 ·rw [if_neg h1, decide_eq_false h1]; simp
def bodyS (kind a b n : Nat) (t : List UInt8) : List UInt8 := putN kind 1 ++ putN a 4 ++ putN b 4 ++ putN n 8 ++ t
def recordS (kind a b n : Nat) (t : List UInt8) : List UInt8 := putN (sealed (bodyS kind a b n t)).length 2 ++ sealed (bodyS kind a b n t)
theorem bodyS_length (kind a b n : Nat) (t : List UInt8) : (bodyS kind a b n t).length = 17 + t.length := by simp [bodyS, putN_length]; omega
theorem recordS_length (kind a b n : Nat) (t : List UInt8) : (recordS kind a b n t).length = 23 + t.length := by simp [recordS, putN_length, sealed_length, bodyS_length]; omega
theorem bodyS_is (kk a b n : Nat) (l : List UInt8) : putN kk 1 ++ putN a 4 ++ putN b 4 ++ putN n 8 ++ l = bodyS kk a b n l := by unfold bodyS; rfl
theorem seal_body (kk a b n : Nat) (l : List UInt8) (hl : l.length ≤ 100000000) : seal_Put.f (ba (bodyS kk a b n l)) = some (ba (sealed (bodyS kk a b n l))) := by
 have hb := bodyS_length kk a b n l
 exact seal_put_eq _ (by omega)
theorem size_body (kk a b n : Nat) (l : List UInt8) (hl : l.length ≤ 100000000) : (sealed (bodyS kk a b n l)).length < 18446744073709551616 := by
 have hb := bodyS_length kk a b n l
 have hs := sealed_length (bodyS kk a b n l)
 omega
def putS (kind a b n : Int) (t : List UInt8) : ByteArray × Int := if rightS kind a b t = true then (ba (recordS kind.toNat a.toNat b.toNat n.toNat t), 0) else (ba [], 1)
theorem rightS_bounds {kind a b : Int} {t : List UInt8} (h : rightS kind a b t = true) : (1 ≤ kind ∧ kind ≤ 8) ∧ (0 ≤ a ∧ a ≤ 2147483647) ∧ (0 ≤ b ∧ b ≤ 2147483647) := by
 unfold rightS numB at h
 simp only [Bool.and_eq_true, decide_eq_true_eq] at h
 omega
theorem m1 : many8 1 = 1 := by decide
theorem m2 : many8 2 = 2 := by decide
theorem m4 : many8 4 = 4 := by decide
theorem m8 : many8 8 = 8 := by decide
theorem ev_put (n : Nat) (m : Int) (h : n < 18446744073709551616) : Ev (fun _ => le_Put.f (n : Int) m) (ba (putN n (many8 m))) := Ev.congr (fun _ => put_eq n h m) (Ev.now _)
theorem step_put (kind a b n : Int) (l : List UInt8) (hl : l.length ≤ 100000000) (hn : 0 ≤ n ∧ n < 18446744073709551616) : Ev (fun k => step_Put.f k kind a b n (ba l)) (putS kind a b n l) := by
 have hr := step_right kind a b n l (by omega)
 unfold putS
 by_cases h : rightS kind a b l = true
 ·rw [if_pos h]
  rw [h] at hr
  refine Ev.bind hr ?_
  refine Ev.congr (fun k => if_pos rfl) ?_
  obtain ⟨⟨k1, k2⟩, ⟨a1, a2⟩, ⟨b1, b2⟩⟩ := rightS_bounds h
  obtain ⟨kk, rfl⟩ := Int.eq_ofNat_of_zero_le (show 0 ≤ kind by omega)
  obtain ⟨a, rfl⟩ := Int.eq_ofNat_of_zero_le a1
  obtain ⟨b, rfl⟩ := Int.eq_ofNat_of_zero_le b1
  obtain ⟨n, rfl⟩ := Int.eq_ofNat_of_zero_le hn.1
  simp only [Int.toNat_natCast]
  have hb := bodyS_length kk a b n l
  have hs := sealed_length (bodyS kk a b n l)
  refine Ev.congr (fun k => by rw [u64_nat kk (by omega), u64_nat a (by omega), u64_nat b (by omega)]) (Ev.bind (ev_put kk 1 (by omega)) ?_)
  refine Ev.bind (ev_put a 4 (by omega)) ?_
  refine Ev.congr (fun k => by rw [m1, m4]; simp only [ba_size, putN_length, ba_append]; rw [if_pos (by omega)]) (Ev.bind (ev_put b 4 (by omega)) ?_)
  refine Ev.congr (fun k => by rw [m4]; simp only [ba_size, putN_length, ba_append]; rw [if_pos (by omega)]) (Ev.bind (ev_put n 8 (by omega)) ?_)
  refine Ev.congr (fun k => by rw [m8]; simp only [ba_size, putN_length, ba_append]; rw [if_pos (by omega), if_pos (by omega), bodyS_is]) (Ev.bind (Ev.congr (fun _ => seal_body kk a b n l hl) (Ev.now _)) ?_)
  refine Ev.congr (fun k => by rw [ba_size, u64_nat _ (size_body kk a b n l hl)]) (Ev.bind (ev_put _ 2 (size_body kk a b n l hl)) ?_)
  refine Ev.congr (f := fun _ => some _) (fun k => ?_) (Ev.now _)
  rw [m2]
  simp only [ba_size, putN_length, ba_append]
  rw [if_pos (by omega)]
  unfold recordS
  trivial
 ·rw [if_neg h]
  rw [Bool.eq_false_iff.2 h] at hr
  refine Ev.bind hr ?_
  exact Ev.congr (fun k => by rw [if_neg (by decide)]; rfl) (Ev.now _)
theorem getN_eq (l : List UInt8) : getN l = getB l := by
 induction l with
 | nil => rfl
 | cons c l ih => simp [getN, getB, ih]
theorem get_eq (l : List UInt8) : le_Get.f (ba l) = some ((getB (l.take 8) : Nat) : Int) := by
 unfold le_Get.f
 rw [ba_list, getN_eq]
def unsealed (l : List UInt8) : List UInt8 × Int :=
 if l.length < 4 then ([], 10) else if getB (l.drop (l.length - 4)) = (crc (l.take (l.length - 4))).toNat then (l.take (l.length - 4), 0) else ([], 9)
theorem seal_take_eq (l : List UInt8) (h : l.length ≤ 1000000000) : seal_Take.f (ba l) = some (ba (unsealed l).1, (unsealed l).2) := by
 unfold seal_Take.f unsealed
 rw [ba_size, w64 _ (by omega) (by omega)]
 by_cases h4 : l.length < 4
 ·rw [if_pos (by omega), if_pos h4]; rfl
 ·have e : ((l.length : Int) - 4).toNat = l.length - 4 := by omega
  rw [if_neg (by omega), if_neg h4, if_pos (by omega), if_pos (by omega), e, ← ba_size, ba_drop, ba_size, get_eq, Option.bind_some, ba_take, sum_eq _ (by rw [List.length_take]; omega), Option.bind_some,
   u64_nat _ (by have := (crc (l.take (l.length - 4))).isLt; omega), List.take_of_length_le (by rw [List.length_drop]; omega)]
  by_cases hc : getB (l.drop (l.length - 4)) = (crc (l.take (l.length - 4))).toNat
  ·rw [if_pos (by rw [hc]), if_pos hc]
  ·rw [if_neg (by omega), if_neg hc]; rfl
theorem unsealed_sealed (l : List UInt8) : unsealed (sealed l) = (l, 0) := by
 unfold unsealed
 have h4 : (sealed l).length - 4 = l.length := by rw [sealed_length]; omega
 rw [if_neg (by rw [sealed_length]; omega), h4]
 unfold sealed
 rw [List.drop_left, List.take_left, getB_putN, if_pos]
 have := (crc l).isLt
 omega
theorem sealed_unsealed (l : List UInt8) (h : (unsealed l).2 = 0) : sealed (unsealed l).1 = l ∧ (unsealed l).1.length + 4 = l.length := by
 unfold unsealed at h ⊢
 split at h
 ·cases h
 ·rename_i h4
  rw [if_neg h4]
  split at h
  ·rename_i hc
   rw [if_pos hc]
   refine ⟨?_, by show (l.take _).length + 4 = _; rw [List.length_take]; omega⟩
   show sealed (l.take (l.length - 4)) = l
   unfold sealed
   rw [← hc]
   have h1 := putN_getB (l.drop (l.length - 4))
   rw [List.length_drop, show l.length - (l.length - 4) = 4 by omega] at h1
   rw [h1, List.take_append_drop]
  ·cases h
theorem txt_ok (l : List UInt8) (n : Nat) (h : n ≤ l.length) : le_Reader_Text.f (ba l) false (n : Int) = some (ba (l.take n), ba (l.drop n), false) := by
 unfold le_Reader_Text.f
 rw [if_neg (by decide), if_neg (by omega), ba_size, if_neg (by omega), if_pos (by omega), if_pos (by omega), Int.toNat_natCast, ba_take, ← ba_size, ba_drop, decide_eq_false (by rw [ba_size]; omega)]
theorem txt_short (l : List UInt8) (n : Nat) (h : l.length < n) : le_Reader_Text.f (ba l) false (n : Int) = some (ba [], ba l, true) := by
 unfold le_Reader_Text.f
 rw [if_neg (by decide), if_neg (by omega), ba_size, if_pos (by omega), decide_eq_true (by omega)]
 rfl
theorem txt_true (l : List UInt8) (n : Int) : le_Reader_Text.f (ba l) true n = some (ba [], ba l, true) := by
 unfold le_Reader_Text.f
 rw [if_pos rfl]
 rfl
theorem num_ok (l : List UInt8) (m : Nat) (hm : m ≤ 8) (h : m ≤ l.length) : le_Reader_Number.f (ba l) false (m : Int) = some (((getB (l.take m) : Nat) : Int), ba (l.drop m), false) := by
 unfold le_Reader_Number.f
 rw [if_neg (by omega), txt_ok l m h, Option.bind_some, get_eq, Option.bind_some, List.take_take, Nat.min_eq_right hm]
theorem num_short (l : List UInt8) (m : Nat) (hm : m ≤ 8) (h : l.length < m) : le_Reader_Number.f (ba l) false (m : Int) = some (0, ba l, true) := by
 unfold le_Reader_Number.f
 rw [if_neg (by omega), txt_short l m h, Option.bind_some, get_eq, Option.bind_some]
 rfl
theorem num_true (l : List UInt8) (m : Nat) (hm : m ≤ 8) : le_Reader_Number.f (ba l) true (m : Int) = some (0, ba l, true) := by
 unfold le_Reader_Number.f
 rw [if_neg (by omega), txt_true l, Option.bind_some, get_eq, Option.bind_some]
 rfl
structure Took where
 kind : Nat
 a : Nat
 b : Nat
 n : Nat
 text : List UInt8
 rest : List UInt8
 err : Int
def none_ (e : Int) : Took := ⟨0, 0, 0, 0, [], [], e⟩
def bodyT (t rest : List UInt8) : Took :=
 if t.length < 17 then none_ 2
 else if rightS (getB (t.take 1)) (getB ((t.drop 1).take 4)) (getB ((t.drop 5).take 4)) (t.drop 17) = true then
  ⟨getB (t.take 1), getB ((t.drop 1).take 4), getB ((t.drop 5).take 4), getB ((t.drop 9).take 8), t.drop 17, rest, 0⟩ else none_ 2
def takeS (s : List UInt8) : Took :=
 if s.length < 2 then none_ 10
 else if s.length < 2 + getB (s.take 2) then none_ 10
 else if (unsealed ((s.drop 2).take (getB (s.take 2)))).2 = 0 then bodyT (unsealed ((s.drop 2).take (getB (s.take 2)))).1 (s.drop (2 + getB (s.take 2)))
 else none_ (unsealed ((s.drop 2).take (getB (s.take 2)))).2
def Took.out (x : Took) : Int × Int × Int × Int × ByteArray × ByteArray × Int := ((x.kind : Int), (x.a : Int), (x.b : Int), (x.n : Int), ba x.text, ba x.rest, x.err)
def tailF (k : Nat) (t rest : ByteArray) : Option (Int × Int × Int × Int × ByteArray × ByteArray × Int) :=
 (le_Reader_Number.f t false 1).bind fun q1 => (le_Reader_Number.f q1.2.1 q1.2.2 4).bind fun q2 => (le_Reader_Number.f q2.2.1 q2.2.2 4).bind fun q3 =>
  (le_Reader_Number.f q3.2.1 q3.2.2 8).bind fun q4 => (le_Reader_Text.f q4.2.1 q4.2.2 (q4.2.1.size : Int)).bind fun x =>
  if x.2.2 = true then some (0, 0, 0, 0, ⟨#[]⟩, ⟨#[]⟩, 2) else (step_Right.f k (wrap64 q1.1) (wrap64 q2.1) (wrap64 q3.1) q4.1 x.1).bind fun ok =>
  if ok = true then some (wrap64 q1.1, wrap64 q2.1, wrap64 q3.1, q4.1, x.1, rest, 0) else some (0, 0, 0, 0, ⟨#[]⟩, ⟨#[]⟩, 2)
theorem take_tail (k : Nat) (s : ByteArray) : step_Take.f k s = (le_Reader_Number.f s false 2).bind fun n1 => (le_Reader_Text.f n1.2.1 n1.2.2 (wrap64 n1.1)).bind fun t1 =>
 if t1.2.2 = true then some (0, 0, 0, 0, ⟨#[]⟩, ⟨#[]⟩, 10) else (seal_Take.f t1.1).bind fun s1 =>
 if s1.2 = 0 then tailF k s1.1 t1.2.1 else some (0, 0, 0, 0, ⟨#[]⟩, ⟨#[]⟩, s1.2) := rfl
theorem getB_le (l : List UInt8) (m : Nat) (h : l.length ≤ m) : getB l < 256 ^ m := Nat.lt_of_lt_of_le (getB_lt l) (Nat.pow_le_pow_right (by omega) h)
theorem take_lt (l : List UInt8) (m : Nat) : getB (l.take m) < 256 ^ m := getB_le _ _ (by rw [List.length_take]; omega)
theorem ev_tail (t : List UInt8) (rest : List UInt8) (hl : t.length ≤ 1000000) : Ev (fun k => tailF k (ba t) (ba rest)) (bodyT t rest).out := by
 unfold bodyT
 by_cases h17 : t.length < 17
 ·rw [if_pos h17]
  refine Ev.congr (f := fun _ => some (none_ 2).out) (fun k => ?_) (Ev.now _)
  unfold tailF
  have fin : ∀ (l : List UInt8) (F : ByteArray × ByteArray × Bool → Option (Int × Int × Int × Int × ByteArray × ByteArray × Int)), (∀ x, x.2.2 = true → F x = some (none_ 2).out) → (le_Reader_Text.f (ba l) true ((ba l).size : Int)).bind F = some (none_ 2).out := by
   intro l F hF
   rw [txt_true, Option.bind_some]
   exact hF _ rfl
  by_cases h1 : t.length < 1
  ·rw [show (1 : Int) = ((1 : Nat) : Int) from rfl, num_short t 1 (by omega) h1, Option.bind_some, show (4 : Int) = ((4 : Nat) : Int) from rfl, num_true _ 4 (by omega), Option.bind_some, num_true _ 4 (by omega), Option.bind_some, show (8 : Int) = ((8 : Nat) : Int) from rfl, num_true _ 8 (by omega), Option.bind_some]
   exact fin _ _ (fun x hx => if_pos hx)
  rw [show (1 : Int) = ((1 : Nat) : Int) from rfl, num_ok t 1 (by omega) (by omega), Option.bind_some]
  by_cases h5 : t.length < 5
  ·rw [show (4 : Int) = ((4 : Nat) : Int) from rfl, num_short _ 4 (by omega) (by rw [List.length_drop]; omega), Option.bind_some, num_true _ 4 (by omega), Option.bind_some, show (8 : Int) = ((8 : Nat) : Int) from rfl, num_true _ 8 (by omega), Option.bind_some]
   exact fin _ _ (fun x hx => if_pos hx)
  rw [show (4 : Int) = ((4 : Nat) : Int) from rfl, num_ok _ 4 (by omega) (by rw [List.length_drop]; omega), Option.bind_some]
  by_cases h9 : t.length < 9
  ·rw [num_short _ 4 (by omega) (by rw [List.length_drop, List.length_drop]; omega), Option.bind_some, show (8 : Int) = ((8 : Nat) : Int) from rfl, num_true _ 8 (by omega), Option.bind_some]
   exact fin _ _ (fun x hx => if_pos hx)
  rw [num_ok _ 4 (by omega) (by rw [List.length_drop, List.length_drop]; omega), Option.bind_some, show (8 : Int) = ((8 : Nat) : Int) from rfl, num_short _ 8 (by omega) (by rw [List.length_drop, List.length_drop, List.length_drop]; omega), Option.bind_some]
  exact fin _ _ (fun x hx => if_pos hx)
 ·rw [if_neg h17]
  have e5 : (t.drop 1).drop 4 = t.drop 5 := by rw [List.drop_drop]
  have e9 : (t.drop 5).drop 4 = t.drop 9 := by rw [List.drop_drop]
  have e17 : (t.drop 9).drop 8 = t.drop 17 := by rw [List.drop_drop]
  have hr := step_right (getB (t.take 1)) (getB ((t.drop 1).take 4)) (getB ((t.drop 5).take 4)) (getB ((t.drop 9).take 8)) (t.drop 17) (by rw [List.length_drop]; omega)
  have b1 := take_lt t 1
  have b2 := take_lt (t.drop 1) 4
  have b3 := take_lt (t.drop 5) 4
  refine Ev.congr (fun k => ?_) (Ev.bind hr (f := fun _ ok => if ok = true then some (((getB (t.take 1) : Nat) : Int), ((getB ((t.drop 1).take 4) : Nat) : Int), ((getB ((t.drop 5).take 4) : Nat) : Int), ((getB ((t.drop 9).take 8) : Nat) : Int), ba (t.drop 17), ba rest, 0) else some (none_ 2).out) ?_)
  ·unfold tailF
   rw [show (1 : Int) = ((1 : Nat) : Int) from rfl, num_ok t 1 (by omega) (by omega), Option.bind_some, show (4 : Int) = ((4 : Nat) : Int) from rfl, num_ok _ 4 (by omega) (by rw [List.length_drop]; omega), Option.bind_some, e5,
    num_ok _ 4 (by omega) (by rw [List.length_drop]; omega), Option.bind_some, e9, show (8 : Int) = ((8 : Nat) : Int) from rfl, num_ok _ 8 (by omega) (by rw [List.length_drop]; omega), Option.bind_some, e17, ba_size, txt_ok _ _ (Nat.le_refl _), Option.bind_some,
    if_neg (by simp), w64 _ (by omega) (by omega), w64 _ (by omega) (by omega), w64 _ (by omega) (by omega), List.take_of_length_le (Nat.le_refl _)]
   rfl
  ·by_cases hR : rightS (getB (t.take 1)) (getB ((t.drop 1).take 4)) (getB ((t.drop 5).take 4)) (t.drop 17) = true
   ·rw [if_pos hR]
    refine Ev.congr (f := fun _ => some _) (fun k => ?_) (Ev.now _)
    rw [if_pos hR]; rfl
   ·rw [if_neg hR]
    refine Ev.congr (f := fun _ => some _) (fun k => ?_) (Ev.now _)
    rw [if_neg hR]
theorem ev_take (s : List UInt8) (hl : s.length ≤ 1000000) : Ev (fun k => step_Take.f k (ba s)) (takeS s).out := by
 unfold takeS
 by_cases h2 : s.length < 2
 ·rw [if_pos h2]
  refine Ev.congr (f := fun _ => some (none_ 10).out) (fun k => ?_) (Ev.now _)
  rw [take_tail, show (2 : Int) = ((2 : Nat) : Int) from rfl, num_short s 2 (by omega) h2, Option.bind_some, txt_true, Option.bind_some, if_pos rfl]
  rfl
 have b := take_lt s 2
 rw [if_neg h2]
 have e : wrap64 ((getB (s.take 2) : Nat) : Int) = ((getB (s.take 2) : Nat) : Int) := w64 _ (by omega) (by omega)
 by_cases hn : s.length < 2 + getB (s.take 2)
 ·rw [if_pos hn]
  refine Ev.congr (f := fun _ => some (none_ 10).out) (fun k => ?_) (Ev.now _)
  rw [take_tail, show (2 : Int) = ((2 : Nat) : Int) from rfl, num_ok s 2 (by omega) (by omega), Option.bind_some, e, txt_short _ _ (by rw [List.length_drop]; omega), Option.bind_some, if_pos rfl]
  rfl
 rw [if_neg hn]
 have hu : ∀ k, step_Take.f k (ba s) = if (unsealed ((s.drop 2).take (getB (s.take 2)))).2 = 0 then tailF k (ba (unsealed ((s.drop 2).take (getB (s.take 2)))).1) (ba (s.drop (2 + getB (s.take 2)))) else some (0, 0, 0, 0, ⟨#[]⟩, ⟨#[]⟩, (unsealed ((s.drop 2).take (getB (s.take 2)))).2) := by
  intro k
  rw [take_tail, show (2 : Int) = ((2 : Nat) : Int) from rfl, num_ok s 2 (by omega) (by omega), Option.bind_some, e, txt_ok _ _ (by rw [List.length_drop]; omega), Option.bind_some, if_neg (by simp), seal_take_eq _ (by rw [List.length_take, List.length_drop]; omega), Option.bind_some, List.drop_drop]
 by_cases h0 : (unsealed ((s.drop 2).take (getB (s.take 2)))).2 = 0
 ·rw [if_pos h0]
  refine Ev.congr (fun k => by rw [hu, if_pos h0]) (ev_tail _ _ ?_)
  unfold unsealed
  split
  ·simp
  ·split
   ·rw [List.length_take, List.length_take, List.length_drop]; omega
   ·simp
 ·rw [if_neg h0]
  refine Ev.congr (f := fun _ => some _) (fun k => ?_) (Ev.now _)
  rw [hu, if_neg h0]
  rfl
theorem body_parts (t : List UInt8) (h : 17 ≤ t.length) : bodyS (getB (t.take 1)) (getB ((t.drop 1).take 4)) (getB ((t.drop 5).take 4)) (getB ((t.drop 9).take 8)) (t.drop 17) = t := by
 have p1 := putN_getB (t.take 1)
 have p2 := putN_getB ((t.drop 1).take 4)
 have p3 := putN_getB ((t.drop 5).take 4)
 have p4 := putN_getB ((t.drop 9).take 8)
 rw [List.length_take, Nat.min_eq_left (by omega)] at p1
 rw [List.length_take, List.length_drop, Nat.min_eq_left (by omega)] at p2 p3 p4
 unfold bodyS
 rw [p1, p2, p3, p4]
 have e1 : t.take 1 ++ (t.drop 1).take 4 = t.take 5 := by rw [← List.take_add]
 have e2 : t.take 5 ++ (t.drop 5).take 4 = t.take 9 := by rw [← List.take_add]
 have e3 : t.take 9 ++ (t.drop 9).take 8 = t.take 17 := by rw [← List.take_add]
 rw [e1, e2, e3, List.take_append_drop]
theorem bodyT_bodyS (kind a b n : Nat) (t rest : List UInt8) (hr : rightS kind a b t = true) (hn : n < 18446744073709551616) : bodyT (bodyS kind a b n t) rest = ⟨kind, a, b, n, t, rest, 0⟩ := by
 obtain ⟨⟨k1, k2⟩, ⟨a1, a2⟩, ⟨b1, b2⟩⟩ := rightS_bounds hr
 have e1 : (bodyS kind a b n t).take 1 = putN kind 1 := by
  unfold bodyS; rw [List.append_assoc, List.append_assoc, List.append_assoc, List.take_left' (putN_length _ _)]
 have d1 : (bodyS kind a b n t).drop 1 = putN a 4 ++ (putN b 4 ++ (putN n 8 ++ t)) := by
  unfold bodyS; rw [List.append_assoc, List.append_assoc, List.append_assoc, List.drop_left' (putN_length _ _)]
 have d5 : (bodyS kind a b n t).drop 5 = putN b 4 ++ (putN n 8 ++ t) := by
  rw [show 5 = 1 + 4 from rfl, ← List.drop_drop, d1, List.drop_left' (putN_length _ _)]
 have d9 : (bodyS kind a b n t).drop 9 = putN n 8 ++ t := by
  rw [show 9 = 5 + 4 from rfl, ← List.drop_drop, d5, List.drop_left' (putN_length _ _)]
 have d17 : (bodyS kind a b n t).drop 17 = t := by
  rw [show 17 = 9 + 8 from rfl, ← List.drop_drop, d9, List.drop_left' (putN_length _ _)]
 unfold bodyT
 rw [if_neg (by rw [bodyS_length]; omega), e1, d1, d5, d9, d17, List.take_left' (putN_length _ _), List.take_left' (putN_length _ _), List.take_left' (putN_length _ _), getB_putN, getB_putN, getB_putN, getB_putN,
  Nat.mod_eq_of_lt (show kind < 256 ^ 1 by omega), Nat.mod_eq_of_lt (show a < 256 ^ 4 by omega), Nat.mod_eq_of_lt (show b < 256 ^ 4 by omega), Nat.mod_eq_of_lt (show n < 256 ^ 8 by omega), if_pos hr]
theorem take_put (kind a b n : Nat) (t tail : List UInt8) (hr : rightS kind a b t = true) (hn : n < 18446744073709551616) (ht : t.length ≤ 60000) : takeS (recordS kind a b n t ++ tail) = ⟨kind, a, b, n, t, tail, 0⟩ := by
 have hl : (sealed (bodyS kind a b n t)).length = 21 + t.length := by rw [sealed_length, bodyS_length]; omega
 have e2 : (recordS kind a b n t ++ tail).take 2 = putN (21 + t.length) 2 := by
  unfold recordS; rw [hl, List.append_assoc, List.take_left' (putN_length _ _)]
 have d2 : (recordS kind a b n t ++ tail).drop 2 = sealed (bodyS kind a b n t) ++ tail := by
  unfold recordS; rw [hl, List.append_assoc, List.drop_left' (putN_length _ _)]
 have g2 : getB (putN (21 + t.length) 2) = 21 + t.length := by rw [getB_putN, Nat.mod_eq_of_lt (by omega)]
 have dn : (recordS kind a b n t ++ tail).drop (2 + (21 + t.length)) = tail := by
  rw [← List.drop_drop, d2, List.drop_left' hl]
 have hlen : (recordS kind a b n t ++ tail).length = 23 + t.length + tail.length := by rw [List.length_append, recordS_length]
 unfold takeS
 rw [if_neg (by omega), e2, g2, if_neg (by omega), d2, List.take_left' hl, unsealed_sealed, if_pos rfl, dn]
 exact bodyT_bodyS kind a b n t tail hr hn
theorem put_take (s : List UInt8) (h : (takeS s).err = 0) : rightS (takeS s).kind (takeS s).a (takeS s).b (takeS s).text = true ∧ (takeS s).n < 18446744073709551616 ∧ (takeS s).text.length + 23 ≤ s.length ∧
  recordS (takeS s).kind (takeS s).a (takeS s).b (takeS s).n (takeS s).text ++ (takeS s).rest = s := by
 unfold takeS at h ⊢
 split at h
 ·exact absurd h (by decide)
 rename_i h2
 rw [if_neg h2]
 split at h
 ·exact absurd h (by decide)
 rename_i hn
 rw [if_neg hn]
 split at h
 case isFalse h0 => exact absurd h h0
 rename_i hu
 rw [if_pos hu]
 have hlt := take_lt s 2
 obtain ⟨hs, hl⟩ := sealed_unsealed _ hu
 have hrl : ((s.drop 2).take (getB (s.take 2))).length = getB (s.take 2) := by rw [List.length_take, List.length_drop]; omega
 rw [hrl] at hl
 generalize (unsealed ((s.drop 2).take (getB (s.take 2)))).1 = t at hs hl h ⊢
 unfold bodyT at h ⊢
 split at h
 ·exact absurd h (by decide)
 rename_i h17
 rw [if_neg h17]
 split at h
 case isFalse => exact absurd h (by decide)
 rename_i hr
 rw [if_pos hr]
 refine ⟨hr, ?_, ?_, ?_⟩
 ·have := take_lt (t.drop 9) 8; show getB ((t.drop 9).take 8) < _; omega
 ·show (t.drop 17).length + 23 ≤ _; rw [List.length_drop]; omega
 ·show recordS _ _ _ _ (t.drop 17) ++ s.drop (2 + getB (s.take 2)) = s
  unfold recordS
  rw [body_parts t (by omega), hs, hrl]
  have p := putN_getB (s.take 2)
  rw [List.length_take, Nat.min_eq_left (by omega)] at p
  rw [p, ← List.take_add, List.take_append_drop]
def Took.step (x : Took) : S24 := ⟨(x.kind : Int), (x.a : Int), (x.b : Int), (x.n : Int), ba x.text⟩
def scanS : Nat → List UInt8 → List S24 × List UInt8
 | 0, s => ([], s)
 | m + 1, s => if (takeS s).err = 0 then ((takeS s).step :: (scanS m (takeS s).rest).1, (scanS m (takeS s).rest).2) else ([], s)
theorem rest_len (s : List UInt8) (h : (takeS s).err = 0) : (takeS s).rest.length + (23 + (takeS s).text.length) = s.length := by
 obtain ⟨_, _, _, he⟩ := put_take s h
 have := congrArg List.length he
 rw [List.length_append, recordS_length] at this
 omega
theorem take_nil : (takeS []).err = 10 := by unfold takeS; rw [if_pos (show ([] : List UInt8).length < 2 by decide)]; rfl
theorem scan_l : ∀ (m : Nat) (s : List UInt8) (acc : List S24), s.length ≤ m → acc.length + s.length ≤ 1000000 → Ev (fun k => step_Scan.l k (ba s) acc) (acc ++ (scanS m s).1, ba (scanS m s).2) := by
 intro m
 induction m with
 | zero =>
  intro s acc hs ha
  obtain rfl : s = [] := List.eq_nil_of_length_eq_zero (by omega)
  refine Ev.step (fun k => by simp only [step_Scan.l]; rfl) (Ev.bind (ev_take [] (by simp)) ?_)
  refine Ev.congr (f := fun _ => some _) (fun k => ?_) (Ev.now _)
  show (if (takeS []).err = 0 then _ else some (acc, ba [])) = _
  rw [if_neg (by rw [take_nil]; decide), scanS, List.append_nil]
 | succ m ih =>
  intro s acc hs ha
  refine Ev.step (fun k => by simp only [step_Scan.l]; rfl) (Ev.bind (ev_take s (by omega)) ?_)
  by_cases h : (takeS s).err = 0
  ·have hl := rest_len s h
   have h2 := ih (takeS s).rest (acc ++ [(takeS s).step]) (by omega) (by rw [List.length_append, List.length_singleton]; omega)
   rw [List.append_assoc, List.singleton_append] at h2
   rw [scanS, if_pos h]
   refine Ev.congr (fun k => ?_) h2
   show (if (takeS s).err = 0 then _ else _) = _
   rw [if_pos h, if_pos (by omega)]
   rfl
  ·refine Ev.congr (f := fun _ => some _) (fun k => ?_) (Ev.now _)
   show (if (takeS s).err = 0 then _ else some (acc, ba s)) = _
   rw [if_neg h, scanS, if_neg h, List.append_nil]
theorem scan_left : ∀ (m : Nat) (s : List UInt8), (scanS m s).2.length ≤ s.length
 | 0, s => Nat.le_refl _
 | m + 1, s => by
  rw [scanS]
  split
  ·rename_i h
   have := rest_len s h
   exact Nat.le_trans (scan_left m _) (by omega)
  ·exact Nat.le_refl _
theorem ev_scan (s : List UInt8) (hs : s.length ≤ 1000000) : Ev (fun k => step_Scan.f k (ba s)) ((scanS s.length s).1, (s.length : Int) - ((scanS s.length s).2.length : Int)) := by
 have hl := scan_left s.length s
 refine Ev.bind (scan_l s.length s [] (Nat.le_refl _) (by rw [List.length_nil]; omega)) ?_
 refine Ev.congr (f := fun _ => some _) (fun k => ?_) (Ev.now _)
 rw [ba_size, ba_size, w64 _ (by omega) (by omega)]
 rfl
def txtS (x : S24) : List UInt8 := x.f4.data.toList
def okT (x : S24) : Prop := (0 ≤ x.f3 ∧ x.f3 < 18446744073709551616) ∧ (txtS x).length ≤ 200
def goodS (x : S24) : Bool := rightS x.f0 x.f1 x.f2 (txtS x)
def recS (x : S24) : List UInt8 := recordS x.f0.toNat x.f1.toNat x.f2.toNat x.f3.toNat (txtS x)
theorem recS_len (x : S24) : (recS x).length = 23 + (txtS x).length := recordS_length _ _ _ _ _
def putO (x : S24) : ByteArray × Int := if goodS x = true then (ba (recS x), 0) else (ba [], 1)
theorem ev_put24 (x : S24) (h : okT x) : Ev (fun k => step_Put.f k x.f0 x.f1 x.f2 x.f3 x.f4) (putO x) := by
 have := step_put x.f0 x.f1 x.f2 x.f3 (txtS x) (by have := h.2; omega) h.1
 unfold txtS at this
 rw [ba_data] at this
 exact this
def recsL (l : List S24) : List UInt8 := l.flatMap recS
theorem recsL_len : ∀ (l : List S24), (∀ x ∈ l, okT x) → (recsL l).length ≤ 223 * l.length
 | [], _ => by simp [recsL]
 | x :: l, h => by
  have ih := recsL_len l (fun y hy => h y (List.mem_cons_of_mem _ hy))
  have hx := (h x List.mem_cons_self).2
  have := recS_len x
  unfold recsL at ih ⊢
  rw [List.flatMap_cons, List.length_append, List.length_cons]
  omega
def toI (l : List UInt8) : List Int := l.map fun c => (c.toNat : Int)
theorem toI_str (l : List UInt8) : strOfNums (toI l) = ba l := by
 unfold strOfNums toI ba
 rw [List.map_map]
 congr 2
 conv => rhs; rw [← List.map_id l]
 apply List.map_congr_left
 intro c _
 simp
theorem toI_len (l : List UInt8) : (toI l).length = l.length := by simp [toI]
def TurnedTo (L M : List UInt8) (at_ : Nat) (W : BitVec 32) (j : Nat) : Prop := M.length = L.length ∧ ∀ k, bitsF M k = (bitsF L k ^^ (decide (at_ ≤ k ∧ k < at_ + j) && W.getLsbD (k - at_)))
theorem turnedTo_all {L M : List UInt8} {at_ : Nat} {W : BitVec 32} (h : TurnedTo L M at_ W 32) : Turned L M at_ W := by
 refine ⟨h.1, fun k => ?_⟩
 rw [h.2 k]
 by_cases hk : k < at_ + 32
 ·congr 2
  rw [decide_eq_decide]
  omega
 ·rw [BitVec.getLsbD_of_ge _ _ (by omega), Bool.and_false, Bool.and_false]
theorem bit_is (W : BitVec 32) (j : Nat) (hj : j < 32) : Go.bits .and .u32 (shr .u32 ((W.toNat : Nat) : Int) (j : Int)) 1 = if W.getLsbD j then 1 else 0 := by
 have hW := W.isLt
 have e : shr .u32 ((W.toNat : Nat) : Int) (j : Int) = ((W.toNat / 2 ^ j : Nat) : Int) := by
  unfold shr
  rw [Int.toNat_natCast, show min j (IntKind.bits .u32) = j from Nat.min_eq_left (by show j ≤ 32; omega)]
  norm_cast
 have hle : W.toNat / 2 ^ j ≤ W.toNat := Nat.div_le_self _ _
 have h := u32_and_nat (W.toNat / 2 ^ j) 1 (by omega) (by omega)
 rw [show ((1 : Nat) : Int) = 1 from rfl] at h
 rw [e, h, nat_mask1]
 have : W.getLsbD j = decide (W.toNat / 2 ^ j % 2 = 1) := by
  rw [BitVec.getLsbD, Nat.testBit_eq_decide_div_mod_eq]
 rw [this]
 by_cases hb : W.toNat / 2 ^ j % 2 = 1
 ·rw [hb]; rfl
 ·rw [show W.toNat / 2 ^ j % 2 = 0 by omega]; rfl
theorem shl_one (m : Nat) (h : m < 8) : shl .u8 1 (m : Int) = ((2 ^ m : Nat) : Int) := by
 have key : ∀ m : Fin 8, shl .u8 1 ((m.val : Nat) : Int) = ((2 ^ m.val : Nat) : Int) := by decide +kernel
 exact key ⟨m, h⟩
theorem rd_toI (M : List UInt8) (i : Nat) : rd (toI M) (i : Int) = (((M.getD i 0).toNat : Nat) : Int) := by
 unfold rd toI
 rw [Int.toNat_natCast, List.getD_eq_getElem?_getD, List.getD_eq_getElem?_getD, List.getElem?_map]
 cases M[i]? <;> rfl
theorem set_toI (M : List UInt8) (i n : Nat) (h : n < 256) : (toI M).set i (n : Int) = toI (M.set i (UInt8.ofNat n)) := by
 unfold toI
 rw [List.map_set, UInt8.toNat_ofNat', Nat.mod_eq_of_lt h]
theorem unsealed_w (l : List UInt8) : (unsealed l).2 = 0 ∨ (unsealed l).2 = 9 ∨ (unsealed l).2 = 10 := by
 unfold unsealed
 split
 ·exact .inr (.inr rfl)
 ·split
  ·exact .inl rfl
  ·exact .inr (.inl rfl)
theorem turned_unseals {l M : List UInt8} {at_ : Nat} {W : BitVec 32} (h : Turned (sealed l) M at_ W) (hat : at_ + 32 ≤ 8 * (sealed l).length) (hW : W ≠ 0#32) : (unsealed M).2 = 9 := by
 rcases unsealed_w M with h0 | h0 | h0
 ·exfalso
  obtain ⟨e, _⟩ := sealed_unsealed M h0
  have a := rest_sum (unsealed M).1
  have b := rest_sum l
  have e' : (unsealed M).1 ++ putN (crc (unsealed M).1).toNat 4 = M := e
  rw [e'] at a
  exact turned_ne h hat hW _ (a.trans b.symm)
 ·exact h0
 ·exfalso
  have hl : M.length = l.length + 4 := by rw [h.1, sealed_length]
  unfold unsealed at h0
  rw [if_neg (by omega)] at h0
  split at h0
  ·exact absurd (show (0 : Int) = 10 from h0) (by decide)
  ·exact absurd (show (9 : Int) = 10 from h0) (by decide)
theorem turnedTo_skip {S M : List UInt8} {W : BitVec 32} {j : Nat} (h : TurnedTo S M 0 W j) (hb : W.getLsbD j = false) : TurnedTo S M 0 W (j + 1) := by
 refine ⟨h.1, fun k => ?_⟩
 rw [h.2 k]
 by_cases hk : k = j
 ·subst hk
  rw [show k - 0 = k by omega, hb, Bool.and_false, Bool.and_false]
 ·congr 2
  rw [decide_eq_decide]
  omega
theorem turnedTo_turn {S M : List UInt8} {W : BitVec 32} {j : Nat} (h : TurnedTo S M 0 W j) (hb : W.getLsbD j = true) (hp : j / 8 < M.length) : TurnedTo S (M.set (j / 8) (UInt8.ofNat ((M.getD (j / 8) 0).toNat ^^^ 2 ^ (j % 8)))) 0 W (j + 1) := by
 refine ⟨by rw [List.length_set]; exact h.1, fun k => ?_⟩
 rw [turn_one M j hp k, h.2 k]
 by_cases hk : k = j
 ·subst hk
  rw [show k - 0 = k by omega, hb, decide_eq_false (p := 0 ≤ k ∧ k < 0 + k) (by omega), decide_eq_true (p := 0 ≤ k ∧ k < 0 + (k + 1)) (by omega), decide_eq_true rfl]
  simp
 ·rw [decide_eq_false hk, Bool.xor_false]
  congr 2
  rw [decide_eq_decide]
  omega
theorem toI_bytes (l : List UInt8) : toI l = Go.Proofs.YtboommbclbjlnaaDoorW.PrintWords.bytesOf (ba l) := by unfold toI Go.Proofs.YtboommbclbjlnaaDoorW.PrintWords.bytesOf; rw [ba_list]
theorem take_rec (x : S24) (tail : List UInt8) (hx : okT x) (hg : goodS x = true) : (takeS (recS x ++ tail)).err = 0 ∧ (takeS (recS x ++ tail)).rest = tail ∧ (takeS (recS x ++ tail)).step = x := by
 obtain ⟨⟨k1, k2⟩, ⟨a1, a2⟩, ⟨b1, b2⟩⟩ := rightS_bounds hg
 obtain ⟨⟨n1, n2⟩, ht⟩ := hx
 have c0 : ((x.f0.toNat : Nat) : Int) = x.f0 := by omega
 have c1 : ((x.f1.toNat : Nat) : Int) = x.f1 := by omega
 have c2 : ((x.f2.toNat : Nat) : Int) = x.f2 := by omega
 have c3 : ((x.f3.toNat : Nat) : Int) = x.f3 := by omega
 have h := take_put x.f0.toNat x.f1.toNat x.f2.toNat x.f3.toNat (txtS x) tail (by rw [c0, c1, c2]; exact hg) (by omega) (by omega)
 unfold recS
 rw [h]
 refine ⟨rfl, rfl, ?_⟩
 unfold Took.step
 simp only [c0, c1, c2, c3]
 unfold txtS
 rw [ba_data]
theorem scan_recs : ∀ (L : List S24) (tail : List UInt8) (m : Nat), (∀ x ∈ L, okT x ∧ goodS x = true) → (takeS tail).err ≠ 0 → (recsL L ++ tail).length ≤ m → scanS m (recsL L ++ tail) = (L, tail)
 | [], tail, m, _, ht, _ => by
  show scanS m ([] ++ tail) = _
  rw [List.nil_append]
  cases m with
  | zero => rfl
  | succ m => rw [scanS, if_neg ht]
 | x :: L, tail, m, h, ht, hm => by
  have hx := h x List.mem_cons_self
  have e : recsL (x :: L) ++ tail = recS x ++ (recsL L ++ tail) := by unfold recsL; rw [List.flatMap_cons, List.append_assoc]
  rw [e] at hm ⊢
  obtain ⟨h1, h2, h3⟩ := take_rec x (recsL L ++ tail) hx.1 hx.2
  have hl := recS_len x
  rw [List.length_append] at hm
  cases m with
  | zero => omega
  | succ m =>
   rw [scanS, if_pos h1, h2, h3, scan_recs L tail m (fun y hy => h y (List.mem_cons_of_mem _ hy)) ht (by omega)]
theorem take_cut (x : S24) (c : Nat) (hc : c < (recS x).length) (ht : (txtS x).length ≤ 60000) : (takeS ((recS x).take c)).err ≠ 0 := by
 have hl := recS_len x
 have hl2 : ((recS x).take c).length = c := by rw [List.length_take]; omega
 unfold takeS
 by_cases h2 : c < 2
 ·rw [if_pos (by omega)]; decide
 rw [if_neg (by omega)]
 have e2 : ((recS x).take c).take 2 = putN (21 + (txtS x).length) 2 := by
  rw [List.take_take, Nat.min_eq_left (by omega)]
  unfold recS recordS
  rw [sealed_length, bodyS_length, List.take_left' (putN_length _ _), show 17 + (txtS x).length + 4 = 21 + (txtS x).length by omega]
 rw [e2, getB_putN, Nat.mod_eq_of_lt (by omega), hl2, if_pos (by omega)]
 decide
theorem take_turned (x : S24) (M tail : List UInt8) (W : BitVec 32) (hW : W ≠ 0#32) (ht : (txtS x).length ≤ 60000) (h : Turned (sealed (bodyS x.f0.toNat x.f1.toNat x.f2.toNat x.f3.toNat (txtS x))) M 0 W) :
  (takeS (putN (21 + (txtS x).length) 2 ++ M ++ tail)).err ≠ 0 := by
 have hM := h.1
 rw [sealed_length, bodyS_length] at hM
 have h9 := turned_unseals h (by rw [sealed_length, bodyS_length]; omega) hW
 have e2 : (putN (21 + (txtS x).length) 2 ++ M ++ tail).take 2 = putN (21 + (txtS x).length) 2 := by rw [List.append_assoc, List.take_left' (putN_length _ _)]
 have d2 : (putN (21 + (txtS x).length) 2 ++ M ++ tail).drop 2 = M ++ tail := by rw [List.append_assoc, List.drop_left' (putN_length _ _)]
 unfold takeS
 have hlen : (putN (21 + (txtS x).length) 2 ++ M ++ tail).length = 2 + M.length + tail.length := by simp [putN_length]; omega
 rw [if_neg (by omega), e2, getB_putN, Nat.mod_eq_of_lt (by omega), if_neg (by omega), d2, List.take_left' (by omega), h9, if_neg (by decide)]
 decide
theorem shown_take : (ba (recordS 3 5 0 0 [])).extract 0 19 = ba [21, 0, 3, 5, 0, 0, 0, 0, 0, 0, 0, 0, 0, 0, 0, 0, 0, 0, 0] := by
 have key : (recordS 3 5 0 0 []).take 19 = [21, 0, 3, 5, 0, 0, 0, 0, 0, 0, 0, 0, 0, 0, 0, 0, 0, 0, 0] := by
  have hb : bodyS 3 5 0 0 [] = [3, 5, 0, 0, 0, 0, 0, 0, 0, 0, 0, 0, 0, 0, 0, 0, 0] := by decide +kernel
  have hl : (sealed (bodyS 3 5 0 0 [])).length = 21 := by rw [sealed_length, bodyS_length]; rfl
  have hp : putN 21 2 = [21, 0] := by decide +kernel
  unfold recordS
  rw [hl, hp]
  unfold sealed
  rw [hb]
  rfl
 rw [ba_take, key]
theorem shown12 : Ev (fun k => l12_shown.f k) true := by
 have h := step_put 3 5 0 0 [] (by simp) (by omega)
 have e : putS 3 5 0 0 [] = (ba (recordS 3 5 0 0 []), 0) := by
  unfold putS
  rw [if_pos (by decide)]
  rfl
 rw [e] at h
 refine Ev.bind h ?_
 refine Ev.congr (f := fun _ => some true) (fun k => ?_) (Ev.now _)
 have hl := recordS_length 3 5 0 0 []
 rw [if_pos rfl, ba_size, hl, if_pos (by decide), if_pos (by decide), if_pos (by decide)]
 show some (((ba (recordS 3 5 0 0 [])).extract 0 19).toList == _) = _
 rw [shown_take, ba_toList]
 rfl
def as26 (x : S24) : S26 := ⟨x.f0, x.f1, x.f2, x.f3, x.f4⟩
theorem steps_l (l : List S24) (h : l.length ≤ 1000000000) : ∀ (d i : Nat) (acc : List S26), i + d = l.length → acc.length = i →
  Ev (fun k => l12_steps.l0 k l acc (i : Int)) (acc ++ (l.drop i).map as26) := by
 intro d
 induction d with
 | zero =>
  intro i acc hi ha
  refine Ev.step (f := fun _ => some _) (fun k => ?_) (Ev.now _)
  simp only [l12_steps.l0]
  rw [if_neg (by omega), List.drop_eq_nil_of_le (by omega), List.map_nil, List.append_nil]
 | succ d ih =>
  intro i acc hi ha
  have hlt : i < l.length := by omega
  have hd := List.drop_eq_getElem_cons hlt
  have hr : rd_T24 l (i : Int) = l[i]'hlt := by
   unfold rd_T24
   rw [Int.toNat_natCast, List.getD_eq_getElem?_getD, List.getElem?_eq_getElem hlt]; rfl
  have h2 := ih (i + 1) (acc ++ [as26 (l[i]'hlt)]) (by omega) (by simp [ha])
  rw [List.append_assoc, List.singleton_append, ← List.map_cons, ← hd] at h2
  refine Ev.step (fun k => ?_) h2
  simp only [l12_steps.l0]
  rw [if_pos (by omega), if_pos (by omega), if_pos (by omega), hr, w64 _ (by omega) (by omega)]
  rfl
theorem steps12 (l : List S24) (h : l.length ≤ 1000000000) : Ev (fun k => l12_steps.f k l) (l.map as26) := by
 have := steps_l l h l.length 0 [] (by omega) rfl
 rw [List.nil_append, List.drop_zero] at this
 exact this
theorem rd24 (l : List S24) (i : Nat) (h : i < l.length) : rd_T24 l (i : Int) = l[i]'h := by
 unfold rd_T24
 rw [Int.toNat_natCast, List.getD_eq_getElem?_getD, List.getElem?_eq_getElem h]; rfl
theorem rd26 (l : List S26) (i : Nat) (h : i < l.length) : rd_T26 l (i : Int) = l[i]'h := by
 unfold rd_T26
 rw [Int.toNat_natCast, List.getD_eq_getElem?_getD, List.getElem?_eq_getElem h]; rfl
theorem w64s (i : Nat) (h : i ≤ 1000000000) : wrap64 ((i : Int) + 1) = ((i + 1 : Nat) : Int) := by
 rw [w64 _ (by omega) (by omega)]; rfl
theorem same_l (l : List S24) (h : l.length ≤ 1000000) : ∀ (d i : Nat), i + d = l.length → Ev (fun k => l12_sameSteps.l0 k l (l.map as26) (i : Int)) true := by
 intro d
 induction d with
 | zero =>
  intro i hi
  refine Ev.step (f := fun _ => some _) (fun k => ?_) (Ev.now _)
  simp only [l12_sameSteps.l0]
  rw [if_neg (by omega)]
 | succ d ih =>
  intro i hi
  have hlt : i < l.length := by omega
  have hr := rd24 l i hlt
  have hr' : rd_T26 (l.map as26) (i : Int) = as26 (l[i]'hlt) := by rw [rd26 _ i (by rw [List.length_map]; exact hlt), List.getElem_map]
  refine Ev.step (fun k => ?_) (ih (i + 1) (by omega))
  simp only [l12_sameSteps.l0]
  rw [if_pos (by omega), if_pos (by omega), if_pos (by rw [List.length_map]; omega), hr, hr', w64s i (by omega)]
  exact (if_pos rfl).trans ((if_pos rfl).trans ((if_pos rfl).trans ((if_pos rfl).trans (if_pos rfl))))
theorem same (l : List S24) (h : l.length ≤ 1000000) : Ev (fun k => l12_sameSteps.f k l (l.map as26)) true := by
 refine Ev.congr (fun k => ?_) (same_l l h l.length 0 (by omega))
 unfold l12_sameSteps.f
 rw [if_pos (by rw [List.length_map])]
 rfl
theorem short2_l (l : List S24) (h : l.length ≤ 60) : ∀ (d i : Nat), i + d = l.length → ∃ b, Ev (fun k => l12_shortSteps.l0 k l (i : Int)) b ∧ (b = true → ∀ x ∈ l.drop i, (txtS x).length ≤ 200) := by
 intro d
 induction d with
 | zero =>
  intro i hi
  refine ⟨true, Ev.step (f := fun _ => some _) (fun k => ?_) (Ev.now _), fun _ x hx => by rw [List.drop_eq_nil_of_le (by omega)] at hx; cases hx⟩
  simp only [l12_shortSteps.l0]
  rw [if_neg (by omega)]
 | succ d ih =>
  intro i hi
  have hlt : i < l.length := by omega
  have hz : (txtS (l[i]'hlt)).length = (l[i]'hlt).f4.size := Array.length_toList
  by_cases hs : ((l[i]'hlt).f4.size : Int) > 200
  ·refine ⟨false, Ev.step (f := fun _ => some _) (fun k => ?_) (Ev.now _), fun h => by cases h⟩
   simp only [l12_shortSteps.l0]
   rw [if_pos (by omega), if_pos (by omega), rd24 l i hlt, if_pos hs]
  ·obtain ⟨b, hb, hx⟩ := ih (i + 1) (by omega)
   refine ⟨b, Ev.step (fun k => ?_) hb, fun h x hm => ?_⟩
   ·simp only [l12_shortSteps.l0]
    rw [if_pos (by omega), if_pos (by omega), rd24 l i hlt, if_neg hs, w64s i (by omega)]
   ·rw [List.drop_eq_getElem_cons hlt] at hm
    rcases List.mem_cons.1 hm with rfl | hm
    ·omega
    ·exact hx h x hm
theorem short2 (l : List S24) : ∃ b, Ev (fun k => l12_shortSteps.f k l) b ∧ (b = true → l.length ≤ 60 ∧ ∀ x ∈ l, (txtS x).length ≤ 200) := by
 by_cases h : (l.length : Int) > 60
 ·refine ⟨false, Ev.congr (f := fun _ => some false) (fun k => ?_) (Ev.now _), fun h => by cases h⟩
  unfold l12_shortSteps.f
  rw [if_pos h]
 ·obtain ⟨b, hb, hx⟩ := short2_l l (by omega) l.length 0 (by omega)
  refine ⟨b, Ev.congr (fun k => ?_) hb, fun hh => ⟨by omega, by have := hx hh; rwa [List.drop_zero] at this⟩⟩
  unfold l12_shortSteps.f
  rw [if_neg h]
  rfl
def endsS (L : List S24) : List Int := (List.range L.length).map fun i => ((recsL (L.take (i + 1))).length : Int)
theorem endsS_len (L : List S24) : (endsS L).length = L.length := by simp [endsS]
theorem endsS_snoc (L : List S24) (x : S24) : endsS (L ++ [x]) = endsS L ++ [((recsL (L ++ [x])).length : Int)] := by
 unfold endsS
 rw [List.length_append, List.length_singleton, List.range_succ, List.map_append]
 congr 1
 ·apply List.map_congr_left
  intro i hi
  rw [List.take_append_of_le_length (by have := List.mem_range.1 hi; omega)]
 ·simp only [List.map_cons, List.map_nil]
  rw [List.take_of_length_le (by simp)]
theorem endsS_get (L : List S24) (i : Nat) (h : i < L.length) : rd (endsS L) (i : Int) = ((recsL (L.take (i + 1))).length : Int) := by
 unfold rd endsS
 rw [Int.toNat_natCast, List.getD_eq_getElem?_getD, List.getElem?_map, List.getElem?_range h]
 rfl
theorem recsL_append (A B : List S24) : recsL (A ++ B) = recsL A ++ recsL B := by unfold recsL; rw [List.flatMap_append]
theorem recsL_take_succ (L : List S24) (i : Nat) (h : i < L.length) : recsL (L.take (i + 1)) = recsL (L.take i) ++ recS (L[i]'h) := by
 rw [List.take_succ_eq_append_getElem h, recsL_append]; simp [recsL]
theorem recsL_split (L : List S24) (i : Nat) (h : i < L.length) : recsL L = recsL (L.take i) ++ (recS (L[i]'h) ++ recsL (L.drop (i + 1))) := by
 conv => lhs; rw [← List.take_append_drop i L, List.drop_eq_getElem_cons h, recsL_append]
 unfold recsL
 rw [List.flatMap_cons]
theorem torn_fin (L : List S24) (w : Nat) (hw : w < L.length) (hL : ∀ x ∈ L, okT x ∧ goodS x = true) (hn : L.length ≤ 60) (M : List UInt8) (W : BitVec 32) (hW : W ≠ 0#32)
  (h : Turned (sealed (bodyS (L[w]'hw).f0.toNat (L[w]'hw).f1.toNat (L[w]'hw).f2.toNat (L[w]'hw).f3.toNat (txtS (L[w]'hw)))) M 0 W) :
  Ev (fun k => l12_StepTorn.l2 k ((W.toNat : Nat) : Int) L (w : Int) (((recsL (L.take w)).length : Nat) : Int) (toI (recsL (L.take w) ++ (putN (21 + (txtS (L[w]'hw)).length) 2 ++ M ++ recsL (L.drop (w + 1))))) 32) true := by
 have hx := hL _ (List.getElem_mem hw)
 have ht : (txtS (L[w]'hw)).length ≤ 200 := hx.1.2
 have he := take_turned (L[w]'hw) M (recsL (L.drop (w + 1))) W hW (by omega) h
 have hM := h.1
 rw [sealed_length, bodyS_length] at hM
 have hA : ∀ x ∈ L.take w, okT x ∧ goodS x = true := fun x hx => hL x (List.mem_of_mem_take hx)
 have hB : ∀ x ∈ L.drop (w + 1), okT x ∧ goodS x = true := fun x hx => hL x (List.mem_of_mem_drop hx)
 have l1 := recsL_len (L.take w) (fun x hx => (hA x hx).1)
 have l2 := recsL_len (L.drop (w + 1)) (fun x hx => (hB x hx).1)
 rw [List.length_take] at l1
 rw [List.length_drop] at l2
 generalize hT : putN (21 + (txtS (L[w]'hw)).length) 2 ++ M ++ recsL (L.drop (w + 1)) = T at he ⊢
 have hTl : T.length = 2 + M.length + (recsL (L.drop (w + 1))).length := by rw [← hT]; simp [putN_length]; omega
 have hlen : (recsL (L.take w) ++ T).length ≤ 100000 := by rw [List.length_append]; omega
 have hs := ev_scan (recsL (L.take w) ++ T) (by omega)
 rw [scan_recs (L.take w) T _ hA he (Nat.le_refl _)] at hs
 refine Ev.step (fun k => by simp only [l12_StepTorn.l2]; rw [if_neg (by omega), toI_str]) (Ev.bind hs ?_)
 refine Ev.congr (fun k => by rw [if_pos (by omega), if_pos (by omega), Int.toNat_natCast]) (Ev.bind (steps12 (L.take w) (by rw [List.length_take]; omega)) ?_)
 refine Ev.bind (same (L.take w) (by rw [List.length_take]; omega)) ?_
 refine Ev.congr (f := fun _ => some true) (fun k => ?_) (Ev.now _)
 rw [if_pos rfl]
 congr 1
 rw [beq_iff_eq]
 dsimp only
 rw [List.length_append]
 omega
theorem wsum (a b : Nat) (h : a + b ≤ 1000000) : wrap64 ((a : Int) + (b : Int)) = ((a + b : Nat) : Int) := by rw [w64 _ (by omega) (by omega)]; omega
theorem wdiv8 (j : Nat) (h : j < 32) : wrap64 (Int.tdiv (j : Int) 8) = ((j / 8 : Nat) : Int) := by
 rw [Int.tdiv_eq_ediv_of_nonneg (by omega), w64 _ (by omega) (by omega)]; omega
theorem tmod8 (j : Nat) : Int.tmod (j : Int) 8 = ((j % 8 : Nat) : Int) := by rw [Int.tmod_eq_emod_of_nonneg (by omega)]; omega
theorem app_get (A P M B : List UInt8) (i : Nat) (hi : i < M.length) : (A ++ (P ++ M ++ B)).getD (A.length + P.length + i) 0 = M.getD i 0 := by
 rw [List.getD_eq_getElem?_getD, List.getD_eq_getElem?_getD, List.getElem?_append_right (by omega), List.append_assoc, List.getElem?_append_right (by omega), List.getElem?_append_left (by omega), show A.length + P.length + i - A.length - P.length = i by omega]
theorem app_set (A P M B : List UInt8) (i : Nat) (hi : i < M.length) (c : UInt8) : (A ++ (P ++ M ++ B)).set (A.length + P.length + i) c = A ++ (P ++ M.set i c ++ B) := by
 rw [List.set_append_right _ _ (by omega), List.append_assoc, List.set_append_right _ _ (by omega), show A.length + P.length + i - A.length - P.length = i by omega, List.set_append_left _ _ hi, List.append_assoc]
set_option maxHeartbeats 1000000 in
theorem torn_turn (L : List S24) (w : Nat) (hw : w < L.length) (hL : ∀ x ∈ L, okT x ∧ goodS x = true) (hn : L.length ≤ 60) (W : BitVec 32) (hW : W ≠ 0#32) : ∀ (d j : Nat) (M : List UInt8), j + d = 32 →
  TurnedTo (sealed (bodyS (L[w]'hw).f0.toNat (L[w]'hw).f1.toNat (L[w]'hw).f2.toNat (L[w]'hw).f3.toNat (txtS (L[w]'hw)))) M 0 W j →
  Ev (fun k => l12_StepTorn.l2 k ((W.toNat : Nat) : Int) L (w : Int) (((recsL (L.take w)).length : Nat) : Int) (toI (recsL (L.take w) ++ (putN (21 + (txtS (L[w]'hw)).length) 2 ++ M ++ recsL (L.drop (w + 1))))) (j : Int)) true := by
 intro d
 induction d with
 | zero =>
  intro j M hj h
  obtain rfl : j = 32 := by omega
  exact torn_fin L w hw hL hn M W hW (turnedTo_all h)
 | succ d ih =>
  intro j M hj h
  have hM := h.1
  rw [sealed_length, bodyS_length] at hM
  have hA : ∀ x ∈ L.take w, okT x ∧ goodS x = true := fun x hx => hL x (List.mem_of_mem_take hx)
  have l1 := recsL_len (L.take w) (fun x hx => (hA x hx).1)
  rw [List.length_take] at l1
  obtain ⟨E, hE⟩ : ∃ E, (recsL (L.take w)).length = E := ⟨_, rfl⟩
  rw [hE] at l1
  have q1 : (j : Int) < 32 := by omega
  have q2 : (0 : Int) ≤ (j : Int) := by omega
  have q3 : (0 : Int) ≤ ((E + 2 + j / 8 : Nat) : Int) := by omega
  have q5 : (0 : Int) ≤ ((j % 8 : Nat) : Int) := by omega
  have q6 : j < 32 := by omega
  have q7 : j + 1 + d = 32 := by omega
  have hin : j / 8 < M.length := by omega
  have hget := app_get (recsL (L.take w)) (putN (21 + (txtS (L[w]'hw)).length) 2) M (recsL (L.drop (w + 1))) (j / 8) hin
  have hset := app_set (recsL (L.take w)) (putN (21 + (txtS (L[w]'hw)).length) 2) M (recsL (L.drop (w + 1))) (j / 8) hin
  rw [hE, putN_length] at hget
  simp only [hE, putN_length] at hset
  have hlen : E + 2 + j / 8 < (recsL (L.take w) ++ (putN (21 + (txtS (L[w]'hw)).length) 2 ++ M ++ recsL (L.drop (w + 1)))).length := by
   rw [List.length_append, List.length_append, List.length_append, hE, putN_length]
   clear hget hset ih hL hA h hW l1
   omega
  have q4 : ((E + 2 + j / 8 : Nat) : Int) < ((toI (recsL (L.take w) ++ (putN (21 + (txtS (L[w]'hw)).length) 2 ++ M ++ recsL (L.drop (w + 1))))).length : Int) := by rw [toI_len]; omega
  have hlt : (M.getD (j / 8) 0).toNat ^^^ 2 ^ (j % 8) < 256 := Nat.xor_lt_two_pow (n := 8) (M.getD (j / 8) 0).toNat_lt (Nat.pow_lt_pow_right (by decide) (Nat.mod_lt _ (by decide)))
  have hpw : 2 ^ (j % 8) < 256 := Nat.pow_lt_pow_right (m := j % 8) (n := 8) (by decide) (Nat.mod_lt _ (by decide))
  have m8 : j % 8 < 8 := Nat.mod_lt _ (by decide)
  have q8 : E + 2 ≤ 1000000 := by clear hlt hpw hget hset; omega
  have q9 : E + 2 + j / 8 ≤ 1000000 := by clear hlt hpw hget hset; omega
  have e0 : wrap64 ((E : Int) + 2) = ((E + 2 : Nat) : Int) := wsum E 2 q8
  have e2 : wrap64 (Int.tdiv (j : Int) 8) = ((j / 8 : Nat) : Int) := wdiv8 j q6
  have e1 : wrap64 (((E + 2 : Nat) : Int) + ((j / 8 : Nat) : Int)) = ((E + 2 + j / 8 : Nat) : Int) := wsum (E + 2) (j / 8) q9
  have e3 : Int.tmod (j : Int) 8 = ((j % 8 : Nat) : Int) := tmod8 j
  have hw1 : wrap64 ((j : Int) + 1) = ((j + 1 : Nat) : Int) := wsum j 1 (Nat.le_trans q6 (by decide))
  cases hb : W.getLsbD j with
  | false =>
   refine Ev.step (fun k => ?_) (ih (j + 1) M q7 (turnedTo_skip h hb))
   simp only [l12_StepTorn.l2]
   rw [if_pos q1, if_pos q2, bit_is W j q6, hb, if_neg (by decide), hw1]
  | true =>
   refine Ev.step (fun k => ?_) (ih (j + 1) _ q7 (turnedTo_turn h hb hin))
   rw [← hset, ← set_toI _ _ _ hlt]
   rw [hE]
   simp only [l12_StepTorn.l2]
   rw [if_pos q1, if_pos q2, bit_is W j q6, hb, if_pos rfl, if_pos rfl, e0, e2, e1, e3, if_pos q3, if_pos q4, if_pos q5, rd_toI, hget, shl_one _ m8, u8_xor_nat _ _ (M.getD (j / 8) 0).toNat_lt hpw, Int.toNat_natCast, hw1]
theorem torn_cut (L : List S24) (hL : ∀ x ∈ L, okT x ∧ goodS x = true) (hn : L.length ≤ 60) (W : BitVec 32) (w c : Nat) (hw : w ≤ L.length) (h1 : (recsL (L.take w)).length ≤ c) (h2 : w < L.length → c < (recsL (L.take (w + 1))).length) (hc : c ≤ (recsL L).length) :
  Ev (fun k => l12_StepTorn.j3 k (c : Int) ((W.toNat : Nat) : Int) (ba (recsL L)) L (endsS L) (w : Int) (((recsL (L.take w)).length : Nat) : Int)) true := by
 have hA : ∀ x ∈ L.take w, okT x ∧ goodS x = true := fun x hx => hL x (List.mem_of_mem_take hx)
 have hlen := recsL_len L (fun x hx => (hL x hx).1)
 obtain ⟨T, hT, he⟩ : ∃ T, (recsL L).take c = recsL (L.take w) ++ T ∧ (takeS T).err ≠ 0 := by
  rcases Nat.lt_or_ge w L.length with hlt | hge
  ·have h3 := h2 hlt
   rw [recsL_take_succ L w hlt, List.length_append] at h3
   refine ⟨(recS (L[w]'hlt)).take (c - (recsL (L.take w)).length), ?_, take_cut _ _ (by omega) (by have := (hL _ (List.getElem_mem hlt)).1.2; omega)⟩
   rw [recsL_split L w hlt, List.take_append, List.take_of_length_le h1]
   congr 1
   rw [List.take_append_of_le_length (by omega)]
  ·obtain rfl : w = L.length := by omega
   rw [List.take_length] at h1 ⊢
   exact ⟨[], by rw [List.append_nil]; exact List.take_of_length_le h1, by rw [take_nil]; decide⟩
 have hlc : ((recsL L).take c).length = c := by rw [List.length_take]; omega
 have hs := ev_scan ((recsL L).take c) (by omega)
 have hlc' := hlc
 rw [hT, List.length_append] at hlc'
 rw [hT, scan_recs (L.take w) T _ hA he (Nat.le_refl _), ← hT, hlc] at hs
 refine Ev.step (fun k => by simp only [l12_StepTorn.j3]; rw [if_pos (by omega), ba_size, if_pos (by omega), Int.toNat_natCast, ba_take]) (Ev.bind hs ?_)
 refine Ev.congr (fun k => by rw [if_pos (by omega), if_pos (by omega), Int.toNat_natCast]) (Ev.bind (steps12 (L.take w) (by rw [List.length_take]; omega)) ?_)
 refine Ev.bind (same (L.take w) (by rw [List.length_take]; omega)) ?_
 have e4 : ((c : Int) - (T.length : Int) != (((recsL (L.take w)).length : Nat) : Int)) = false := by
  rw [bne_eq_false_iff_eq]; omega
 have fin : Ev (fun k => l12_StepTorn.j5 k ((W.toNat : Nat) : Int) (ba (recsL L)) L (w : Int) (((recsL (L.take w)).length : Nat) : Int) true) true := by
  refine Ev.step (f := fun _ => some true) (fun k => ?_) (Ev.now _)
  simp only [l12_StepTorn.j5]
  exact if_pos trivial
 refine Ev.congr (fun k => by rw [if_pos rfl, e4]) ?_
 refine Ev.step (fun k => by simp only [l12_StepTorn.j4]; exact if_neg (by decide)) ?_
 by_cases hwl : w = L.length
 ·exact Ev.congr (fun k => if_pos (by omega)) fin
 refine Ev.congr (fun k => if_neg (by omega)) ?_
 by_cases hW : W = 0#32
 ·subst hW
  exact Ev.congr (fun k => if_pos rfl) fin
 have hW0 : ¬ ((W.toNat : Nat) : Int) = 0 := fun h => hW (BitVec.eq_of_toNat_eq (by simpa using h))
 have hlt : w < L.length := by omega
 have h3 := recsL_take_succ L w hlt
 have h4 := recS_len (L[w]'hlt)
 have h5 := congrArg List.length h3
 rw [List.length_append] at h5
 have h6 := recsL_len (L.take (w + 1)) (fun x hx => (hL x (List.mem_of_mem_take hx)).1)
 rw [List.length_take] at h6
 have e8 : decide (wrap64 ((((recsL (L.take (w + 1))).length : Nat) : Int) - (((recsL (L.take w)).length : Nat) : Int)) < 8) = false := by
  rw [w64 _ (by omega) (by omega)]
  exact decide_eq_false (by omega)
 refine Ev.congr (fun k => by rw [if_neg hW0, if_pos (by omega), endsS_len, if_pos (by omega), endsS_get L w hlt, e8]) ?_
 refine Ev.step (fun k => by simp only [l12_StepTorn.j5]; rw [if_neg (by decide), if_pos (by rw [ba_size]; omega), ← toI_bytes]) ?_
 have hz := torn_turn L w hlt hL hn W hW 32 0 (sealed (bodyS (L[w]'hlt).f0.toNat (L[w]'hlt).f1.toNat (L[w]'hlt).f2.toNat (L[w]'hlt).f3.toNat (txtS (L[w]'hlt)))) rfl ⟨rfl, fun k => by rw [decide_eq_false (by omega), Bool.false_and, Bool.xor_false]⟩
 have hr : recsL (L.take w) ++ (putN (21 + (txtS (L[w]'hlt)).length) 2 ++ sealed (bodyS (L[w]'hlt).f0.toNat (L[w]'hlt).f1.toNat (L[w]'hlt).f2.toNat (L[w]'hlt).f3.toNat (txtS (L[w]'hlt))) ++ recsL (L.drop (w + 1))) = recsL L := by
  rw [recsL_split L w hlt]
  congr 2
  unfold recS recordS
  rw [sealed_length, bodyS_length, show 17 + (txtS (L[w]'hlt)).length + 4 = 21 + (txtS (L[w]'hlt)).length by omega]
 rw [hr] at hz
 exact hz
theorem torn_whole (L : List S24) (hL : ∀ x ∈ L, okT x ∧ goodS x = true) (hn : L.length ≤ 60) (W : BitVec 32) (c : Nat) (hc : c ≤ (recsL L).length) : ∀ (d w : Nat), w + d = L.length → (recsL (L.take w)).length ≤ c →
  Ev (fun k => l12_StepTorn.l1 k (c : Int) ((W.toNat : Nat) : Int) (ba (recsL L)) L (endsS L) (w : Int) (((recsL (L.take w)).length : Nat) : Int)) true := by
 intro d
 induction d with
 | zero =>
  intro w hw h1
  refine Ev.step (fun k => ?_) (torn_cut L hL hn W w c (by omega) h1 (fun h => by omega) hc)
  simp only [l12_StepTorn.l1]
  rw [if_neg (by omega)]
 | succ d ih =>
  intro w hw h1
  have hlt : w < L.length := by omega
  have hg := endsS_get L w hlt
  by_cases h : (recsL (L.take (w + 1))).length ≤ c
  ·refine Ev.step (fun k => ?_) (ih (w + 1) (by omega) h)
   simp only [l12_StepTorn.l1]
   rw [if_pos (by omega), if_pos (by omega), endsS_len, if_pos (by omega), hg, if_pos (by omega), w64s w (by omega)]
  ·refine Ev.step (fun k => ?_) (torn_cut L hL hn W w c (by omega) h1 (fun _ => by omega) hc)
   simp only [l12_StepTorn.l1]
   rw [if_pos (by omega), if_pos (by omega), endsS_len, if_pos (by omega), hg, if_neg (by omega)]
theorem torn_puts (l : List S24) (hl : ∀ x ∈ l, okT x) (hn : l.length ≤ 60) (cut : Int) (W : BitVec 32) : ∀ (d i : Nat), i + d = l.length →
  Ev (fun k => l12_StepTorn.l0 k l cut ((W.toNat : Nat) : Int) (ba (recsL ((l.take i).filter goodS))) ((l.take i).filter goodS) (endsS ((l.take i).filter goodS)) (i : Int)) true := by
 intro d
 induction d with
 | zero =>
  intro i hi
  rw [List.take_of_length_le (by omega)]
  have hL : ∀ x ∈ l.filter goodS, okT x ∧ goodS x = true := fun x hx => ⟨hl x (List.mem_filter.1 hx).1, (List.mem_filter.1 hx).2⟩
  have hn' : (l.filter goodS).length ≤ 60 := Nat.le_trans (List.length_filter_le _ _) hn
  obtain ⟨c, hc, hcl⟩ : ∃ c : Nat, mx 0 (mn cut ((recsL (l.filter goodS)).length : Int)) = (c : Int) ∧ c ≤ (recsL (l.filter goodS)).length := by
   refine ⟨(mx 0 (mn cut ((recsL (l.filter goodS)).length : Int))).toNat, ?_, ?_⟩ <;> unfold mx mn <;> split <;> split <;> omega
  have h := torn_whole (l.filter goodS) hL hn' W c hcl (l.filter goodS).length 0 (by omega) (by simp [recsL])
  refine Ev.step (fun k => ?_) h
  simp only [l12_StepTorn.l0]
  rw [if_neg (by omega), ba_size, hc]
  rfl
 | succ d ih =>
  intro i hi
  have hlt : i < l.length := by omega
  have hx := hl _ (List.getElem_mem hlt)
  have h2 := ih (i + 1) (by omega)
  rw [List.take_succ_eq_append_getElem hlt, List.filter_append] at h2
  have hfl : ((l.take i).filter goodS).length ≤ 60 := Nat.le_trans (List.length_filter_le _ _) (by rw [List.length_take]; omega)
  have hrl := recsL_len ((l.take i).filter goodS) (fun x hx => hl x (List.mem_of_mem_take (List.mem_filter.1 hx).1))
  have hr := recS_len (l[i]'hlt)
  have ht := hx.2
  have hp := ev_put24 (l[i]'hlt) hx
  refine Ev.step (fun k => by simp only [l12_StepTorn.l0]; rw [if_pos (by omega), if_pos (by omega), rd24 l i hlt]) (Ev.bind hp ?_)
  unfold putO
  cases hg : goodS (l[i]'hlt) with
  | true =>
   rw [List.filter_cons_of_pos hg, List.filter_nil, recsL_append] at h2
   rw [endsS_snoc, recsL_append] at h2
   have e : recsL [l[i]'hlt] = recS (l[i]'hlt) := by simp [recsL]
   rw [e] at h2
   rw [if_pos rfl]
   refine Ev.congr (fun k => ?_) h2
   show (if (0 : Int) = 0 then _ else _) = _
   rw [if_pos rfl, ba_size, ba_size, if_pos (by omega), if_pos (by omega), endsS_len, if_pos (by omega), ba_append, ba_size, w64s i (by omega)]
  | false =>
   rw [List.filter_cons_of_neg (by rw [hg]; decide), List.filter_nil, List.append_nil] at h2
   rw [if_neg (by decide)]
   refine Ev.congr (fun k => ?_) h2
   show (if (1 : Int) = 0 then _ else _) = _
   rw [if_neg (by decide), w64s i (by omega)]
theorem StepTorn (l : List S24) (cut which : Int) (hw : ∀ x ∈ l, 0 ≤ x.f3 ∧ x.f3 < 18446744073709551616) (_hc : -9223372036854775808 ≤ cut ∧ cut < 9223372036854775808) (he : 0 ≤ which ∧ which < 4294967296) : ∃ k, l12_StepTorn.f k l cut which = some true := by
 obtain ⟨W, rfl⟩ : ∃ W : BitVec 32, which = ((W.toNat : Nat) : Int) := ⟨BitVec.ofNat 32 which.toNat, by rw [BitVec.toNat_ofNat, Nat.mod_eq_of_lt (by omega)]; omega⟩
 obtain ⟨b, hb, hs⟩ := short2 l
 refine Ev.rounds (Ev.bind shown12 (Ev.bind hb (Ev.congr (fun k => if_pos rfl) ?_)))
 cases b with
 | false =>
  refine Ev.step (f := fun _ => some true) (fun k => ?_) (Ev.now _)
  simp only [l12_StepTorn.j0]
  exact if_pos rfl
 | true =>
  obtain ⟨h60, ht⟩ := hs rfl
  have h := torn_puts l (fun x hx => ⟨hw x hx, ht x hx⟩) h60 cut W l.length 0 (by omega)
  refine Ev.step (fun k => ?_) h
  simp only [l12_StepTorn.j0]
  rw [if_neg (by decide)]
  rfl
end Go.Proofs.YtboommbclbjlnaaDoor.Pu
end
section
namespace Go.Proofs.YtboommbclbjlnaaDoor.RowB
open Go.Shelf Go.ChangeShapes Go.WideShapes Go.ChangeAt Go.RowKit Go.Lib Go.Deep
theorem own : ownKnob Tryd.prog.godebug = none := by kernel_rfl
theorem laidOut : laidOutB Tryd.prog = true := by kernel_rfl
theorem accept_eq : (Rows.laid_unicode_utf8_acceptRanges : DataW Unit) = acceptData := by kernel_rfl
theorem first_eq : Rows.laid_unicode_utf8_first = firstData := by unfold Rows.laid_unicode_utf8_first; exact Pinned.utf8First_eq
theorem tabs {W : World} (h : laidMetH Tryd.prog [("unicode/utf8.acceptRanges", Rows.laid_unicode_utf8_acceptRanges), ("unicode/utf8.first", Rows.laid_unicode_utf8_first)] W) : Lf.Tabs W := by
  have h' : laidMet Tryd.prog [("unicode/utf8.acceptRanges", Rows.laid_unicode_utf8_acceptRanges), ("unicode/utf8.first", Rows.laid_unicode_utf8_first)] W := h
  have h1 := Lib.laidMet.reads h' (.head _)
  have h2 := Lib.laidMet.reads h' (.tail _ (.head _))
  rw [accept_eq] at h1
  rw [first_eq] at h2
  exact ⟨utf8Tabs_of_readsT (U8Types.of196 Lf.laysValid) ⟨by kernel_rfl, by kernel_rfl, by kernel_rfl, by kernel_rfl, by kernel_rfl, by kernel_rfl, by kernel_rfl⟩ h2 h1⟩
noncomputable def laidWorld (os : Os) : World :=
  let w0 := World.holding Tryd.prog os ⟨#[], #[], []⟩
  let put (h : Array Obj) (g : Nat) (cs : Array Value) : Array Obj := h.modify g fun
    | .cells _ t frozen => .cells cs t frozen
    | o => o
  let h1 := put w0.heap 0 (Lib.firstTab.map fun z => Value.int .u8 z).toArray
  let h2 := put h1 1 ((List.range 16).flatMap fun i => [Value.int .u8 (Lib.accLo i), Value.int .u8 (Lib.accHi i)]).toArray
  { w0 with heap := h2 }
theorem laid_met (os : Os) (args : Array Value) : laidMet Tryd.prog [("unicode/utf8.acceptRanges", Rows.laid_unicode_utf8_acceptRanges), ("unicode/utf8.first", Rows.laid_unicode_utf8_first)] ((laidWorld os).forCall (fun _ _ => 0) ⟨#[], args, []⟩).memory := by
  rw [accept_eq, first_eq]
  exact laidMet_of_run' 8 (by kernel_rfl) (by kernel_rfl)
end Go.Proofs.YtboommbclbjlnaaDoor.RowB
end
section
namespace Go.Proofs.YtboommbclbjlnaaDoor.RowA
open Go.Shelf Go.ChangeShapes Go.WideShapes Go.ChangeAt Go.RowKit Go.Lib Go.Deep
open Go.ChangeMaps (open_string shut_string)
set_option maxRecDepth 100000
section
variable {H : Type} {enc : TypeId × Value → H} {W : World} {base b0 : Nat} {sp : Nat → Bool} {held : Bool}
theorem open_num {t : TypeId} {k : IntKind} (ht : Tryd.prog.underlying t = some (.int k)) {r : Reach} {v : Value} {d : DataW H} {p : List MemPlace} (hv : Value.okWide Tryd.prog W r b0 t v)
    (h : DataW.Trod enc Tryd.prog W base sp held t v d p) : ∃ a : Int, v = .int k a ∧ (Lit.int k a).wf = true := by
  obtain ⟨a, rfl, _, _, w⟩ := open_int ht hv h
  exact ⟨a, rfl, w⟩
theorem cells3 : Tryd.prog.cellsOf 3 = 1 := by kernel_rfl
theorem cells9 : Tryd.prog.cellsOf 9 = 1 := by kernel_rfl
theorem cells22 : Tryd.prog.cellsOf 22 = 1 := by kernel_rfl
theorem cells24 : Tryd.prog.cellsOf 24 = 5 := by kernel_rfl
end
end Go.Proofs.YtboommbclbjlnaaDoor.RowA
end
section
namespace Go.Proofs.YtboommbclbjlnaaDoor.RowA
open Go.Shelf Go.ChangeShapes Go.WideShapes Go.ChangeAt Go.RowKit Go.Lib Go.Deep Go.Proofs.YtboommbclbjlnaaDoorW.PrintWords Go.Proofs.YtboommbclbjlnaaDoor.Fn
set_option maxRecDepth 100000
section
variable {H : Type} {enc : TypeId × Value → H} {W : World} {base b0 : Nat} {sp : Nat → Bool} {held : Bool}
def okStep (x : S24) : Prop := 0 ≤ x.f3 ∧ x.f3 < 18446744073709551616
theorem core24 {fuel : Nat} {cs : List Value} {y : DataW H × List MemPlace} (h : DataW.trod enc Tryd.prog W base sp held fuel 24 cs = some y) : ∃ x : S24, k24.K W x cs ∧ okStep x := by
  obtain ⟨xs, n, _, hx, hl, hlen, hg⟩ := DataW.trod_struct Tryd.underlying24 h
  match cs, hl.trans cells24 with
  | [c0, c1, c2, c3, c4], _ =>
    match xs, hlen with
    | [y0, y1, y2, y3, y4], _ =>
      have g0 := hg 0 _ rfl
      change DataW.trod enc Tryd.prog W base sp held n 3 (([c0, c1, c2, c3, c4].drop 0).take (Tryd.prog.cellsOf 3)) = some y0 at g0
      rw [cells3] at g0
      have g1 := hg 1 _ rfl
      change DataW.trod enc Tryd.prog W base sp held n 3 (([c0, c1, c2, c3, c4].drop 1).take (Tryd.prog.cellsOf 3)) = some y1 at g1
      rw [cells3] at g1
      have g2 := hg 2 _ rfl
      change DataW.trod enc Tryd.prog W base sp held n 3 (([c0, c1, c2, c3, c4].drop 2).take (Tryd.prog.cellsOf 3)) = some y2 at g2
      rw [cells3] at g2
      have g3 := hg 3 _ rfl
      change DataW.trod enc Tryd.prog W base sp held n 22 (([c0, c1, c2, c3, c4].drop 3).take (Tryd.prog.cellsOf 22)) = some y3 at g3
      rw [cells22] at g3
      have g4 := hg 4 _ rfl
      change DataW.trod enc Tryd.prog W base sp held n 9 (([c0, c1, c2, c3, c4].drop 4).take (Tryd.prog.cellsOf 9)) = some y4 at g4
      rw [cells9] at g4
      obtain ⟨m0, e0, _, w0⟩ := DataW.trod_int Tryd.underlying3 g0
      obtain ⟨m1, e1, _, w1⟩ := DataW.trod_int Tryd.underlying3 g1
      obtain ⟨m2, e2, _, w2⟩ := DataW.trod_int Tryd.underlying3 g2
      obtain ⟨m3, e3, _, w3⟩ := DataW.trod_int Tryd.underlying22 g3
      obtain ⟨m4, e4, _, w4⟩ := DataW.trod_string Tryd.underlying9 g4
      cases e0; cases e1; cases e2; cases e3; cases e4
      refine ⟨⟨m0, m1, m2, m3, m4⟩, k24_mk W _, ?_⟩
      have hb := bounds_u64 w3
      exact ⟨hb.1, by show m3 < _; omega⟩
theorem open_row {α : Type} (d : Kd α) (Q : α → Prop) {t e : TypeId} (ht : Tryd.prog.underlying t = some (.slice e)) (hsz : Tryd.prog.cellsOf e = d.sz)
    (core : ∀ (fuel : Nat) (cs : List Value) (y : DataW H × List MemPlace), DataW.trod enc Tryd.prog W base sp held fuel e cs = some y → ∃ x : α, d.K W x cs ∧ Q x)
    {fuel : Nat} {cs : List Value} {y : DataW H × List MemPlace} (h : DataW.trod enc Tryd.prog W base sp held fuel t cs = some y) :
    ∃ (A : Option Addr) (l : List α) (c : Nat), cs = [.slice A l.length c] ∧ d.C W A l.length l ∧ l.length ≤ c ∧ ∀ x ∈ l, Q x := by
  rcases open_slice ht h with ⟨rfl, _⟩ | ⟨a, len, cap, m, n, D, Pl, rfl, hb, hl, hm, hmm, hx, hi⟩
  · exact ⟨none, [], 0, rfl, ⟨rfl, Nat.zero_le _, fun h => absurd h (by simp)⟩, Nat.le_refl _, fun x hx => by cases hx⟩
  · have hml : len ≤ m := by rw [hmm]; split <;> omega
    have hall : ∀ k, k ≤ len → ∃ l : List α, l.length = k ∧ (∀ x ∈ l, Q x) ∧ ∀ j p, l[j]? = some p → ∃ c, c.length = d.sz ∧ d.K W p c ∧ ∀ i u, c[i]? = some u → W.cell? (a.add (j * d.sz + i)) = some u := by
      intro k
      induction k with
      | zero => intro _; exact ⟨[], rfl, (fun x hx => by cases hx), (fun j p hj => by simp at hj)⟩
      | succ k ih =>
        intro hk
        obtain ⟨l, hlen, hq, hg⟩ := ih (by omega)
        obtain ⟨cs', hc, ht'⟩ := hi k (by omega)
        obtain ⟨x, hK, hQ⟩ := core _ _ _ ht'
        obtain ⟨_, hcl, hat⟩ := World.cells?_some hc
        rw [hsz] at hcl hat
        refine ⟨l ++ [x], by simp [hlen], fun z hz => ?_, fun j p hj => ?_⟩
        · rcases List.mem_append.1 hz with hz | hz
          · exact hq z hz
          · rw [List.mem_singleton.1 hz]; exact hQ
        · rcases Nat.lt_or_ge j l.length with hjl | hjl
          · rw [List.getElem?_append_left hjl] at hj
            exact hg j p hj
          · rw [List.getElem?_append_right hjl] at hj
            have hj0 : j - l.length = 0 := by
              rcases Nat.eq_zero_or_pos (j - l.length) with h0 | h0
              · exact h0
              · rw [List.getElem?_eq_none (by simp only [List.length_singleton]; omega)] at hj; cases hj
            rw [hj0] at hj
            cases hj
            refine ⟨cs', hcl, hK, fun i u hu => ?_⟩
            have hil : i < d.sz := by rw [← hcl]; exact (List.getElem?_eq_some_iff.1 hu).1
            have h1 := hat i hil
            rw [← Go.Deep.add_add, show j = k by omega, h1, hu]
    obtain ⟨l, hlen, hq, hg⟩ := hall len (Nat.le_refl _)
    subst hlen
    exact ⟨some a, l, cap, rfl, ⟨rfl, by unfold maxLen at hm; omega, fun _ => ⟨a, rfl, hg⟩⟩, hl, hq⟩
theorem open_steps {r : Reach} {v : Value} {d : DataW H} {p : List MemPlace} (hv : Value.okWide Tryd.prog W r b0 29 v) (h : DataW.Trod enc Tryd.prog W base sp held 29 v d p) :
    ∃ (A : Option Addr) (l : List S24) (c : Nat), v = .slice A l.length c ∧ Kd.C k24 W A l.length l ∧ l.length ≤ c ∧ ∀ x ∈ l, okStep x := by
  obtain ⟨a, n, c, rfl⟩ := okWide_slice Tryd.underlying29 hv
  obtain ⟨fuel, hf⟩ := h
  obtain ⟨A, l, c', e, h1, h2, h3⟩ := open_row k24 okStep Tryd.underlying29 cells24 (fun _ _ _ => core24) hf
  exact ⟨A, l, c', List.singleton_inj.1 e, h1, h2, h3⟩
end
end Go.Proofs.YtboommbclbjlnaaDoor.RowA
end
