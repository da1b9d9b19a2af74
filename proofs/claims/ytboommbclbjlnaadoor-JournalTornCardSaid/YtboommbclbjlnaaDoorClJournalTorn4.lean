-- Packed by pack.py, a program of this session, out of texts of this claim.
import Derived.Test.YtboommbclbjlnaaDoorPlBytes
import Derived.Test.YtboommbclbjlnaaDoorPlCrc
import Derived.Test.YtboommbclbjlnaaDoorClJournalTorn1
import Derived.Test.YtboommbclbjlnaaDoorPlRunes
import Derived.Test.YtboommbclbjlnaaDoorClJournalTorn2
import Derived.Test.YtboommbclbjlnaaDoorPlBurst
import Derived.Test.YtboommbclbjlnaaDoorClJournalTorn3
import Derived.Test.YtboommbclbjlnaaDoorRows
import Derived.Test.YtboommbclbjlnaaDoorLfValid
import Derived.Lib.LaidU8T
import Derived.Lib.LaidTab
import Derived.PinnedBridge
import Derived.WalkKit
import Derived.ProofKit
import Derived.OpenShut
import Derived.ChangeOld
import Derived.Below
import Derived.SizedLaws
import Derived.Carry
import Derived.Deep.DeepHandedRow
import Derived.Deep.DeepWitnessRowRef
import Derived.Deep.Fields
import Derived.Lib.SmallJoins
import Derived.Deep.Slices
section
namespace Go.Proofs.YtboommbclbjlnaaDoor.Pu
open Go Go.RowKit Go.Proofs.YtboommbclbjlnaaDoor.Pl Go.Proofs.YtboommbclbjlnaaDoor.Lf Go.Proofs.YtboommbclbjlnaaDoor.Fn Go.Proofs.YtboommbclbjlnaaDoorW.PrintWords
theorem u64_nat (n : Nat) (h : n < 18446744073709551616) : IntKind.u64.wrap (n : Int) = (n : Int) := by
 simp [IntKind.wrap, IntKind.bits, IntKind.signed]; omega
theorem w64 (x : Int) (h0 : -9223372036854775808 ≤ x) (h1 : x < 9223372036854775808) : wrap64 x = x := by unfold wrap64; omega
theorem str_put (n m : Nat) : strOfNums (Go.Proofs.YtboommbclbjlnaaDoor.Lf.bytesOf (n : Int) m) = ba (putN n m) := by
 unfold strOfNums Go.Proofs.YtboommbclbjlnaaDoor.Lf.bytesOf putN ba
 rw [List.map_map]
 congr 2
theorem put_eq (n : Nat) (h : n < 18446744073709551616) (m : Int) : le_Put.f (n : Int) m = some (ba (putN n (many8 m))) := by
 unfold le_Put.f
 rw [if_pos ⟨by omega, by omega⟩, str_put]
theorem bx (a b : BitVec 32) : bits .xor .u32 ((a.toNat : Nat) : Int) ((b.toNat : Nat) : Int) = (((a ^^^ b).toNat : Nat) : Int) := by
 rw [u32_xor_nat _ _ a.isLt b.isLt, BitVec.toNat_xor]
theorem nib_eq (r : BitVec 32) : nib ((r.toNat : Nat) : Int) = (((ticks 4 r).toNat : Nat) : Int) := by
 unfold nib
 have e1 : ((r.toNat : Nat) : Int) / (16 : Int) = (((r >>> 4).toNat : Nat) : Int) := by
  rw [BitVec.toNat_ushiftRight, Nat.shiftRight_eq_div_pow]; omega
 have e2 : bits .and .u32 ((r.toNat : Nat) : Int) 15 = (((r &&& 15#32).toNat : Nat) : Int) := by
  have := u32_and_nat r.toNat 15 r.isLt (by omega)
  rw [show ((15 : Nat) : Int) = 15 from rfl] at this
  rw [this, BitVec.toNat_and]; rfl
 have e3 : ((tabL.getD ((r &&& 15#32).toNat : Int).toNat 0 : Nat) : Int) = (((ticks 4 (r &&& 15#32)).toNat : Nat) : Int) := by
  have hlt : (r &&& 15#32).toNat < 16 := by
   rw [BitVec.toNat_and]; exact Nat.and_lt_two_pow (n := 4) _ (by decide)
  have key : ∀ i : Fin 16, tabL.getD i.val 0 = (ticks 4 (BitVec.ofNat 32 i.val)).toNat := by decide +kernel
  have := key ⟨(r &&& 15#32).toNat, hlt⟩
  simp only [BitVec.ofNat_toNat, BitVec.setWidth_eq] at this
  rw [Int.toNat_natCast, this]
 rw [e1, e2, e3, bx, ← ticks4_split]
theorem byteStep_eq (r : BitVec 32) (c : UInt8) : byteStep ((r.toNat : Nat) : Int) c = (((crcB r c).toNat : Nat) : Int) := by
 unfold byteStep crcB
 have hc := c.toNat_lt
 have e : (c.toNat : Int) % 4294967296 = (((BitVec.ofNat 32 c.toNat).toNat : Nat) : Int) := by
  rw [BitVec.toNat_ofNat, Nat.mod_eq_of_lt (by omega)]; omega
 rw [e, bx, nib_eq, nib_eq, ← ticks8]
theorem sumI_eq (l : List UInt8) : sumI l = (((crcR (BitVec.allOnes 32) l).toNat : Nat) : Int) := by
 have key : ∀ (l : List UInt8) (r : BitVec 32), l.foldl byteStep ((r.toNat : Nat) : Int) = (((crcR r l).toNat : Nat) : Int) := by
  intro l
  induction l with
  | nil => intro r; rfl
  | cons c l ih => intro r; rw [List.foldl_cons, byteStep_eq, ih]; rfl
 exact key l (BitVec.allOnes 32)
theorem not_eq (r : BitVec 32) : bits .xor .u32 4294967295 ((r.toNat : Nat) : Int) = (((~~~r).toNat : Nat) : Int) := by
 have := bx (BitVec.allOnes 32) r
 rw [BitVec.allOnes_xor] at this
 exact this
theorem not_eq' (r : BitVec 32) : bits .xor .u32 ((r.toNat : Nat) : Int) 4294967295 = (((~~~r).toNat : Nat) : Int) := by
 have := bx r (BitVec.allOnes 32)
 rw [BitVec.xor_allOnes] at this
 exact this
theorem sum_eq (l : List UInt8) (h : l.length ≤ 9223372036854775807) : seal_Sum.f (ba l) = some (((crc l).toNat : Nat) : Int) := by
 unfold seal_Sum.f
 rw [ba_size, if_pos h, ba_list, sumI_eq, not_eq]
 rfl
def sealed (l : List UInt8) : List UInt8 := l ++ putN (crc l).toNat 4
theorem sealed_length (l : List UInt8) : (sealed l).length = l.length + 4 := by simp [sealed, putN_length]
theorem seal_put_eq (l : List UInt8) (h : l.length ≤ 1000000000) : seal_Put.f (ba l) = some (ba (sealed l)) := by
 unfold seal_Put.f
 have hc := (crc l).isLt
 rw [sum_eq l (by omega), Option.bind_some, u64_nat _ (by omega), put_eq _ (by omega), Option.bind_some]
 have : many8 4 = 4 := by decide
 rw [this, ba_size, ba_size, putN_length, if_pos (by omega), ba_append]
 rfl
theorem bt_ba (l : List UInt8) (i : Nat) (h : i < l.length) : bt (ba l) (i : Int) = ((l[i]'h).toNat : Int) := by
 unfold bt
 have h2 : (i : Int).toNat < (ba l).size := by rw [ba_size]; simpa using h
 rw [dif_pos h2]
 have : (ba l)[(i : Int).toNat]'h2 = l[i]'h := by
  show (ba l).data[(i : Int).toNat]'h2 = _
  simp [ba]
 rw [this]
end Go.Proofs.YtboommbclbjlnaaDoor.Pu
end
section
namespace Go.Proofs.YtboommbclbjlnaaDoor.Pu
open Go Go.Lib Go.RowKit Go.Proofs.YtboommbclbjlnaaDoor.Pl Go.Proofs.YtboommbclbjlnaaDoor.Lf Go.Proofs.YtboommbclbjlnaaDoor.Fn Go.Proofs.YtboommbclbjlnaaDoorW.PrintWords
theorem bt_all (l : List UInt8) (i : Nat) : bt (ba l) (i : Int) = ((l.getD i 0).toNat : Int) := by
 by_cases h : i < l.length
 ·rw [bt_ba l i h, List.getD_eq_getElem?_getD, List.getElem?_eq_getElem h]; rfl
 ·unfold bt
  rw [dif_neg (by rw [ba_size]; simpa using h), List.getD_eq_getElem?_getD, List.getElem?_eq_none (by omega)]
  rfl
def refN (n b0 b1 b2 b3 : Nat) : Int × Int :=
 if b0 < 128 then ((b0 : Int), 1)
 else if (194 ≤ b0 ∧ b0 ≤ 223) ∧ (1 < n ∧ 128 ≤ b1 ∧ b1 ≤ 191) then (((b0 : Int) - 192) * 64 + b1 - 128, 2)
 else if (224 ≤ b0 ∧ b0 ≤ 239) ∧ (1 < n ∧ 128 ≤ b1 ∧ b1 ≤ 191) ∧ (2 < n ∧ 128 ≤ b2 ∧ b2 ≤ 191) ∧ (2048 ≤ ((b0 : Int) - 224) * 4096 + ((b1 : Int) - 128) * 64 + b2 - 128 ∧ ¬ (55296 ≤ ((b0 : Int) - 224) * 4096 + ((b1 : Int) - 128) * 64 + b2 - 128 ∧ ((b0 : Int) - 224) * 4096 + ((b1 : Int) - 128) * 64 + b2 - 128 ≤ 57343)) then (((b0 : Int) - 224) * 4096 + ((b1 : Int) - 128) * 64 + b2 - 128, 3)
 else if (240 ≤ b0 ∧ b0 ≤ 244) ∧ (1 < n ∧ 128 ≤ b1 ∧ b1 ≤ 191) ∧ (2 < n ∧ 128 ≤ b2 ∧ b2 ≤ 191) ∧ (3 < n ∧ 128 ≤ b3 ∧ b3 ≤ 191) ∧ (65536 ≤ ((b0 : Int) - 240) * 262144 + ((b1 : Int) - 128) * 4096 + ((b2 : Int) - 128) * 64 + b3 - 128 ∧ ((b0 : Int) - 240) * 262144 + ((b1 : Int) - 128) * 4096 + ((b2 : Int) - 128) * 64 + b3 - 128 ≤ 1114111) then (((b0 : Int) - 240) * 262144 + ((b1 : Int) - 128) * 4096 + ((b2 : Int) - 128) * 64 + b3 - 128, 4)
 else (-1, 1)
theorem wb (b : Nat) (h : b < 256) : wrap64 (b : Int) = b := by unfold wrap64; omega
theorem wa2 (b0 b1 : Nat) (h0 : b0 < 256) (h1 : b1 < 256) : wrap64 (wrap64 (wrap64 (wrap64 ((b0 : Int) - 192) * 64) + b1) - 128) = ((b0 : Int) - 192) * 64 + b1 - 128 := by unfold wrap64; omega
theorem wa3 (b0 b1 b2 : Nat) (h0 : b0 < 256) (h1 : b1 < 256) (h2 : b2 < 256) : wrap64 (wrap64 (wrap64 (wrap64 (wrap64 ((b0 : Int) - 224) * 4096) + wrap64 (wrap64 ((b1 : Int) - 128) * 64)) + b2) - 128) = ((b0 : Int) - 224) * 4096 + ((b1 : Int) - 128) * 64 + b2 - 128 := by unfold wrap64; omega
theorem wa4 (b0 b1 b2 b3 : Nat) (h0 : b0 < 256) (h1 : b1 < 256) (h2 : b2 < 256) (h3 : b3 < 256) : wrap64 (wrap64 (wrap64 (wrap64 (wrap64 (wrap64 ((b0 : Int) - 240) * 262144) + wrap64 (wrap64 ((b1 : Int) - 128) * 4096)) + wrap64 (wrap64 ((b2 : Int) - 128) * 64)) + b3) - 128) = ((b0 : Int) - 240) * 262144 + ((b1 : Int) - 128) * 4096 + ((b2 : Int) - 128) * 64 + b3 - 128 := by unfold wrap64; omega
def c3 (b0 b1 b2 : Nat) : Int := ((b0 : Int) - 224) * 4096 + ((b1 : Int) - 128) * 64 + b2 - 128
def c4 (b0 b1 b2 b3 : Nat) : Int := ((b0 : Int) - 240) * 262144 + ((b1 : Int) - 128) * 4096 + ((b2 : Int) - 128) * 64 + b3 - 128
section
variable (s : ByteArray) (n b0 b1 b2 b3 : Nat) (h0 : b0 < 256) (h1 : b1 < 256) (h2 : b2 < 256) (h3 : b3 < 256) (S : (s.size : Int) = n)
  (B0 : bt s 0 = b0) (B1 : bt s 1 = b1) (B2 : bt s 2 = b2) (B3 : bt s 3 = b3)
include h0 h1 h2 h3 S B1 B2 B3
theorem rj3 (k : Nat) (q : Bool) (hq : q = true → 3 < n) : r1_Rune.j3 (k + 1) s b0 q = some (if q = true ∧ (65536 ≤ c4 b0 b1 b2 b3 ∧ c4 b0 b1 b2 b3 ≤ 1114111) then (c4 b0 b1 b2 b3, 4) else (-1, 1)) := by
 cases q
 ·rfl
 ·have hn := hq rfl
  have g1 : (1 : Int) < n := by omega
  have g2 : (2 : Int) < n := by omega
  have g3 : (3 : Int) < n := by omega
  simp only [r1_Rune.j3, S, if_pos g1, if_pos g2, if_pos g3, if_true, B1, B2, B3, wb b1 h1, wb b2 h2, wb b3 h3, wa4 b0 b1 b2 b3 h0 h1 h2 h3]
  show (if c4 b0 b1 b2 b3 ≥ 65536 then _ else _) = _
  by_cases x : c4 b0 b1 b2 b3 ≥ 65536
  ·rw [if_pos x]
   by_cases y : c4 b0 b1 b2 b3 ≤ 1114111
   ·rw [if_pos (show ((b0 : Int) - 240) * 262144 + ((b1 : Int) - 128) * 4096 + ((b2 : Int) - 128) * 64 + b3 - 128 ≤ 1114111 from y), if_pos ⟨trivial, x, y⟩]; rfl
   ·rw [if_neg (show ¬ ((b0 : Int) - 240) * 262144 + ((b1 : Int) - 128) * 4096 + ((b2 : Int) - 128) * 64 + b3 - 128 ≤ 1114111 from y), if_neg (fun h => y h.2.2)]
  ·rw [if_neg x, if_neg (fun h => x h.2.1)]
variable (m1 m2 m3 : Bool) (M1 : r1_more.f s 1 = some m1) (M2 : r1_more.f s 2 = some m2) (M3 : r1_more.f s 3 = some m3) (q1 : m1 = true → 1 < n) (q2 : m2 = true → 2 < n) (q3 : m3 = true → 3 < n)
include M1 M2 M3 q3
theorem rj2 (k : Nat) : r1_Rune.j2 (k + 2) s b0 = some (if (240 ≤ b0 ∧ b0 ≤ 244) ∧ m1 = true ∧ m2 = true ∧ m3 = true ∧ (65536 ≤ c4 b0 b1 b2 b3 ∧ c4 b0 b1 b2 b3 ≤ 1114111) then (c4 b0 b1 b2 b3, 4) else (-1, 1)) := by
 have J := fun q hq => rj3 s n b0 b1 b2 b3 h0 h1 h2 h3 S B1 B2 B3 k q hq
 have Jf := J false (fun h => by cases h)
 have J3 := J m3 q3
 rw [if_neg (by simp)] at Jf
 simp only [r1_Rune.j2, M1, M2, M3, Option.bind_some]
 by_cases x : 240 ≤ b0
 ·rw [if_pos (show (b0 : Int) ≥ 240 by omega)]
  by_cases y : b0 ≤ 244
  ·rw [if_pos (show (b0 : Int) ≤ 244 by omega)]
   cases m1
   ·rw [if_neg (by decide), Jf, if_neg (by simp)]
   ·cases m2
    ·rw [if_pos rfl, if_neg (by decide), Jf, if_neg (by simp)]
    ·rw [if_pos rfl, if_pos rfl, J3]
     congr 1
     by_cases z : m3 = true ∧ (65536 ≤ c4 b0 b1 b2 b3 ∧ c4 b0 b1 b2 b3 ≤ 1114111)
     ·rw [if_pos z, if_pos ⟨⟨x, y⟩, rfl, rfl, z⟩]
     ·rw [if_neg z, if_neg (fun h => z h.2.2.2)]
  ·rw [if_neg (show ¬ (b0 : Int) ≤ 244 by omega), Jf, if_neg (fun h => y h.1.2)]
 ·rw [if_neg (show ¬ (b0 : Int) ≥ 240 by omega), Jf, if_neg (fun h => x h.1.1)]
include q2
theorem rj1 (k : Nat) (q : Bool) (hq : q = true → m2 = true) : r1_Rune.j1 (k + 3) s b0 q = some (if q = true ∧ (2048 ≤ c3 b0 b1 b2 ∧ ¬ (55296 ≤ c3 b0 b1 b2 ∧ c3 b0 b1 b2 ≤ 57343)) then (c3 b0 b1 b2, 3) else if (240 ≤ b0 ∧ b0 ≤ 244) ∧ m1 = true ∧ m2 = true ∧ m3 = true ∧ (65536 ≤ c4 b0 b1 b2 b3 ∧ c4 b0 b1 b2 b3 ≤ 1114111) then (c4 b0 b1 b2 b3, 4) else (-1, 1)) := by
 have J2 := rj2 s n b0 b1 b2 b3 h0 h1 h2 h3 S B1 B2 B3 m1 m2 m3 M1 M2 M3 q3 k
 cases q
 ·rw [if_neg (by simp), ← J2]
  simp only [r1_Rune.j1]
  rw [if_neg (by decide)]
 ·have hn := q2 (hq rfl)
  have g1 : (1 : Int) < n := by omega
  have g2 : (2 : Int) < n := by omega
  simp only [r1_Rune.j1, S, if_pos g1, if_pos g2, if_true, B1, B2, wb b1 h1, wb b2 h2, wa3 b0 b1 b2 h0 h1 h2]
  show (if c3 b0 b1 b2 ≥ 2048 then (if c3 b0 b1 b2 ≥ 55296 then (if c3 b0 b1 b2 ≤ 57343 then _ else some (c3 b0 b1 b2, 3)) else some (c3 b0 b1 b2, 3)) else _) = _
  by_cases x : c3 b0 b1 b2 ≥ 2048
  ·rw [if_pos x]
   by_cases y : c3 b0 b1 b2 ≥ 55296
   ·rw [if_pos y]
    by_cases z : c3 b0 b1 b2 ≤ 57343
    ·rw [if_pos z, if_neg (fun h => h.2.2 ⟨y, z⟩)]; exact J2
    ·rw [if_neg z, if_pos ⟨trivial, x, fun h => z h.2⟩]
   ·rw [if_neg y, if_pos ⟨trivial, x, fun h => y h.1⟩]
  ·rw [if_neg x, if_neg (fun h => x h.2.1)]; exact J2
include q1
theorem rj0 (k : Nat) (q : Bool) (hq : q = true → m1 = true) : r1_Rune.j0 (k + 4) s b0 q = some (if q = true then (((b0 : Int) - 192) * 64 + b1 - 128, 2) else if ((224 ≤ b0 ∧ b0 ≤ 239) ∧ m1 = true ∧ m2 = true) ∧ (2048 ≤ c3 b0 b1 b2 ∧ ¬ (55296 ≤ c3 b0 b1 b2 ∧ c3 b0 b1 b2 ≤ 57343)) then (c3 b0 b1 b2, 3) else if (240 ≤ b0 ∧ b0 ≤ 244) ∧ m1 = true ∧ m2 = true ∧ m3 = true ∧ (65536 ≤ c4 b0 b1 b2 b3 ∧ c4 b0 b1 b2 b3 ≤ 1114111) then (c4 b0 b1 b2 b3, 4) else (-1, 1)) := by
 have J := fun q hq => rj1 s n b0 b1 b2 b3 h0 h1 h2 h3 S B1 B2 B3 m1 m2 m3 M1 M2 M3 q2 q3 k q hq
 revert J
 generalize (if (240 ≤ b0 ∧ b0 ≤ 244) ∧ m1 = true ∧ m2 = true ∧ m3 = true ∧ (65536 ≤ c4 b0 b1 b2 b3 ∧ c4 b0 b1 b2 b3 ≤ 1114111) then (c4 b0 b1 b2 b3, 4) else ((-1 : Int), (1 : Int))) = E
 intro J
 have Jf := J false (fun h => by cases h)
 rw [if_neg (by simp)] at Jf
 have J2 := J m2 (fun h => h)
 cases q
 ·rw [if_neg (by decide)]
  simp only [r1_Rune.j0, M1, M2, Option.bind_some]
  rw [if_neg (by decide)]
  by_cases x : 224 ≤ b0
  ·rw [if_pos (show (b0 : Int) ≥ 224 by omega)]
   by_cases y : b0 ≤ 239
   ·rw [if_pos (show (b0 : Int) ≤ 239 by omega)]
    cases m1
    ·rw [if_neg (by decide), Jf, if_neg (by simp)]
    ·rw [if_pos rfl, J2]
     congr 1
     by_cases z : m2 = true ∧ (2048 ≤ c3 b0 b1 b2 ∧ ¬ (55296 ≤ c3 b0 b1 b2 ∧ c3 b0 b1 b2 ≤ 57343))
     ·rw [if_pos z, if_pos ⟨⟨⟨x, y⟩, rfl, z.1⟩, z.2⟩]
     ·rw [if_neg z, if_neg (fun h => z ⟨h.1.2.2, h.2⟩)]
   ·rw [if_neg (show ¬ (b0 : Int) ≤ 239 by omega), Jf, if_neg (fun h => y h.1.1.2)]
  ·rw [if_neg (show ¬ (b0 : Int) ≥ 224 by omega), Jf, if_neg (fun h => x h.1.1.1)]
 ·have hn := q1 (hq rfl)
  have g1 : (1 : Int) < n := by omega
  simp only [r1_Rune.j0, S, if_pos g1, if_true, B1, wb b1 h1, wa2 b0 b1 h0 h1]
include B0
theorem rune_N (hn : 1 ≤ n) (k : Nat) : r1_Rune.f (k + 4) s = some (if b0 < 128 then ((b0 : Int), 1) else if (194 ≤ b0 ∧ b0 ≤ 223) ∧ m1 = true then (((b0 : Int) - 192) * 64 + b1 - 128, 2) else if ((224 ≤ b0 ∧ b0 ≤ 239) ∧ m1 = true ∧ m2 = true) ∧ (2048 ≤ c3 b0 b1 b2 ∧ ¬ (55296 ≤ c3 b0 b1 b2 ∧ c3 b0 b1 b2 ≤ 57343)) then (c3 b0 b1 b2, 3) else if (240 ≤ b0 ∧ b0 ≤ 244) ∧ m1 = true ∧ m2 = true ∧ m3 = true ∧ (65536 ≤ c4 b0 b1 b2 b3 ∧ c4 b0 b1 b2 b3 ≤ 1114111) then (c4 b0 b1 b2 b3, 4) else (-1, 1)) := by
 have J := fun q hq => rj0 s n b0 b1 b2 b3 h0 h1 h2 h3 S B1 B2 B3 m1 m2 m3 M1 M2 M3 q1 q2 q3 k q hq
 revert J
 generalize (if ((224 ≤ b0 ∧ b0 ≤ 239) ∧ m1 = true ∧ m2 = true) ∧ (2048 ≤ c3 b0 b1 b2 ∧ ¬ (55296 ≤ c3 b0 b1 b2 ∧ c3 b0 b1 b2 ≤ 57343)) then (c3 b0 b1 b2, (3 : Int)) else (if (240 ≤ b0 ∧ b0 ≤ 244) ∧ m1 = true ∧ m2 = true ∧ m3 = true ∧ (65536 ≤ c4 b0 b1 b2 b3 ∧ c4 b0 b1 b2 b3 ≤ 1114111) then (c4 b0 b1 b2 b3, 4) else ((-1 : Int), (1 : Int)))) = E
 intro J
 have Jf := J false (fun h => by cases h)
 rw [if_neg (by simp)] at Jf
 have J1 := J m1 (fun h => h)
 have g0 : (0 : Int) < n := by omega
 simp only [r1_Rune.f, S, if_pos g0, B0, wb b0 h0, M1, Option.bind_some]
 by_cases w : b0 < 128
 ·rw [if_pos (show (b0 : Int) < 128 by omega), if_pos w]
 ·rw [if_neg (show ¬ (b0 : Int) < 128 by omega), if_neg w]
  by_cases x : 194 ≤ b0
  ·rw [if_pos (show (b0 : Int) ≥ 194 by omega)]
   by_cases y : b0 ≤ 223
   ·rw [if_pos (show (b0 : Int) ≤ 223 by omega), J1]
    congr 1
    by_cases z : m1 = true
    ·rw [if_pos z, if_pos ⟨⟨x, y⟩, z⟩]
    ·rw [if_neg z, if_neg (fun h => z h.2)]
   ·rw [if_neg (show ¬ (b0 : Int) ≤ 223 by omega), Jf, if_neg (fun h => y h.1.2)]
  ·rw [if_neg (show ¬ (b0 : Int) ≥ 194 by omega), Jf, if_neg (fun h => x h.1.1)]
end
def rr (l : List UInt8) : Int × Int := if (decodeL l).1 = 65533 ∧ (decodeL l).2 = 1 then (-1, 1) else (((decodeL l).1 : Int), ((decodeL l).2 : Int))
theorem rr_width (l : List UInt8) (_hl : l ≠ []) : (rr l).2 = (((decodeL l).2 : Nat) : Int) := by
 unfold rr
 by_cases h : (decodeL l).1 = 65533 ∧ (decodeL l).2 = 1
 ·rw [if_pos h, h.2]; rfl
 ·rw [if_neg h]
theorem rr_bad (l : List UInt8) : ((rr l).1 < 0) = ((decodeL l).1 = 65533 ∧ (decodeL l).2 = 1) := by
 unfold rr
 by_cases h : (decodeL l).1 = 65533 ∧ (decodeL l).2 = 1
 ·rw [if_pos h]; simp [h]
 ·rw [if_neg h]; simp [h]
def fineB (b : UInt8) : Bool := decide (32 ≤ b.toNat) && !(b.toNat == 127)
theorem shape (l : List UInt8) (hl : l ≠ []) (hv : ¬ ((decodeL l).1 = 65533 ∧ (decodeL l).2 = 1)) :
  (∃ (b : UInt8) (r : List UInt8), l = b :: r ∧ b.toNat < 128 ∧ decodeL l = (b.toNat, 1)) ∨ ((∀ b ∈ l.take (decodeL l).2, 128 ≤ b.toNat) ∧ 128 ≤ (decodeL l).1) := by
 have h0 := (l.getD 0 0).toNat_lt
 have h1 := (l.getD 1 0).toNat_lt
 have h2 := (l.getD 2 0).toNat_lt
 have h3 := (l.getD 3 0).toNat_lt
 have hlen : 0 < l.length := List.length_pos_iff.2 hl
 rw [decodeL_N] at hv ⊢
 have at_ : ∀ i, i < l.length → l[i]? = some (l.getD i 0) := fun i hi => by
  rw [List.getD_eq_getElem?_getD, List.getElem?_eq_getElem hi]; rfl
 have tk : ∀ w, w ≤ 4 → (∀ i, i < w → 128 ≤ (l.getD i 0).toNat) → ∀ b ∈ l.take w, 128 ≤ b.toNat := by
  intro w _ hw b hb
  obtain ⟨i, hi, e⟩ := List.mem_take_iff_getElem.1 hb
  have hi1 : i < w := by omega
  have := hw i hi1
  rw [List.getD_eq_getElem?_getD, List.getElem?_eq_getElem (by omega)] at this
  rw [← e]
  exact this
 rcases decodeN_shape l.length (l.getD 0 0).toNat (l.getD 1 0).toNat (l.getD 2 0).toNat (l.getD 3 0).toNat with ⟨c, e⟩ | ⟨c1, c2, c3, cv, e⟩ | ⟨c1, c2, c3, c4, cv, cs, e⟩ | ⟨c1, c2, c3, c4, c5, cv, cw, e⟩ | e
 ·left
  cases l with
  | nil => exact absurd rfl hl
  | cons b r => exact ⟨b, r, rfl, c, e⟩
 ·right
  rw [e]
  refine ⟨tk 2 (by omega) (fun i hi => ?_), cv⟩
  have : i = 0 ∨ i = 1 := by omega
  rcases this with rfl | rfl <;> omega
 ·right
  rw [e]
  refine ⟨tk 3 (by omega) (fun i hi => ?_), by simp only; omega⟩
  have : i = 0 ∨ i = 1 ∨ i = 2 := by omega
  rcases this with rfl | rfl | rfl <;> omega
 ·right
  rw [e]
  refine ⟨tk 4 (by omega) (fun i hi => ?_), by simp only; omega⟩
  have : i = 0 ∨ i = 1 ∨ i = 2 ∨ i = 3 := by omega
  rcases this with rfl | rfl | rfl | rfl <;> omega
 ·exact absurd (by rw [e]; exact ⟨rfl, rfl⟩) hv
theorem bytes_fine (l : List UInt8) (hv : validD l = true) : (runes l).all fine = l.all fineB := by
 induction hn : l.length using Nat.strongRecOn generalizing l with
 | _ n ih =>
  by_cases e : l = []
  ·subst e; rfl
  ·have hs := drop_short l e
   rw [validD_step l e] at hv
   by_cases hb : (decodeL l).1 = 65533 ∧ (decodeL l).2 = 1
   ·rw [if_pos hb] at hv; exact absurd hv (by decide)
   ·rw [if_neg hb] at hv
    have h := ih _ (by omega) (l.drop (decodeL l).2) hv rfl
    rw [runes_cons l e, List.all_cons, h]
    conv => rhs; rw [← List.take_append_drop (decodeL l).2 l, List.all_append]
    congr 1
    rcases shape l e hb with ⟨b, r, rfl, hb1, hd⟩ | ⟨h1, h2⟩
    ·rw [hd]
     simp only [List.take_succ_cons, List.take_zero, List.all_cons, List.all_nil, Bool.and_true]
     rfl
    ·have : fine (decodeL l) = true := by unfold fine; rw [decide_eq_true (by omega)]; simp; omega
     rw [this]
     symm
     rw [List.all_eq_true]
     intro b hb
     have := h1 b hb
     unfold fineB; rw [decide_eq_true (by omega)]; simp; omega
theorem rightB_bytes (l : List UInt8) : rightB l = (validD l && (!l.isEmpty && (decide ((runes l).length ≤ 24) && (!(l.headD 0).toNat == 32 && (!(l.getLastD 0).toNat == 32 && l.all fineB))))) := by
 unfold rightB
 cases hv : validD l
 ·simp
 ·rw [bytes_fine l hv]
  cases l.all fineB <;> simp
theorem right_eq (l : List UInt8) (h : l.length ≤ 1000000000) : label_Right.f (ba l) = some (rightB l) := by
 unfold label_Right.f
 rw [ba_size, if_pos (by omega), ba_list]
def numB (n : Int) : Bool := decide (0 ≤ n) && decide (n ≤ 2147483647)
def rightS (kind a b : Int) (t : List UInt8) : Bool := (t.isEmpty || (kind == 1 && rightB t)) && (decide (1 ≤ kind) && (decide (kind ≤ 8) && (numB a && numB b)))
theorem number_eq (n : Int) : step_number.f n = some (numB n) := by
 unfold step_number.f numB
 by_cases h : 0 ≤ n
 ·rw [if_pos h, decide_eq_true h, Bool.true_and]
 ·rw [if_neg h, decide_eq_false h, Bool.false_and]
theorem right_j (kind a b n : Int) (t : ByteArray) (q : Bool) : Ev (fun k => step_Right.j0 k q kind a b n t) (!q && (decide (1 ≤ kind) && (decide (kind ≤ 8) && (numB a && numB b)))) := by
 refine Ev.step (f := fun _ => some (!q && (decide (1 ≤ kind) && (decide (kind ≤ 8) && (numB a && numB b))))) (fun k => ?_) (Ev.now _)
 simp only [step_Right.j0, number_eq, Option.bind_some]
 cases q
 ·rw [if_neg (by decide)]
  by_cases h1 : 1 ≤ kind
  ·rw [if_pos h1, decide_eq_true h1]
   by_cases h2 : kind ≤ 8
   ·rw [if_pos h2, decide_eq_true h2]
    cases numB a <;> simp
   ·rw [if_neg h2, decide_eq_false h2]; rfl
  ·rw [if_neg h1, decide_eq_false h1]; rfl
 ·rfl
theorem step_right (kind a b n : Int) (l : List UInt8) (hl : l.length ≤ 1000000000) : Ev (fun k => step_Right.f k kind a b n (ba l)) (rightS kind a b l) := by
 unfold rightS
 by_cases e : l = []
 ·subst e
  refine Ev.congr (fun k => ?_) (right_j kind a b n (ba []) false)
  unfold step_Right.f
  rw [ba_toList, if_pos rfl]
 ·have hie : l.isEmpty = false := by simpa using e
  rw [hie, Bool.false_or]
  by_cases h1 : kind = 1
  ·subst h1
   have hj := right_j 1 a b n (ba l) (!rightB l)
   rw [Bool.not_not] at hj
   refine Ev.congr (fun k => ?_) hj
   unfold step_Right.f
   rw [ba_toList, if_neg e, if_pos rfl, right_eq l hl, Option.bind_some]
  ·rw [show (kind == 1) = false by simpa using h1, Bool.false_and]
   refine Ev.congr (fun k => ?_) (right_j kind a b n (ba l) true)
   unfold step_Right.f
   rw [ba_toList, if_neg e, if_neg h1]
theorem tail_eq (kind a b : Int) : (if kind ≥ 1 then (if kind ≤ 8 then (if a ≥ 0 then (if a ≤ 2147483647 then (if b ≥ 0 then (some (decide (b ≤ 2147483647))) else (some false)) else (some false)) else (some false)) else (some false)) else (some false)) = some (decide (1 ≤ kind) && (decide (kind ≤ 8) && (numB a && numB b))) := by
 unfold numB
 by_cases h1 : 1 ≤ kind
 ·rw [if_pos h1, decide_eq_true h1]
  by_cases h2 : kind ≤ 8
  ·rw [if_pos h2, decide_eq_true h2]
   by_cases h3 : 0 ≤ a
   ·rw [if_pos h3, decide_eq_true h3]
    by_cases h4 : a ≤ 2147483647
    ·rw [if_pos h4, decide_eq_true h4]
     by_cases h5 : 0 ≤ b
     ·rw [if_pos h5, decide_eq_true h5]; simp
     ·rw [if_neg h5, decide_eq_false h5]; simp
    ·rw [if_neg h4, decide_eq_false h4]; simp
   ·rw [if_neg h3, decide_eq_false h3]; simp
  ·rw [if_neg h2, decide_eq_false h2]; simp
 ·rw [if_neg h1, decide_eq_false h1]; simp
def bodyS (kind a b n : Nat) (t : List UInt8) : List UInt8 := putN kind 1 ++ putN a 4 ++ putN b 4 ++ putN n 8 ++ t
def recordS (kind a b n : Nat) (t : List UInt8) : List UInt8 := putN (sealed (bodyS kind a b n t)).length 2 ++ sealed (bodyS kind a b n t)
theorem bodyS_length (kind a b n : Nat) (t : List UInt8) : (bodyS kind a b n t).length = 17 + t.length := by simp [bodyS, putN_length]; omega
theorem recordS_length (kind a b n : Nat) (t : List UInt8) : (recordS kind a b n t).length = 23 + t.length := by simp [recordS, putN_length, sealed_length, bodyS_length]; omega
theorem bodyS_is (kk a b n : Nat) (l : List UInt8) : putN kk 1 ++ putN a 4 ++ putN b 4 ++ putN n 8 ++ l = bodyS kk a b n l := by unfold bodyS; rfl
theorem seal_body (kk a b n : Nat) (l : List UInt8) (hl : l.length ≤ 100000000) : seal_Put.f (ba (bodyS kk a b n l)) = some (ba (sealed (bodyS kk a b n l))) := by
 have hb := bodyS_length kk a b n l
 exact seal_put_eq _ (by omega)
theorem size_body (kk a b n : Nat) (l : List UInt8) (hl : l.length ≤ 100000000) : (sealed (bodyS kk a b n l)).length < 18446744073709551616 := by
 have hb := bodyS_length kk a b n l
 have hs := sealed_length (bodyS kk a b n l)
 omega
def putS (kind a b n : Int) (t : List UInt8) : ByteArray × Int := if rightS kind a b t = true then (ba (recordS kind.toNat a.toNat b.toNat n.toNat t), 0) else (ba [], 1)
theorem rightS_bounds {kind a b : Int} {t : List UInt8} (h : rightS kind a b t = true) : (1 ≤ kind ∧ kind ≤ 8) ∧ (0 ≤ a ∧ a ≤ 2147483647) ∧ (0 ≤ b ∧ b ≤ 2147483647) := by
 unfold rightS numB at h
 simp only [Bool.and_eq_true, decide_eq_true_eq] at h
 omega
theorem m1 : many8 1 = 1 := by decide
theorem m2 : many8 2 = 2 := by decide
theorem m4 : many8 4 = 4 := by decide
theorem m8 : many8 8 = 8 := by decide
theorem ev_put (n : Nat) (m : Int) (h : n < 18446744073709551616) : Ev (fun _ => le_Put.f (n : Int) m) (ba (putN n (many8 m))) := Ev.congr (fun _ => put_eq n h m) (Ev.now _)
theorem step_put (kind a b n : Int) (l : List UInt8) (hl : l.length ≤ 100000000) (hn : 0 ≤ n ∧ n < 18446744073709551616) : Ev (fun k => step_Put.f k kind a b n (ba l)) (putS kind a b n l) := by
 have hr := step_right kind a b n l (by omega)
 unfold putS
 by_cases h : rightS kind a b l = true
 ·rw [if_pos h]
  rw [h] at hr
  refine Ev.bind hr ?_
  refine Ev.congr (fun k => if_pos rfl) ?_
  obtain ⟨⟨k1, k2⟩, ⟨a1, a2⟩, ⟨b1, b2⟩⟩ := rightS_bounds h
  obtain ⟨kk, rfl⟩ := Int.eq_ofNat_of_zero_le (show 0 ≤ kind by omega)
  obtain ⟨a, rfl⟩ := Int.eq_ofNat_of_zero_le a1
  obtain ⟨b, rfl⟩ := Int.eq_ofNat_of_zero_le b1
  obtain ⟨n, rfl⟩ := Int.eq_ofNat_of_zero_le hn.1
  simp only [Int.toNat_natCast]
  have hb := bodyS_length kk a b n l
  have hs := sealed_length (bodyS kk a b n l)
  refine Ev.congr (fun k => by rw [u64_nat kk (by omega), u64_nat a (by omega), u64_nat b (by omega)]) (Ev.bind (ev_put kk 1 (by omega)) ?_)
  refine Ev.bind (ev_put a 4 (by omega)) ?_
  refine Ev.congr (fun k => by rw [m1, m4]; simp only [ba_size, putN_length, ba_append]; rw [if_pos (by omega)]) (Ev.bind (ev_put b 4 (by omega)) ?_)
  refine Ev.congr (fun k => by rw [m4]; simp only [ba_size, putN_length, ba_append]; rw [if_pos (by omega)]) (Ev.bind (ev_put n 8 (by omega)) ?_)
  refine Ev.congr (fun k => by rw [m8]; simp only [ba_size, putN_length, ba_append]; rw [if_pos (by omega), if_pos (by omega), bodyS_is]) (Ev.bind (Ev.congr (fun _ => seal_body kk a b n l hl) (Ev.now _)) ?_)
  refine Ev.congr (fun k => by rw [ba_size, u64_nat _ (size_body kk a b n l hl)]) (Ev.bind (ev_put _ 2 (size_body kk a b n l hl)) ?_)
  refine Ev.congr (f := fun _ => some _) (fun k => ?_) (Ev.now _)
  rw [m2]
  simp only [ba_size, putN_length, ba_append]
  rw [if_pos (by omega)]
  unfold recordS
  trivial
 ·rw [if_neg h]
  rw [Bool.eq_false_iff.2 h] at hr
  refine Ev.bind hr ?_
  exact Ev.congr (fun k => by rw [if_neg (by decide)]; rfl) (Ev.now _)
def txtS (x : S24) : List UInt8 := x.f4.data.toList
def okT (x : S24) : Prop := (0 ≤ x.f3 ∧ x.f3 < 18446744073709551616) ∧ (txtS x).length ≤ 4000
def goodS (x : S24) : Bool := rightS x.f0 x.f1 x.f2 (txtS x)
def recS (x : S24) : List UInt8 := recordS x.f0.toNat x.f1.toNat x.f2.toNat x.f3.toNat (txtS x)
theorem recS_len (x : S24) : (recS x).length = 23 + (txtS x).length := recordS_length _ _ _ _ _
def putO (x : S24) : ByteArray × Int := if goodS x = true then (ba (recS x), 0) else (ba [], 1)
theorem ev_put24 (x : S24) (h : okT x) : Ev (fun k => step_Put.f k x.f0 x.f1 x.f2 x.f3 x.f4) (putO x) := by
 have := step_put x.f0 x.f1 x.f2 x.f3 (txtS x) (by have := h.2; omega) h.1
 unfold txtS at this
 rw [ba_data] at this
 exact this
def recsL (l : List S24) : List UInt8 := l.flatMap recS
theorem recsL_len : ∀ (l : List S24), (∀ x ∈ l, okT x) → (recsL l).length ≤ 4023 * l.length
 | [], _ => by simp [recsL]
 | x :: l, h => by
  have ih := recsL_len l (fun y hy => h y (List.mem_cons_of_mem _ hy))
  have hx := (h x List.mem_cons_self).2
  have := recS_len x
  unfold recsL at ih ⊢
  rw [List.flatMap_cons, List.length_append, List.length_cons]
  omega
def a26 (x : S24) : S26 := ⟨x.f0, x.f1, x.f2, x.f3, x.f4⟩
def a46 (g : S44) : S46 := ⟨g.f0, g.f1.map a26⟩
theorem rj24 (l : List S24) (i : Nat) (h : i < l.length) : rd_T24 l (i : Int) = l[i]'h := by
 unfold rd_T24
 rw [Int.toNat_natCast, List.getD_eq_getElem?_getD, List.getElem?_eq_getElem h]; rfl
theorem rj44 (l : List S44) (i : Nat) (h : i < l.length) : rd_T44 l (i : Int) = l[i]'h := by
 unfold rd_T44
 rw [Int.toNat_natCast, List.getD_eq_getElem?_getD, List.getElem?_eq_getElem h]; rfl
theorem wj (i : Nat) (h : i ≤ 1000000000) : wrap64 ((i : Int) + 1) = ((i + 1 : Nat) : Int) := by rw [w64 _ (by omega) (by omega)]; rfl
def cm (seq : Nat) : S24 := ⟨8, 0, 0, (seq : Int), ⟨#[]⟩⟩
theorem cm_ok (seq : Nat) (h : seq < 18446744073709551616) : okT (cm seq) := ⟨⟨by show (0 : Int) ≤ (seq : Int); omega, by show (seq : Int) < _; omega⟩, by show (0 : Nat) ≤ 4000; omega⟩
theorem cm_good (seq : Nat) : goodS (cm seq) = true := rfl
theorem puts_g : ∀ (l : List S24) (acc : List UInt8), (∀ x ∈ l, okT x) → l.length ≤ 100000 → acc.length + 4023 * l.length ≤ 1000000000 →
  Ev (fun k => journal_put.g k l (ba acc)) (if l.all goodS = true then (ba (acc ++ recsL l), 0) else (ba [], 1))
 | [], acc, _, _, _ => by
  refine Ev.congr (f := fun _ => some _) (fun k => ?_) (Ev.now _)
  rw [journal_put.g]
  simp [recsL]
 | x :: l, acc, h, hl, hb => by
  have hx := h x List.mem_cons_self
  have hr := recS_len x
  have hx2 := hx.2
  simp only [List.length_cons] at hl hb
  refine Ev.congr (fun k => by rw [journal_put.g]) ?_
  refine Ev.bind (ev_put24 x hx) ?_
  unfold putO
  cases hg : goodS x with
  | true =>
   have ih := puts_g l (acc ++ recS x) (fun y hy => h y (List.mem_cons_of_mem _ hy)) (by omega) (by rw [List.length_append]; omega)
   rw [if_pos rfl]
   refine Ev.congr (fun k => ?_) (show Ev (fun k => journal_put.g k l (ba (acc ++ recS x))) _ from ?_)
   ·simp only
    rw [if_pos trivial, if_pos (by rw [ba_size, ba_size]; omega), ba_append]
   ·rw [List.all_cons, hg, Bool.true_and]
    unfold recsL at ih ⊢
    rw [List.flatMap_cons, ← List.append_assoc]
    exact ih
  | false =>
   rw [if_neg (by decide), List.all_cons, hg, Bool.false_and]
   refine Ev.congr (f := fun _ => some (ba [], 1)) (fun k => ?_) (Ev.now _)
   simp only
   rw [if_neg (by decide)]
   rfl
theorem puts (l : List S24) (h : ∀ x ∈ l, okT x) (hl : l.length ≤ 100000) : Ev (fun k => journal_put.f k l) (if l.all goodS = true then (ba (recsL l), 0) else (ba [], 1)) := by
 have := puts_g l [] h hl (by simp; omega)
 rw [List.nil_append] at this
 refine Ev.congr (fun k => ?_) this
 unfold journal_put.f
 rw [if_pos (by omega)]
 rfl
def closedP (seq : Nat) (l : List S24) : Option (List UInt8) := if l.any isCommit = true ∨ l.all goodS = false then none else some (recsL l ++ recS (cm seq))
def closedO (seq : Nat) (l : List S24) : ByteArray × Int := match closedP seq l with | none => (ba [], 1) | some b => (ba b, 0)
theorem ev_closed (seq : Nat) (l : List S24) (hs : seq < 18446744073709551616) (h : ∀ x ∈ l, okT x) (hl : l.length ≤ 10000) : Ev (fun k => journal_closed.f k (seq : Int) l) (closedO seq l) := by
 unfold closedO closedP
 have e1 : step_Step_contains.f l = some (l.any isCommit) := if_pos (by omega)
 have e2 : step_Step.f l = some l := if_pos (by omega)
 refine Ev.congr (fun k => by unfold journal_closed.f; rw [e1, Option.bind_some, e2, Option.bind_some]) ?_
 cases hc : l.any isCommit with
 | true =>
  refine Ev.congr (f := fun _ => some (ba [], 1)) (fun k => ?_) (by simp only [true_or, if_true]; exact Ev.now _)
  rw [if_pos rfl]
  rfl
 | false =>
  have hp := puts (l ++ [cm seq]) (fun x hx => by
   rcases List.mem_append.1 hx with hx | hx
   ·exact h x hx
   ·rw [List.mem_singleton.1 hx]; exact cm_ok seq hs) (by simp; omega)
  have ea : (l ++ [cm seq]).all goodS = l.all goodS := by rw [List.all_append, List.all_cons, cm_good]; simp
  have er : recsL (l ++ [cm seq]) = recsL l ++ recS (cm seq) := by unfold recsL; rw [List.flatMap_append]; simp
  rw [ea, er] at hp
  have key : Ev (fun k => (journal_put.f k (l ++ [cm seq])).bind fun b => some (b.1, b.2)) (match if false = true ∨ l.all goodS = false then none else some (recsL l ++ recS (cm seq)) with | none => (ba [], 1) | some b => (ba b, 0)) := by
   refine Ev.bind hp ?_
   cases l.all goodS with
   | true => exact Ev.now _
   | false => exact Ev.now _
  refine Ev.congr (fun k => ?_) key
  rw [if_neg (by simp), Option.bind_some, if_pos (by simp only [List.length_singleton]; omega)]
  rfl
structure LogP where
 seq : Nat
 gr : List S44
 by_ : List UInt8
def zeroL : LogP := ⟨0, [], []⟩
def LogP.out (s : LogP) (e : Int) : Int × List S44 × ByteArray × Int := ((s.seq : Int), s.gr, ba s.by_, e)
def LogP.outR (s : LogP) (e : Int) : Int × List S46 × ByteArray × Int := ((s.seq : Int), s.gr.map a46, ba s.by_, e)
def withP (s : LogP) (seq : Nat) (l : List S24) : LogP × Int := match closedP seq l with | none => (zeroL, 1) | some b => (⟨seq, s.gr ++ [⟨(seq : Int), l⟩], s.by_ ++ b⟩, 0)
theorem closedP_len {seq : Nat} {l : List S24} {b : List UInt8} (h : ∀ x ∈ l, okT x) (hb : closedP seq l = some b) : b.length ≤ 4023 * l.length + 23 := by
 unfold closedP at hb
 split at hb
 ·cases hb
 ·cases hb
  have := recsL_len l h
  have h2 := recS_len (cm seq)
  have h3 : (txtS (cm seq)).length = 0 := rfl
  rw [List.length_append]
  omega
theorem ev_with (s : LogP) (a0 : Int) (seq : Nat) (l : List S24) (hs : seq < 18446744073709551616) (h : ∀ x ∈ l, okT x) (hl : l.length ≤ 10000) (hg : s.gr.length ≤ 100000) (hb : s.by_.length ≤ 1000000000) :
  Ev (fun k => journal_Log_with.f k a0 s.gr (ba s.by_) (seq : Int) l) ((withP s seq l).1.out (withP s seq l).2) := by
 refine Ev.bind (ev_closed seq l hs h hl) ?_
 unfold closedO withP
 cases hc : closedP seq l with
 | none =>
  refine Ev.congr (f := fun _ => some _) (fun k => ?_) (Ev.now _)
  simp only
  rw [if_neg (by decide)]
  rfl
 | some b =>
  have hbl := closedP_len h hc
  refine Ev.congr (f := fun _ => some _) (fun k => ?_) (Ev.now _)
  simp only
  unfold step_Step.f step_Group.f
  rw [if_pos trivial, if_pos (by omega), Option.bind_some, if_pos (by omega), Option.bind_some, Option.bind_some, if_pos (by simp only [List.length_singleton]; omega), ba_size, ba_size, if_pos (by omega), ba_append]
  rfl
def newP (seq : Nat) (l : List S24) : LogP × Int := withP zeroL seq l
theorem ev_new (seq : Nat) (l : List S24) (hs : seq < 18446744073709551616) (h : ∀ x ∈ l, okT x) (hl : l.length ≤ 10000) : Ev (fun k => journal_New.f k (seq : Int) l) ((newP seq l).1.out (newP seq l).2) := by
 exact Ev.bind (ev_with zeroL 0 seq l hs h hl (by simp [zeroL]) (by simp [zeroL])) (Ev.now _)
def addP (s : LogP) (l : List S24) : LogP × Int :=
 if (withP s ((s.seq + 1) % 18446744073709551616) l).2 = 0 then (if s.seq = 18446744073709551615 then (zeroL, 14) else ((withP s ((s.seq + 1) % 18446744073709551616) l).1, 0)) else (zeroL, (withP s ((s.seq + 1) % 18446744073709551616) l).2)
theorem wrapU (n : Nat) : IntKind.u64.wrap ((n : Int) + 1) = (((n + 1) % 18446744073709551616 : Nat) : Int) := by
 simp [IntKind.wrap, IntKind.bits, IntKind.signed]
theorem ev_add (s : LogP) (l : List S24) (h : ∀ x ∈ l, okT x) (hl : l.length ≤ 10000) (hg : s.gr.length ≤ 100000) (hb : s.by_.length ≤ 1000000000) :
  Ev (fun k => journal_Add.f k (s.seq : Int) s.gr (ba s.by_) l) ((addP s l).1.out (addP s l).2) := by
 have hw := ev_with s (s.seq : Int) ((s.seq + 1) % 18446744073709551616) l (Nat.mod_lt _ (by decide)) h hl hg hb
 unfold addP
 generalize withP s ((s.seq + 1) % 18446744073709551616) l = W at hw
 obtain ⟨t, e⟩ := W
 refine Ev.congr (fun k => by unfold journal_Add.f; rw [wrapU]) ?_
 refine Ev.bind hw ?_
 refine Ev.congr (f := fun _ => some _) (fun k => ?_) (Ev.now _)
 change (if e = 0 then (if (s.seq : Int) = 18446744073709551615 then some ((0 : Int), ([] : List S44), (⟨#[]⟩ : ByteArray), (14 : Int)) else some ((t.seq : Int), t.gr, ba t.by_, 0)) else some (0, [], ⟨#[]⟩, e)) = some ((if e = 0 then (if s.seq = 18446744073709551615 then (zeroL, (14 : Int)) else (t, 0)) else (zeroL, e)).1.out (if e = 0 then (if s.seq = 18446744073709551615 then (zeroL, (14 : Int)) else (t, 0)) else (zeroL, e)).2)
 by_cases he : e = 0
 ·rw [if_pos he, if_pos he]
  by_cases hm : s.seq = 18446744073709551615
  ·rw [if_pos hm, if_pos (by omega)]; rfl
  ·rw [if_neg hm, if_neg (by omega)]; rfl
 ·rw [if_neg he, if_neg he]; rfl
theorem s44_ext {x y : S44} (h0 : x.f0 = y.f0) (h1 : x.f1 = y.f1) : x = y := by cases x; cases y; simp_all
def okL (s : LogP) : Prop := s.gr.length ≤ 100000 ∧ s.by_.length ≤ 1000000000 ∧ s.seq < 18446744073709551616 ∧ ∀ g ∈ s.gr, g.f1.length ≤ 1000000
theorem short13_l (l : List S24) (h : l.length ≤ 60) : ∀ (d i : Nat), i + d = l.length → ∃ b, Ev (fun k => l13_shortSteps.l0 k l (i : Int)) b ∧ (b = true → ∀ x ∈ l.drop i, (txtS x).length ≤ 200) := by
 intro d
 induction d with
 | zero =>
  intro i hi
  refine ⟨true, Ev.step (f := fun _ => some _) (fun k => ?_) (Ev.now _), fun _ x hx => by rw [List.drop_eq_nil_of_le (by omega)] at hx; cases hx⟩
  simp only [l13_shortSteps.l0]
  rw [if_neg (by omega)]
 | succ d ih =>
  intro i hi
  have hlt : i < l.length := by omega
  have hz : (txtS (l[i]'hlt)).length = (l[i]'hlt).f4.size := Array.length_toList
  by_cases hs : ((l[i]'hlt).f4.size : Int) > 200
  ·refine ⟨false, Ev.step (f := fun _ => some _) (fun k => ?_) (Ev.now _), fun h => by cases h⟩
   simp only [l13_shortSteps.l0]
   rw [if_pos (by omega), if_pos (by omega), rj24 l i hlt, if_pos hs]
  ·obtain ⟨b, hb, hx⟩ := ih (i + 1) (by omega)
   refine ⟨b, Ev.step (fun k => ?_) hb, fun h x hm => ?_⟩
   ·simp only [l13_shortSteps.l0]
    rw [if_pos (by omega), if_pos (by omega), rj24 l i hlt, if_neg hs, wj i (by omega)]
   ·rw [List.drop_eq_getElem_cons hlt] at hm
    rcases List.mem_cons.1 hm with rfl | hm
    ·omega
    ·exact hx h x hm
theorem short13 (l : List S24) : ∃ b, Ev (fun k => l13_shortSteps.f k l) b ∧ (b = true → l.length ≤ 60 ∧ ∀ x ∈ l, (txtS x).length ≤ 200) := by
 by_cases h : (l.length : Int) > 60
 ·refine ⟨false, Ev.congr (f := fun _ => some false) (fun k => ?_) (Ev.now _), fun h => by cases h⟩
  unfold l13_shortSteps.f
  rw [if_pos h]
 ·obtain ⟨b, hb, hx⟩ := short13_l l (by omega) l.length 0 (by omega)
  refine ⟨b, Ev.congr (fun k => ?_) hb, fun hh => ⟨by omega, by have := hx hh; rwa [List.drop_zero] at this⟩⟩
  unfold l13_shortSteps.f
  rw [if_neg h]
  rfl
theorem rjL (l : List (List S24)) (i : Nat) (h : i < l.length) : rd_L4 l (i : Int) = l[i]'h := by
 unfold rd_L4
 rw [Int.toNat_natCast, List.getD_eq_getElem?_getD, List.getElem?_eq_getElem h]; rfl
theorem shorts_l (l : List (List S24)) (h : l.length ≤ 12) : ∀ (d i : Nat), i + d = l.length → ∃ b, Ev (fun k => l13_short.l0 k l (i : Int)) b ∧ (b = true → ∀ g ∈ l.drop i, g.length ≤ 12 ∧ ∀ x ∈ g, (txtS x).length ≤ 200) := by
 intro d
 induction d with
 | zero =>
  intro i hi
  refine ⟨true, Ev.step (f := fun _ => some _) (fun k => ?_) (Ev.now _), fun _ x hx => by rw [List.drop_eq_nil_of_le (by omega)] at hx; cases hx⟩
  simp only [l13_short.l0]
  rw [if_neg (by omega)]
 | succ d ih =>
  intro i hi
  have hlt : i < l.length := by omega
  obtain ⟨c, hc, hcx⟩ := short13 (l[i]'hlt)
  have st : ∀ k, l13_short.l0 (k + 1) l (i : Int) = (l13_shortSteps.f k (l[i]'hlt)).bind fun t => if t = true then (if ((l[i]'hlt).length : Int) > 12 then some false else l13_short.l0 k l ((i + 1 : Nat) : Int)) else some false := by
   intro k
   simp only [l13_short.l0]
   rw [if_pos (by omega), if_pos (by omega), rjL l i hlt, wj i (by omega)]
  cases c with
  | false => exact ⟨false, Ev.step st (Ev.bind hc (Ev.congr (f := fun _ => some false) (fun k => by rw [if_neg (by decide)]) (Ev.now _))), fun h => by cases h⟩
  | true =>
   by_cases h12 : ((l[i]'hlt).length : Int) > 12
   ·exact ⟨false, Ev.step st (Ev.bind hc (Ev.congr (f := fun _ => some false) (fun k => by rw [if_pos rfl, if_pos h12]) (Ev.now _))), fun h => by cases h⟩
   ·obtain ⟨b, hb, hx⟩ := ih (i + 1) (by omega)
    refine ⟨b, Ev.step st (Ev.bind hc (Ev.congr (fun k => by rw [if_pos rfl, if_neg h12]) hb)), fun h g hm => ?_⟩
    rw [List.drop_eq_getElem_cons hlt] at hm
    rcases List.mem_cons.1 hm with rfl | hm
    ·exact ⟨by omega, (hcx rfl).2⟩
    ·exact hx h g hm
theorem shorts13 (l : List (List S24)) : ∃ b, Ev (fun k => l13_short.f k l) b ∧ (b = true → l.length ≤ 12 ∧ ∀ g ∈ l, g.length ≤ 12 ∧ ∀ x ∈ g, (txtS x).length ≤ 200) := by
 by_cases h : (l.length : Int) > 12
 ·refine ⟨false, Ev.congr (f := fun _ => some false) (fun k => ?_) (Ev.now _), fun h => by cases h⟩
  unfold l13_short.f
  rw [if_pos h]
 ·obtain ⟨b, hb, hx⟩ := shorts_l l (by omega) l.length 0 (by omega)
  refine ⟨b, Ev.congr (fun k => ?_) hb, fun hh => ⟨by omega, by have := hx hh; rwa [List.drop_zero] at this⟩⟩
  unfold l13_short.f
  rw [if_neg h]
  rfl
def nextP (s : LogP) (l : List S24) : LogP := if (addP s l).2 = 0 then (addP s l).1 else s
def bldP : LogP → List (List S24) → LogP
 | s, [] => s
 | s, l :: r => bldP (nextP s l) r
def okM (m : Nat) (s : LogP) : Prop := s.gr.length ≤ m ∧ s.by_.length ≤ 250000 * m ∧ s.seq < 18446744073709551616 ∧ ∀ g ∈ s.gr, g.f1.length ≤ 60
theorem okM_zero (m : Nat) : okM m zeroL := ⟨Nat.zero_le _, Nat.zero_le _, by decide, fun g hg => by cases hg⟩
theorem okM_with {m : Nat} {s : LogP} (h : okM m s) (seq : Nat) (l : List S24) (hs : seq < 18446744073709551616) (hl : l.length ≤ 60) (ho : ∀ x ∈ l, okT x) : okM (m + 1) (withP s seq l).1 := by
 unfold withP
 cases hc : closedP seq l with
 | none => exact okM_zero _
 | some b =>
  have hb := closedP_len ho hc
  obtain ⟨h1, h2, h3, h4⟩ := h
  refine ⟨by simp; omega, by simp; omega, hs, fun g hg => ?_⟩
  rcases List.mem_append.1 hg with hg | hg
  ·exact h4 g hg
  ·rw [List.mem_singleton.1 hg]; exact hl
theorem okM_add {m : Nat} {s : LogP} (h : okM m s) (l : List S24) (hl : l.length ≤ 60) (ho : ∀ x ∈ l, okT x) : okM (m + 1) (addP s l).1 := by
 unfold addP
 split
 ·split
  ·exact okM_zero _
  ·exact okM_with h _ l (Nat.mod_lt _ (by decide)) hl ho
 ·exact okM_zero _
theorem okM_up {m : Nat} {s : LogP} (h : okM m s) : okM (m + 1) s := ⟨by have := h.1; omega, by have := h.2.1; omega, h.2.2.1, h.2.2.2⟩
def builtO (s : LogP) : Int × List S44 × ByteArray × Int × List S46 × ByteArray × Bool := ((s.seq : Int), s.gr, ba s.by_, (s.seq : Int), s.gr.map a46, ba s.by_, true)
def afterP (gr : List S44) (seq : Int) : List S24 := gr.flatMap fun g => if g.f0 > seq then g.f1 else []
theorem after_l (gr : List S44) (seq : Int) (h : gr.length ≤ 1000) (hg : ∀ g ∈ gr, g.f1.length ≤ 60) : ∀ (d i : Nat) (acc : List S24), i + d = gr.length → acc.length ≤ 60 * i →
  Ev (fun k => journal_After.l0 k seq acc gr (gr.length : Int) (i : Int)) (acc ++ afterP (gr.drop i) seq) := by
 intro d
 induction d with
 | zero =>
  intro i acc hi ha
  rw [List.drop_eq_nil_of_le (by omega)]
  refine Ev.step (f := fun _ => some _) (fun k => ?_) (Ev.now _)
  simp only [journal_After.l0]
  rw [if_neg (by omega)]
  simp [afterP]
 | succ d ih =>
  intro i acc hi ha
  have hlt : i < gr.length := by omega
  have hx := hg _ (List.getElem_mem hlt)
  have hr := rj44 gr i hlt
  rw [List.drop_eq_getElem_cons hlt]
  generalize gr[i]'hlt = x at hx hr
  unfold afterP
  rw [List.flatMap_cons]
  by_cases hs : x.f0 > seq
  ·have hE := ih (i + 1) (acc ++ x.f1) (by omega) (by rw [List.length_append]; omega)
   rw [if_pos hs, ← List.append_assoc]
   refine Ev.step (fun k => ?_) hE
   simp only [journal_After.l0]
   rw [if_pos (by omega), if_pos (by omega), if_pos (by omega), hr, if_pos hs, if_pos (by omega), wj i (by omega)]
  ·have hE := ih (i + 1) acc (by omega) (by omega)
   rw [if_neg hs, List.nil_append]
   refine Ev.step (fun k => ?_) hE
   simp only [journal_After.l0]
   rw [if_pos (by omega), if_pos (by omega), if_pos (by omega), hr, if_neg hs, wj i (by omega)]
theorem ev_after (s : LogP) (seq : Int) (h : s.gr.length ≤ 1000) (hg : ∀ g ∈ s.gr, g.f1.length ≤ 60) : Ev (fun k => journal_After.f k (s.seq : Int) s.gr (ba s.by_) seq) (afterP s.gr seq) := by
 have hE := after_l s.gr seq h hg s.gr.length 0 [] (by omega) (by simp)
 rw [List.nil_append, List.drop_zero] at hE
 exact hE
theorem shown13 : Ev (fun k => l13_shown.f k) true := by
 have o1 : ∀ x ∈ [(⟨3, 1, 0, 0, ⟨#[]⟩⟩ : S24)], okT x := fun x hx => by rw [List.mem_singleton.1 hx]; exact ⟨by decide, by decide⟩
 have o2 : ∀ x ∈ [(⟨3, 2, 0, 0, ⟨#[]⟩⟩ : S24)], okT x := fun x hx => by rw [List.mem_singleton.1 hx]; exact ⟨by decide, by decide⟩
 have o3 : ∀ x ∈ [(⟨3, 3, 0, 0, ⟨#[]⟩⟩ : S24)], okT x := fun x hx => by rw [List.mem_singleton.1 hx]; exact ⟨by decide, by decide⟩
 have b0 : okM 1 (newP 5 [(⟨3, 1, 0, 0, ⟨#[]⟩⟩ : S24)]).1 := okM_with (okM_zero 0) 5 _ (by decide) (by decide) o1
 have c0 : (newP 5 [(⟨3, 1, 0, 0, ⟨#[]⟩⟩ : S24)]).2 = 0 ∧ (newP 5 [(⟨3, 1, 0, 0, ⟨#[]⟩⟩ : S24)]).1.seq = 5 ∧ (newP 5 [(⟨3, 1, 0, 0, ⟨#[]⟩⟩ : S24)]).1.gr = [⟨5, [⟨3, 1, 0, 0, ⟨#[]⟩⟩]⟩] := ⟨rfl, rfl, rfl⟩
 have h1 := ev_new 5 [⟨3, 1, 0, 0, ⟨#[]⟩⟩] (by decide) o1 (by decide)
 generalize newP 5 [(⟨3, 1, 0, 0, ⟨#[]⟩⟩ : S24)] = W1 at b0 c0 h1
 obtain ⟨s1, e1⟩ := W1
 obtain ⟨d0, d1, d2⟩ := c0
 simp only at d0 d1 d2 b0 h1
 have h2 := ev_add s1 [⟨3, 2, 0, 0, ⟨#[]⟩⟩] o2 (by decide) (by rw [d2]; decide) (by have := b0.2.1; omega)
 have b1 := okM_add b0 [(⟨3, 2, 0, 0, ⟨#[]⟩⟩ : S24)] (by decide) o2
 have c1 : (addP s1 [(⟨3, 2, 0, 0, ⟨#[]⟩⟩ : S24)]).2 = 0 ∧ (addP s1 [(⟨3, 2, 0, 0, ⟨#[]⟩⟩ : S24)]).1.seq = 6 ∧ (addP s1 [(⟨3, 2, 0, 0, ⟨#[]⟩⟩ : S24)]).1.gr = s1.gr ++ [⟨6, [⟨3, 2, 0, 0, ⟨#[]⟩⟩]⟩] := by
  unfold addP withP
  rw [d1]
  exact ⟨rfl, rfl, rfl⟩
 generalize addP s1 [(⟨3, 2, 0, 0, ⟨#[]⟩⟩ : S24)] = W2 at b1 c1 h2
 obtain ⟨s2, e2⟩ := W2
 obtain ⟨f0, f1, f2⟩ := c1
 simp only at f0 f1 f2 b1 h2
 have h3 := ev_add s2 [⟨3, 3, 0, 0, ⟨#[]⟩⟩] o3 (by decide) (by have := b1.1; omega) (by have := b1.2.1; omega)
 have b2 := okM_add b1 [(⟨3, 3, 0, 0, ⟨#[]⟩⟩ : S24)] (by decide) o3
 have c2 : (addP s2 [(⟨3, 3, 0, 0, ⟨#[]⟩⟩ : S24)]).2 = 0 ∧ (addP s2 [(⟨3, 3, 0, 0, ⟨#[]⟩⟩ : S24)]).1.seq = 7 ∧ (addP s2 [(⟨3, 3, 0, 0, ⟨#[]⟩⟩ : S24)]).1.gr = s2.gr ++ [⟨7, [⟨3, 3, 0, 0, ⟨#[]⟩⟩]⟩] := by
  unfold addP withP
  rw [f1]
  exact ⟨rfl, rfl, rfl⟩
 generalize addP s2 [(⟨3, 3, 0, 0, ⟨#[]⟩⟩ : S24)] = W3 at b2 c2 h3
 obtain ⟨s3, e3⟩ := W3
 obtain ⟨g0, g1, g2⟩ := c2
 simp only at g0 g1 g2 b2 h3
 have h4 := ev_after s3 6 (by have := b2.1; omega) b2.2.2.2
 have ha : afterP s3.gr 6 = [⟨3, 3, 0, 0, ⟨#[]⟩⟩] := by rw [g2, f2, d2]; rfl
 rw [ha] at h4
 refine Ev.bind h1 ?_
 refine Ev.bind h2 ?_
 refine Ev.bind h3 ?_
 refine Ev.bind h4 ?_
 refine Ev.congr (f := fun _ => some true) (fun k => ?_) (Ev.now _)
 exact (if_pos d0).trans ((if_pos f0).trans ((if_pos g0).trans ((if_pos (show (s3.seq : Int) = 7 by omega)).trans rfl)))
def flatF (gr : List S44) : List S24 := gr.flatMap fun g => g.f1
def numG : Nat → List S44 → Prop
 | _, [] => True
 | a, g :: r => g.f0 = (a : Int) ∧ numG (a + 1) r
theorem numG_snoc : ∀ (gr : List S44) (a : Nat) (g : S44), numG a gr → g.f0 = ((a + gr.length : Nat) : Int) → numG a (gr ++ [g])
 | [], a, g, _, h => ⟨by rw [h]; rfl, trivial⟩
 | x :: r, a, g, h, hg => ⟨h.1, numG_snoc r (a + 1) g h.2 (by rw [hg, List.length_cons]; omega)⟩
structure NumL (a : Nat) (s : LogP) : Prop where
 num : numG a s.gr
 pos : 0 < s.gr.length
 len : s.seq + 1 = a + s.gr.length
theorem num_new (a : Nat) : NumL a (newP a []).1 := ⟨⟨rfl, trivial⟩, Nat.zero_lt_one, rfl⟩
theorem next_cases (s : LogP) (hs : s.seq < 18446744073709551616) (l : List S24) : nextP s l = s ∨ ∃ b, nextP s l = ⟨s.seq + 1, s.gr ++ [⟨((s.seq + 1 : Nat) : Int), l⟩], s.by_ ++ b⟩ := by
 unfold nextP addP
 by_cases h0 : (withP s ((s.seq + 1) % 18446744073709551616) l).2 = 0
 ·rw [if_pos h0]
  by_cases hm : s.seq = 18446744073709551615
  ·rw [if_pos hm]; exact .inl (if_neg (by decide))
  ·rw [if_neg hm]
   refine .inr ?_
   rw [Nat.mod_eq_of_lt (show s.seq + 1 < 18446744073709551616 by omega)] at h0 ⊢
   unfold withP at h0 ⊢
   cases hc : closedP (s.seq + 1) l with
   | none => rw [hc] at h0; exact absurd (show (1 : Int) = 0 from h0) (by decide)
   | some b => exact ⟨b, if_pos rfl⟩
 ·rw [if_neg h0]; exact .inl (if_neg h0)
theorem num_next {a : Nat} {s : LogP} (h : NumL a s) (hs : s.seq < 18446744073709551616) (l : List S24) : NumL a (nextP s l) := by
 rcases next_cases s hs l with e | ⟨b, e⟩
 ·rw [e]; exact h
 ·rw [e]
  refine ⟨numG_snoc _ _ _ h.num (by show ((s.seq + 1 : Nat) : Int) = _; rw [h.len]), ?_, ?_⟩
  ·show 0 < (s.gr ++ [_]).length
   rw [List.length_append]; exact Nat.lt_of_lt_of_le h.pos (Nat.le_add_right _ _)
  ·show s.seq + 1 + 1 = a + (s.gr ++ [_]).length
   rw [List.length_append, h.len]; rfl
theorem getN_eq (l : List UInt8) : getN l = getB l := by
 induction l with
 | nil => rfl
 | cons c l ih => simp [getN, getB, ih]
theorem get_eq (l : List UInt8) : le_Get.f (ba l) = some ((getB (l.take 8) : Nat) : Int) := by
 unfold le_Get.f
 rw [ba_list, getN_eq]
def unsealed (l : List UInt8) : List UInt8 × Int :=
 if l.length < 4 then ([], 10) else if getB (l.drop (l.length - 4)) = (crc (l.take (l.length - 4))).toNat then (l.take (l.length - 4), 0) else ([], 9)
theorem seal_take_eq (l : List UInt8) (h : l.length ≤ 1000000000) : seal_Take.f (ba l) = some (ba (unsealed l).1, (unsealed l).2) := by
 unfold seal_Take.f unsealed
 rw [ba_size, w64 _ (by omega) (by omega)]
 by_cases h4 : l.length < 4
 ·rw [if_pos (by omega), if_pos h4]; rfl
 ·have e : ((l.length : Int) - 4).toNat = l.length - 4 := by omega
  rw [if_neg (by omega), if_neg h4, if_pos (by omega), if_pos (by omega), e, ← ba_size, ba_drop, ba_size, get_eq, Option.bind_some, ba_take, sum_eq _ (by rw [List.length_take]; omega), Option.bind_some,
   u64_nat _ (by have := (crc (l.take (l.length - 4))).isLt; omega), List.take_of_length_le (by rw [List.length_drop]; omega)]
  by_cases hc : getB (l.drop (l.length - 4)) = (crc (l.take (l.length - 4))).toNat
  ·rw [if_pos (by rw [hc]), if_pos hc]
  ·rw [if_neg (by omega), if_neg hc]; rfl
theorem unsealed_sealed (l : List UInt8) : unsealed (sealed l) = (l, 0) := by
 unfold unsealed
 have h4 : (sealed l).length - 4 = l.length := by rw [sealed_length]; omega
 rw [if_neg (by rw [sealed_length]; omega), h4]
 unfold sealed
 rw [List.drop_left, List.take_left, getB_putN, if_pos]
 have := (crc l).isLt
 omega
theorem sealed_unsealed (l : List UInt8) (h : (unsealed l).2 = 0) : sealed (unsealed l).1 = l ∧ (unsealed l).1.length + 4 = l.length := by
 unfold unsealed at h ⊢
 split at h
 ·cases h
 ·rename_i h4
  rw [if_neg h4]
  split at h
  ·rename_i hc
   rw [if_pos hc]
   refine ⟨?_, by show (l.take _).length + 4 = _; rw [List.length_take]; omega⟩
   show sealed (l.take (l.length - 4)) = l
   unfold sealed
   rw [← hc]
   have h1 := putN_getB (l.drop (l.length - 4))
   rw [List.length_drop, show l.length - (l.length - 4) = 4 by omega] at h1
   rw [h1, List.take_append_drop]
  ·cases h
theorem txt_ok (l : List UInt8) (n : Nat) (h : n ≤ l.length) : le_Reader_Text.f (ba l) false (n : Int) = some (ba (l.take n), ba (l.drop n), false) := by
 unfold le_Reader_Text.f
 rw [if_neg (by decide), if_neg (by omega), ba_size, if_neg (by omega), if_pos (by omega), if_pos (by omega), Int.toNat_natCast, ba_take, ← ba_size, ba_drop, decide_eq_false (by rw [ba_size]; omega)]
theorem txt_short (l : List UInt8) (n : Nat) (h : l.length < n) : le_Reader_Text.f (ba l) false (n : Int) = some (ba [], ba l, true) := by
 unfold le_Reader_Text.f
 rw [if_neg (by decide), if_neg (by omega), ba_size, if_pos (by omega), decide_eq_true (by omega)]
 rfl
theorem txt_true (l : List UInt8) (n : Int) : le_Reader_Text.f (ba l) true n = some (ba [], ba l, true) := by
 unfold le_Reader_Text.f
 rw [if_pos rfl]
 rfl
theorem num_ok (l : List UInt8) (m : Nat) (hm : m ≤ 8) (h : m ≤ l.length) : le_Reader_Number.f (ba l) false (m : Int) = some (((getB (l.take m) : Nat) : Int), ba (l.drop m), false) := by
 unfold le_Reader_Number.f
 rw [if_neg (by omega), txt_ok l m h, Option.bind_some, get_eq, Option.bind_some, List.take_take, Nat.min_eq_right hm]
theorem num_short (l : List UInt8) (m : Nat) (hm : m ≤ 8) (h : l.length < m) : le_Reader_Number.f (ba l) false (m : Int) = some (0, ba l, true) := by
 unfold le_Reader_Number.f
 rw [if_neg (by omega), txt_short l m h, Option.bind_some, get_eq, Option.bind_some]
 rfl
theorem num_true (l : List UInt8) (m : Nat) (hm : m ≤ 8) : le_Reader_Number.f (ba l) true (m : Int) = some (0, ba l, true) := by
 unfold le_Reader_Number.f
 rw [if_neg (by omega), txt_true l, Option.bind_some, get_eq, Option.bind_some]
 rfl
structure Took where
 kind : Nat
 a : Nat
 b : Nat
 n : Nat
 text : List UInt8
 rest : List UInt8
 err : Int
def none_ (e : Int) : Took := ⟨0, 0, 0, 0, [], [], e⟩
def bodyT (t rest : List UInt8) : Took :=
 if t.length < 17 then none_ 2
 else if rightS (getB (t.take 1)) (getB ((t.drop 1).take 4)) (getB ((t.drop 5).take 4)) (t.drop 17) = true then
  ⟨getB (t.take 1), getB ((t.drop 1).take 4), getB ((t.drop 5).take 4), getB ((t.drop 9).take 8), t.drop 17, rest, 0⟩ else none_ 2
def takeS (s : List UInt8) : Took :=
 if s.length < 2 then none_ 10
 else if s.length < 2 + getB (s.take 2) then none_ 10
 else if (unsealed ((s.drop 2).take (getB (s.take 2)))).2 = 0 then bodyT (unsealed ((s.drop 2).take (getB (s.take 2)))).1 (s.drop (2 + getB (s.take 2)))
 else none_ (unsealed ((s.drop 2).take (getB (s.take 2)))).2
def Took.out (x : Took) : Int × Int × Int × Int × ByteArray × ByteArray × Int := ((x.kind : Int), (x.a : Int), (x.b : Int), (x.n : Int), ba x.text, ba x.rest, x.err)
def tailF (k : Nat) (t rest : ByteArray) : Option (Int × Int × Int × Int × ByteArray × ByteArray × Int) :=
 (le_Reader_Number.f t false 1).bind fun q1 => (le_Reader_Number.f q1.2.1 q1.2.2 4).bind fun q2 => (le_Reader_Number.f q2.2.1 q2.2.2 4).bind fun q3 =>
  (le_Reader_Number.f q3.2.1 q3.2.2 8).bind fun q4 => (le_Reader_Text.f q4.2.1 q4.2.2 (q4.2.1.size : Int)).bind fun x =>
  if x.2.2 = true then some (0, 0, 0, 0, ⟨#[]⟩, ⟨#[]⟩, 2) else (step_Right.f k (wrap64 q1.1) (wrap64 q2.1) (wrap64 q3.1) q4.1 x.1).bind fun ok =>
  if ok = true then some (wrap64 q1.1, wrap64 q2.1, wrap64 q3.1, q4.1, x.1, rest, 0) else some (0, 0, 0, 0, ⟨#[]⟩, ⟨#[]⟩, 2)
theorem take_tail (k : Nat) (s : ByteArray) : step_Take.f k s = (le_Reader_Number.f s false 2).bind fun n1 => (le_Reader_Text.f n1.2.1 n1.2.2 (wrap64 n1.1)).bind fun t1 =>
 if t1.2.2 = true then some (0, 0, 0, 0, ⟨#[]⟩, ⟨#[]⟩, 10) else (seal_Take.f t1.1).bind fun s1 =>
 if s1.2 = 0 then tailF k s1.1 t1.2.1 else some (0, 0, 0, 0, ⟨#[]⟩, ⟨#[]⟩, s1.2) := rfl
theorem getB_le (l : List UInt8) (m : Nat) (h : l.length ≤ m) : getB l < 256 ^ m := Nat.lt_of_lt_of_le (getB_lt l) (Nat.pow_le_pow_right (by omega) h)
theorem take_lt (l : List UInt8) (m : Nat) : getB (l.take m) < 256 ^ m := getB_le _ _ (by rw [List.length_take]; omega)
theorem ev_tail (t : List UInt8) (rest : List UInt8) (hl : t.length ≤ 1000000) : Ev (fun k => tailF k (ba t) (ba rest)) (bodyT t rest).out := by
 unfold bodyT
 by_cases h17 : t.length < 17
 ·rw [if_pos h17]
  refine Ev.congr (f := fun _ => some (none_ 2).out) (fun k => ?_) (Ev.now _)
  unfold tailF
  have fin : ∀ (l : List UInt8) (F : ByteArray × ByteArray × Bool → Option (Int × Int × Int × Int × ByteArray × ByteArray × Int)), (∀ x, x.2.2 = true → F x = some (none_ 2).out) → (le_Reader_Text.f (ba l) true ((ba l).size : Int)).bind F = some (none_ 2).out := by
   intro l F hF
   rw [txt_true, Option.bind_some]
   exact hF _ rfl
  by_cases h1 : t.length < 1
  ·rw [show (1 : Int) = ((1 : Nat) : Int) from rfl, num_short t 1 (by omega) h1, Option.bind_some, show (4 : Int) = ((4 : Nat) : Int) from rfl, num_true _ 4 (by omega), Option.bind_some, num_true _ 4 (by omega), Option.bind_some, show (8 : Int) = ((8 : Nat) : Int) from rfl, num_true _ 8 (by omega), Option.bind_some]
   exact fin _ _ (fun x hx => if_pos hx)
  rw [show (1 : Int) = ((1 : Nat) : Int) from rfl, num_ok t 1 (by omega) (by omega), Option.bind_some]
  by_cases h5 : t.length < 5
  ·rw [show (4 : Int) = ((4 : Nat) : Int) from rfl, num_short _ 4 (by omega) (by rw [List.length_drop]; omega), Option.bind_some, num_true _ 4 (by omega), Option.bind_some, show (8 : Int) = ((8 : Nat) : Int) from rfl, num_true _ 8 (by omega), Option.bind_some]
   exact fin _ _ (fun x hx => if_pos hx)
  rw [show (4 : Int) = ((4 : Nat) : Int) from rfl, num_ok _ 4 (by omega) (by rw [List.length_drop]; omega), Option.bind_some]
  by_cases h9 : t.length < 9
  ·rw [num_short _ 4 (by omega) (by rw [List.length_drop, List.length_drop]; omega), Option.bind_some, show (8 : Int) = ((8 : Nat) : Int) from rfl, num_true _ 8 (by omega), Option.bind_some]
   exact fin _ _ (fun x hx => if_pos hx)
  rw [num_ok _ 4 (by omega) (by rw [List.length_drop, List.length_drop]; omega), Option.bind_some, show (8 : Int) = ((8 : Nat) : Int) from rfl, num_short _ 8 (by omega) (by rw [List.length_drop, List.length_drop, List.length_drop]; omega), Option.bind_some]
  exact fin _ _ (fun x hx => if_pos hx)
 ·rw [if_neg h17]
  have e5 : (t.drop 1).drop 4 = t.drop 5 := by rw [List.drop_drop]
  have e9 : (t.drop 5).drop 4 = t.drop 9 := by rw [List.drop_drop]
  have e17 : (t.drop 9).drop 8 = t.drop 17 := by rw [List.drop_drop]
  have hr := step_right (getB (t.take 1)) (getB ((t.drop 1).take 4)) (getB ((t.drop 5).take 4)) (getB ((t.drop 9).take 8)) (t.drop 17) (by rw [List.length_drop]; omega)
  have b1 := take_lt t 1
  have b2 := take_lt (t.drop 1) 4
  have b3 := take_lt (t.drop 5) 4
  refine Ev.congr (fun k => ?_) (Ev.bind hr (f := fun _ ok => if ok = true then some (((getB (t.take 1) : Nat) : Int), ((getB ((t.drop 1).take 4) : Nat) : Int), ((getB ((t.drop 5).take 4) : Nat) : Int), ((getB ((t.drop 9).take 8) : Nat) : Int), ba (t.drop 17), ba rest, 0) else some (none_ 2).out) ?_)
  ·unfold tailF
   rw [show (1 : Int) = ((1 : Nat) : Int) from rfl, num_ok t 1 (by omega) (by omega), Option.bind_some, show (4 : Int) = ((4 : Nat) : Int) from rfl, num_ok _ 4 (by omega) (by rw [List.length_drop]; omega), Option.bind_some, e5,
    num_ok _ 4 (by omega) (by rw [List.length_drop]; omega), Option.bind_some, e9, show (8 : Int) = ((8 : Nat) : Int) from rfl, num_ok _ 8 (by omega) (by rw [List.length_drop]; omega), Option.bind_some, e17, ba_size, txt_ok _ _ (Nat.le_refl _), Option.bind_some,
    if_neg (by simp), w64 _ (by omega) (by omega), w64 _ (by omega) (by omega), w64 _ (by omega) (by omega), List.take_of_length_le (Nat.le_refl _)]
   rfl
  ·by_cases hR : rightS (getB (t.take 1)) (getB ((t.drop 1).take 4)) (getB ((t.drop 5).take 4)) (t.drop 17) = true
   ·rw [if_pos hR]
    refine Ev.congr (f := fun _ => some _) (fun k => ?_) (Ev.now _)
    rw [if_pos hR]; rfl
   ·rw [if_neg hR]
    refine Ev.congr (f := fun _ => some _) (fun k => ?_) (Ev.now _)
    rw [if_neg hR]
theorem ev_take (s : List UInt8) (hl : s.length ≤ 1000000) : Ev (fun k => step_Take.f k (ba s)) (takeS s).out := by
 unfold takeS
 by_cases h2 : s.length < 2
 ·rw [if_pos h2]
  refine Ev.congr (f := fun _ => some (none_ 10).out) (fun k => ?_) (Ev.now _)
  rw [take_tail, show (2 : Int) = ((2 : Nat) : Int) from rfl, num_short s 2 (by omega) h2, Option.bind_some, txt_true, Option.bind_some, if_pos rfl]
  rfl
 have b := take_lt s 2
 rw [if_neg h2]
 have e : wrap64 ((getB (s.take 2) : Nat) : Int) = ((getB (s.take 2) : Nat) : Int) := w64 _ (by omega) (by omega)
 by_cases hn : s.length < 2 + getB (s.take 2)
 ·rw [if_pos hn]
  refine Ev.congr (f := fun _ => some (none_ 10).out) (fun k => ?_) (Ev.now _)
  rw [take_tail, show (2 : Int) = ((2 : Nat) : Int) from rfl, num_ok s 2 (by omega) (by omega), Option.bind_some, e, txt_short _ _ (by rw [List.length_drop]; omega), Option.bind_some, if_pos rfl]
  rfl
 rw [if_neg hn]
 have hu : ∀ k, step_Take.f k (ba s) = if (unsealed ((s.drop 2).take (getB (s.take 2)))).2 = 0 then tailF k (ba (unsealed ((s.drop 2).take (getB (s.take 2)))).1) (ba (s.drop (2 + getB (s.take 2)))) else some (0, 0, 0, 0, ⟨#[]⟩, ⟨#[]⟩, (unsealed ((s.drop 2).take (getB (s.take 2)))).2) := by
  intro k
  rw [take_tail, show (2 : Int) = ((2 : Nat) : Int) from rfl, num_ok s 2 (by omega) (by omega), Option.bind_some, e, txt_ok _ _ (by rw [List.length_drop]; omega), Option.bind_some, if_neg (by simp), seal_take_eq _ (by rw [List.length_take, List.length_drop]; omega), Option.bind_some, List.drop_drop]
 by_cases h0 : (unsealed ((s.drop 2).take (getB (s.take 2)))).2 = 0
 ·rw [if_pos h0]
  refine Ev.congr (fun k => by rw [hu, if_pos h0]) (ev_tail _ _ ?_)
  unfold unsealed
  split
  ·simp
  ·split
   ·rw [List.length_take, List.length_take, List.length_drop]; omega
   ·simp
 ·rw [if_neg h0]
  refine Ev.congr (f := fun _ => some _) (fun k => ?_) (Ev.now _)
  rw [hu, if_neg h0]
  rfl
theorem body_parts (t : List UInt8) (h : 17 ≤ t.length) : bodyS (getB (t.take 1)) (getB ((t.drop 1).take 4)) (getB ((t.drop 5).take 4)) (getB ((t.drop 9).take 8)) (t.drop 17) = t := by
 have p1 := putN_getB (t.take 1)
 have p2 := putN_getB ((t.drop 1).take 4)
 have p3 := putN_getB ((t.drop 5).take 4)
 have p4 := putN_getB ((t.drop 9).take 8)
 rw [List.length_take, Nat.min_eq_left (by omega)] at p1
 rw [List.length_take, List.length_drop, Nat.min_eq_left (by omega)] at p2 p3 p4
 unfold bodyS
 rw [p1, p2, p3, p4]
 have e1 : t.take 1 ++ (t.drop 1).take 4 = t.take 5 := by rw [← List.take_add]
 have e2 : t.take 5 ++ (t.drop 5).take 4 = t.take 9 := by rw [← List.take_add]
 have e3 : t.take 9 ++ (t.drop 9).take 8 = t.take 17 := by rw [← List.take_add]
 rw [e1, e2, e3, List.take_append_drop]
theorem bodyT_bodyS (kind a b n : Nat) (t rest : List UInt8) (hr : rightS kind a b t = true) (hn : n < 18446744073709551616) : bodyT (bodyS kind a b n t) rest = ⟨kind, a, b, n, t, rest, 0⟩ := by
 obtain ⟨⟨k1, k2⟩, ⟨a1, a2⟩, ⟨b1, b2⟩⟩ := rightS_bounds hr
 have e1 : (bodyS kind a b n t).take 1 = putN kind 1 := by
  unfold bodyS; rw [List.append_assoc, List.append_assoc, List.append_assoc, List.take_left' (putN_length _ _)]
 have d1 : (bodyS kind a b n t).drop 1 = putN a 4 ++ (putN b 4 ++ (putN n 8 ++ t)) := by
  unfold bodyS; rw [List.append_assoc, List.append_assoc, List.append_assoc, List.drop_left' (putN_length _ _)]
 have d5 : (bodyS kind a b n t).drop 5 = putN b 4 ++ (putN n 8 ++ t) := by
  rw [show 5 = 1 + 4 from rfl, ← List.drop_drop, d1, List.drop_left' (putN_length _ _)]
 have d9 : (bodyS kind a b n t).drop 9 = putN n 8 ++ t := by
  rw [show 9 = 5 + 4 from rfl, ← List.drop_drop, d5, List.drop_left' (putN_length _ _)]
 have d17 : (bodyS kind a b n t).drop 17 = t := by
  rw [show 17 = 9 + 8 from rfl, ← List.drop_drop, d9, List.drop_left' (putN_length _ _)]
 unfold bodyT
 rw [if_neg (by rw [bodyS_length]; omega), e1, d1, d5, d9, d17, List.take_left' (putN_length _ _), List.take_left' (putN_length _ _), List.take_left' (putN_length _ _), getB_putN, getB_putN, getB_putN, getB_putN,
  Nat.mod_eq_of_lt (show kind < 256 ^ 1 by omega), Nat.mod_eq_of_lt (show a < 256 ^ 4 by omega), Nat.mod_eq_of_lt (show b < 256 ^ 4 by omega), Nat.mod_eq_of_lt (show n < 256 ^ 8 by omega), if_pos hr]
theorem take_put (kind a b n : Nat) (t tail : List UInt8) (hr : rightS kind a b t = true) (hn : n < 18446744073709551616) (ht : t.length ≤ 60000) : takeS (recordS kind a b n t ++ tail) = ⟨kind, a, b, n, t, tail, 0⟩ := by
 have hl : (sealed (bodyS kind a b n t)).length = 21 + t.length := by rw [sealed_length, bodyS_length]; omega
 have e2 : (recordS kind a b n t ++ tail).take 2 = putN (21 + t.length) 2 := by
  unfold recordS; rw [hl, List.append_assoc, List.take_left' (putN_length _ _)]
 have d2 : (recordS kind a b n t ++ tail).drop 2 = sealed (bodyS kind a b n t) ++ tail := by
  unfold recordS; rw [hl, List.append_assoc, List.drop_left' (putN_length _ _)]
 have g2 : getB (putN (21 + t.length) 2) = 21 + t.length := by rw [getB_putN, Nat.mod_eq_of_lt (by omega)]
 have dn : (recordS kind a b n t ++ tail).drop (2 + (21 + t.length)) = tail := by
  rw [← List.drop_drop, d2, List.drop_left' hl]
 have hlen : (recordS kind a b n t ++ tail).length = 23 + t.length + tail.length := by rw [List.length_append, recordS_length]
 unfold takeS
 rw [if_neg (by omega), e2, g2, if_neg (by omega), d2, List.take_left' hl, unsealed_sealed, if_pos rfl, dn]
 exact bodyT_bodyS kind a b n t tail hr hn
theorem put_take (s : List UInt8) (h : (takeS s).err = 0) : rightS (takeS s).kind (takeS s).a (takeS s).b (takeS s).text = true ∧ (takeS s).n < 18446744073709551616 ∧ (takeS s).text.length + 23 ≤ s.length ∧
  recordS (takeS s).kind (takeS s).a (takeS s).b (takeS s).n (takeS s).text ++ (takeS s).rest = s := by
 unfold takeS at h ⊢
 split at h
 ·exact absurd h (by decide)
 rename_i h2
 rw [if_neg h2]
 split at h
 ·exact absurd h (by decide)
 rename_i hn
 rw [if_neg hn]
 split at h
 case isFalse h0 => exact absurd h h0
 rename_i hu
 rw [if_pos hu]
 have hlt := take_lt s 2
 obtain ⟨hs, hl⟩ := sealed_unsealed _ hu
 have hrl : ((s.drop 2).take (getB (s.take 2))).length = getB (s.take 2) := by rw [List.length_take, List.length_drop]; omega
 rw [hrl] at hl
 generalize (unsealed ((s.drop 2).take (getB (s.take 2)))).1 = t at hs hl h ⊢
 unfold bodyT at h ⊢
 split at h
 ·exact absurd h (by decide)
 rename_i h17
 rw [if_neg h17]
 split at h
 case isFalse => exact absurd h (by decide)
 rename_i hr
 rw [if_pos hr]
 refine ⟨hr, ?_, ?_, ?_⟩
 ·have := take_lt (t.drop 9) 8; show getB ((t.drop 9).take 8) < _; omega
 ·show (t.drop 17).length + 23 ≤ _; rw [List.length_drop]; omega
 ·show recordS _ _ _ _ (t.drop 17) ++ s.drop (2 + getB (s.take 2)) = s
  unfold recordS
  rw [body_parts t (by omega), hs, hrl]
  have p := putN_getB (s.take 2)
  rw [List.length_take, Nat.min_eq_left (by omega)] at p
  rw [p, ← List.take_add, List.take_append_drop]
def Took.step (x : Took) : S24 := ⟨(x.kind : Int), (x.a : Int), (x.b : Int), (x.n : Int), ba x.text⟩
def scanS : Nat → List UInt8 → List S24 × List UInt8
 | 0, s => ([], s)
 | m + 1, s => if (takeS s).err = 0 then ((takeS s).step :: (scanS m (takeS s).rest).1, (scanS m (takeS s).rest).2) else ([], s)
theorem rest_len (s : List UInt8) (h : (takeS s).err = 0) : (takeS s).rest.length + (23 + (takeS s).text.length) = s.length := by
 obtain ⟨_, _, _, he⟩ := put_take s h
 have := congrArg List.length he
 rw [List.length_append, recordS_length] at this
 omega
theorem take_nil : (takeS []).err = 10 := by unfold takeS; rw [if_pos (show ([] : List UInt8).length < 2 by decide)]; rfl
theorem scan_l : ∀ (m : Nat) (s : List UInt8) (acc : List S24), s.length ≤ m → acc.length + s.length ≤ 1000000 → Ev (fun k => step_Scan.l k (ba s) acc) (acc ++ (scanS m s).1, ba (scanS m s).2) := by
 intro m
 induction m with
 | zero =>
  intro s acc hs ha
  obtain rfl : s = [] := List.eq_nil_of_length_eq_zero (by omega)
  refine Ev.step (fun k => by simp only [step_Scan.l]; rfl) (Ev.bind (ev_take [] (by simp)) ?_)
  refine Ev.congr (f := fun _ => some _) (fun k => ?_) (Ev.now _)
  show (if (takeS []).err = 0 then _ else some (acc, ba [])) = _
  rw [if_neg (by rw [take_nil]; decide), scanS, List.append_nil]
 | succ m ih =>
  intro s acc hs ha
  refine Ev.step (fun k => by simp only [step_Scan.l]; rfl) (Ev.bind (ev_take s (by omega)) ?_)
  by_cases h : (takeS s).err = 0
  ·have hl := rest_len s h
   have h2 := ih (takeS s).rest (acc ++ [(takeS s).step]) (by omega) (by rw [List.length_append, List.length_singleton]; omega)
   rw [List.append_assoc, List.singleton_append] at h2
   rw [scanS, if_pos h]
   refine Ev.congr (fun k => ?_) h2
   show (if (takeS s).err = 0 then _ else _) = _
   rw [if_pos h, if_pos (by omega)]
   rfl
  ·refine Ev.congr (f := fun _ => some _) (fun k => ?_) (Ev.now _)
   show (if (takeS s).err = 0 then _ else some (acc, ba s)) = _
   rw [if_neg h, scanS, if_neg h, List.append_nil]
theorem scan_left : ∀ (m : Nat) (s : List UInt8), (scanS m s).2.length ≤ s.length
 | 0, s => Nat.le_refl _
 | m + 1, s => by
  rw [scanS]
  split
  ·rename_i h
   have := rest_len s h
   exact Nat.le_trans (scan_left m _) (by omega)
  ·exact Nat.le_refl _
theorem ev_scan (s : List UInt8) (hs : s.length ≤ 1000000) : Ev (fun k => step_Scan.f k (ba s)) ((scanS s.length s).1, (s.length : Int) - ((scanS s.length s).2.length : Int)) := by
 have hl := scan_left s.length s
 refine Ev.bind (scan_l s.length s [] (Nat.le_refl _) (by rw [List.length_nil]; omega)) ?_
 refine Ev.congr (f := fun _ => some _) (fun k => ?_) (Ev.now _)
 rw [ba_size, ba_size, w64 _ (by omega) (by omega)]
 rfl
theorem wpre (d : Nat) (h : d ≤ 8) : wrap64 ((d : Int) - 1) = (d : Int) - 1 := w64 _ (by omega) (by omega)
theorem ext_ba (l : List UInt8) (i j : Nat) : (ba l).extract i j = ba ((l.drop i).take (j - i)) := ba_extract l i j
def refTail (k : Nat) (t : List UInt8) (s : List UInt8) (n : Nat) : Option (Int × Int × Int × Int × ByteArray × ByteArray × Int) :=
 (r12_Put.f k (getB (t.take 1) : Nat) (getB ((t.drop 1).take 4) : Nat) (getB ((t.drop 5).take 4) : Nat) (getB ((t.drop 9).take 8) : Nat) (ba (t.drop 17))).bind fun u =>
  if u.2 = 0 then (if u.1.toList = s.take n then some ((getB (t.take 1) : Nat), (getB ((t.drop 1).take 4) : Nat), (getB ((t.drop 5).take 4) : Nat), (getB ((t.drop 9).take 8) : Nat), ba (t.drop 17), ba (s.drop n), 0) else some (none_ 2).out) else some (none_ 2).out
def follows (s : LogP) (x : S24) : Bool := decide (x.f1 = 0 ∧ x.f2 = 0 ∧ (s.gr.length = 0 ∨ (s.seq < 18446744073709551615 ∧ x.f3 = (s.seq : Int) + 1)))
def nxtP (s : LogP) (x : S24) (o : List S24) : LogP := ⟨x.f3.toNat, s.gr ++ [⟨(x.f3.toNat : Int), o⟩], s.by_ ++ (recsL o ++ recS (cm x.f3.toNat))⟩
def rdP : LogP → List S24 → List S24 → LogP
 | s, _, [] => s
 | s, o, x :: r => if x.f0 = 8 then (if follows s x = true then rdP (nxtP s x o) [] r else s) else rdP s (o ++ [x]) r
def LogP.outN (s : LogP) : Int × List S44 × ByteArray × Int := ((s.seq : Int), s.gr, ba s.by_, (s.by_.length : Int))
def LogP.outM (s : LogP) : Int × List S46 × ByteArray × Int := ((s.seq : Int), s.gr.map a46, ba s.by_, (s.by_.length : Int))
theorem closed_ok (seq : Nat) (o : List S24) (h1 : o.any isCommit = false) (h2 : o.all goodS = true) : closedP seq o = some (recsL o ++ recS (cm seq)) := by
 unfold closedP
 rw [if_neg (by rw [h1, h2]; simp)]
theorem with_ok (s : LogP) (x : S24) (o : List S24) (h1 : o.any isCommit = false) (h2 : o.all goodS = true) : withP s x.f3.toNat o = (nxtP s x o, 0) := by
 unfold withP
 rw [closed_ok _ o h1 h2]
 rfl
theorem nxt_len (s : LogP) (x : S24) (o : List S24) (ho : ∀ y ∈ o, okT y) : (nxtP s x o).by_.length ≤ s.by_.length + 4023 * o.length + 23 := by
 have h1 := recsL_len o ho
 have h2 := recS_len (cm x.f3.toNat)
 have h3 : (txtS (cm x.f3.toNat)).length = 0 := rfl
 show (s.by_ ++ (recsL o ++ recS (cm x.f3.toNat))).length ≤ _
 rw [List.length_append, List.length_append]
 omega
structure RdI (i : Nat) (s : LogP) (o : List S24) : Prop where
 gr : s.gr.length ≤ i
 len : s.by_.length + 4023 * o.length ≤ 4023 * i
 ol : o.length ≤ i
 com : o.any isCommit = false
 good : o.all goodS = true
 ok : ∀ y ∈ o, okT y
 seq : s.seq < 18446744073709551616
 gl : ∀ g ∈ s.gr, g.f1.length ≤ i
theorem rdI_zero : RdI 0 zeroL [] := ⟨Nat.le_refl _, Nat.le_refl _, Nat.le_refl _, rfl, rfl, fun _ h => (by cases h), by decide, fun _ h => (by cases h)⟩
theorem rdI_open {i : Nat} {s : LogP} {o : List S24} (h : RdI i s o) (x : S24) (hx : okT x ∧ goodS x = true) (h8 : ¬ x.f0 = 8) : RdI (i + 1) s (o ++ [x]) := by
 have := h.gr
 have := h.len
 have := h.ol
 refine ⟨by omega, by rw [List.length_append]; show _ + 4023 * (o.length + 1) ≤ _; omega, by rw [List.length_append]; show o.length + 1 ≤ _; omega, ?_, ?_, ?_, h.seq, fun g hg => Nat.le_succ_of_le (h.gl g hg)⟩
 ·rw [List.any_append, h.com]
  have : isCommit x = false := beq_eq_false_iff_ne.2 h8
  simp [this]
 ·rw [List.all_append, h.good]
  simp [hx.2]
 ·intro y hy
  rcases List.mem_append.1 hy with hy | hy
  ·exact h.ok y hy
  ·rw [List.mem_singleton.1 hy]; exact hx.1
theorem rdI_close {i : Nat} {s : LogP} {o : List S24} (h : RdI i s o) (x : S24) (hx : okT x) : RdI (i + 1) (nxtP s x o) [] := by
 have h1 := nxt_len s x o h.ok
 have h2 := h.len
 have h3 := h.gr
 have h4 := h.ol
 have h5 := hx.1
 refine ⟨?_, ?_, Nat.zero_le _, rfl, rfl, fun _ h => (by cases h), ?_, ?_⟩
 ·show (s.gr ++ [_]).length ≤ _
  rw [List.length_append]; show s.gr.length + 1 ≤ _; omega
 ·show (nxtP s x o).by_.length + 4023 * 0 ≤ _; omega
 ·show x.f3.toNat < _; omega
 ·intro g hg
  rcases List.mem_append.1 (show g ∈ s.gr ++ [_] from hg) with hg | hg
  ·exact Nat.le_succ_of_le (h.gl g hg)
  ·rw [List.mem_singleton.1 hg]; exact Nat.le_succ_of_le h4
theorem read_stop (s : LogP) : Ev (fun k => journal_Read.j4 k (s.seq : Int) s.gr (ba s.by_)) s.outN := by
 refine Ev.step (f := fun _ => some s.outN) (fun k => ?_) (Ev.now _)
 simp only [journal_Read.j4]
 rw [ba_size]
 rfl
def nextB (s : LogP) (x : S24) : Bool := decide (s.gr.length = 0) || (decide (s.seq < 18446744073709551615) && (x.f3 == IntKind.u64.wrap ((s.seq : Int) + 1)))
theorem follows_eq (s : LogP) (x : S24) (hs : s.seq < 18446744073709551616) : follows s x = (decide (x.f1 = 0) && (decide (x.f2 = 0) && nextB s x)) := by
 have key : nextB s x = true ↔ (s.gr.length = 0 ∨ (s.seq < 18446744073709551615 ∧ x.f3 = (s.seq : Int) + 1)) := by
  unfold nextB
  rw [Bool.or_eq_true, Bool.and_eq_true, decide_eq_true_iff, decide_eq_true_iff, beq_iff_eq]
  constructor
  ·rintro (h | ⟨h, e⟩)
   ·exact .inl h
   ·rw [wrapU, Nat.mod_eq_of_lt (show s.seq + 1 < 18446744073709551616 by omega)] at e
    exact .inr ⟨h, by omega⟩
  ·rintro (h | ⟨h, e⟩)
   ·exact .inl h
   ·rw [wrapU, Nat.mod_eq_of_lt (show s.seq + 1 < 18446744073709551616 by omega)]
    exact .inr ⟨h, by omega⟩
 rw [Bool.eq_iff_iff]
 unfold follows
 rw [decide_eq_true_iff, Bool.and_eq_true, Bool.and_eq_true, decide_eq_true_iff, decide_eq_true_iff, key]
theorem read_l (L : List S24) (hL : ∀ x ∈ L, okT x ∧ goodS x = true) (hn : L.length ≤ 10000) : ∀ (d i from_ : Nat) (s : LogP) (o : List S24), i + d = L.length → from_ ≤ i → (L.take i).drop from_ = o → RdI i s o →
  Ev (fun k => journal_Read.l0 k (from_ : Int) L L (L.length : Int) (i : Int) (s.seq : Int) s.gr (ba s.by_)) (rdP s o (L.drop i)).outN := by
 intro d
 induction d with
 | zero =>
  intro i from_ s o hi hf ho h
  rw [List.drop_of_length_le (by omega), rdP]
  refine Ev.step (fun k => ?_) (read_stop s)
  simp only [journal_Read.l0]
  rw [if_neg (by omega)]
 | succ d ih =>
  intro i from_ s o hi hf ho h
  have hlt : i < L.length := by omega
  have hx := hL _ (List.getElem_mem hlt)
  have hr := rj24 L i hlt
  have htk : (L.take (i + 1)).drop from_ = o ++ [L[i]'hlt] := by
   rw [List.take_succ_eq_append_getElem hlt, List.drop_append_of_le_length (by rw [List.length_take]; omega), ho]
  have htn : (L.take (i + 1)).drop (i + 1) = [] := List.drop_of_length_le (by rw [List.length_take]; omega)
  rw [List.drop_eq_getElem_cons hlt, rdP]
  generalize L[i]'hlt = x at hx hr htk
  have hgr := h.gr
  have hby := h.len
  have hol := h.ol
  have hsq := h.seq
  by_cases h8 : x.f0 = 8
  ·rw [if_pos h8, follows_eq s x hsq]
   have hl0 : ∀ k, journal_Read.l0 (k + 1) (from_ : Int) L L (L.length : Int) (i : Int) (s.seq : Int) s.gr (ba s.by_) = journal_Read.j1 k (from_ : Int) L (i : Int) (nextB s x) L (L.length : Int) (i : Int) (s.seq : Int) s.gr (ba s.by_) x.f0 x.f1 x.f2 x.f3 x.f4 := fun k => by
    simp only [journal_Read.l0]
    rw [if_pos (by omega), if_pos (by omega), if_pos (by omega), hr, if_pos h8]
    unfold nextB
    by_cases hg0 : s.gr.length = 0
    ·rw [if_pos (by omega), decide_eq_true hg0]; rfl
    ·rw [if_neg (by omega), decide_eq_false hg0]
     by_cases hs : s.seq < 18446744073709551615
     ·rw [if_pos (by omega), decide_eq_true hs]; rfl
     ·rw [if_neg (by omega), decide_eq_false hs]; rfl
   have hstop : Ev (fun k => journal_Read.j2 k (from_ : Int) L (i : Int) L (L.length : Int) (i : Int) true (s.seq : Int) s.gr (ba s.by_) x.f0 x.f1 x.f2 x.f3 x.f4) s.outN := by
    refine Ev.step (fun k => ?_) (read_stop s)
    simp only [journal_Read.j2]
    exact if_pos trivial
   refine Ev.step hl0 ?_
   refine Ev.step (fun k => by simp only [journal_Read.j1]; rfl) ?_
   by_cases h1 : x.f1 = 0
   case neg =>
    rw [decide_eq_false h1, Bool.false_and, if_neg (by decide)]
    exact Ev.congr (fun k => if_neg h1) hstop
   by_cases h2 : x.f2 = 0
   case neg =>
    rw [decide_eq_false h2, Bool.false_and, Bool.and_false, if_neg (by decide)]
    exact Ev.congr (fun k => (if_pos h1).trans (if_neg h2)) hstop
   refine Ev.congr (fun k => (if_pos h1).trans (if_pos h2)) ?_
   rw [decide_eq_true h1, decide_eq_true h2, Bool.true_and, Bool.true_and]
   cases hb : nextB s x with
   | false => rw [if_neg (by decide)]; exact hstop
   | true =>
    rw [if_pos rfl]
    have h5 := hx.1.1
    have hw := ev_with s (s.seq : Int) x.f3.toNat o (by omega) h.ok (by omega) (by omega) (by omega)
    rw [with_ok s x o h.com h.good, show ((x.f3.toNat : Nat) : Int) = x.f3 by omega] at hw
    have hE := ih (i + 1) (i + 1) (nxtP s x o) [] (by omega) (Nat.le_refl _) htn (rdI_close h x hx.1)
    have h3 : Ev (fun k => journal_Read.j3 k ((i + 1 : Nat) : Int) L L (L.length : Int) (i : Int) ((nxtP s x o).seq : Int) (nxtP s x o).gr (ba (nxtP s x o).by_)) (rdP (nxtP s x o) [] (L.drop (i + 1))).outN := by
     refine Ev.step (fun k => ?_) hE
     simp only [journal_Read.j3]
     rw [wj i (by omega)]
    have fin : Ev (fun k => (journal_Log_with.f k (s.seq : Int) s.gr (ba s.by_) x.f3 o).bind fun bt => journal_Read.j3 k ((i + 1 : Nat) : Int) L L (L.length : Int) (i : Int) bt.1 bt.2.1 bt.2.2.1) (rdP (nxtP s x o) [] (L.drop (i + 1))).outN := Ev.bind hw h3
    refine Ev.step (fun k => ?_) fin
    simp only [journal_Read.j2]
    rw [if_neg (by decide), if_pos (by omega), if_pos (by omega), if_pos (by omega), wj i (by omega), Int.toNat_natCast, Int.toNat_natCast, ho]
  ·rw [if_neg h8]
   have hE := ih (i + 1) from_ s (o ++ [x]) (by omega) (by omega) htk (rdI_open h x hx h8)
   have h3 : Ev (fun k => journal_Read.j3 k (from_ : Int) L L (L.length : Int) (i : Int) (s.seq : Int) s.gr (ba s.by_)) (rdP s (o ++ [x]) (L.drop (i + 1))).outN := by
    refine Ev.step (fun k => ?_) hE
    simp only [journal_Read.j3]
    rw [wj i (by omega)]
   refine Ev.step (fun k => ?_) h3
   simp only [journal_Read.l0]
   rw [if_pos (by omega), if_pos (by omega), if_pos (by omega), hr, if_neg h8]
theorem com_rec (x : S24) (hg : goodS x = true) (h8 : x.f0 = 8) (h1 : x.f1 = 0) (h2 : x.f2 = 0) : recS x = recS (cm x.f3.toNat) := by
 unfold goodS rightS at hg
 rw [Bool.and_eq_true] at hg
 have ht : txtS x = [] := by
  rcases Bool.or_eq_true _ _ ▸ hg.1 with h | h
  ·exact List.isEmpty_iff.1 h
  ·rw [h8] at h; simp at h
 unfold recS
 rw [ht, h8, h1, h2]
 rfl
theorem ev_read (s : List UInt8) (L : List S24) (hs : s.length ≤ 1000000) (hL : (scanS s.length s).1 = L) (hok : ∀ x ∈ L, okT x ∧ goodS x = true) (hn : L.length ≤ 10000) : Ev (fun k => journal_Read.f k (ba s)) (rdP zeroL [] L).outN := by
 subst hL
 refine Ev.bind (ev_scan s hs) ?_
 have h := read_l (scanS s.length s).1 hok hn _ 0 0 zeroL [] (Nat.zero_add _) (Nat.le_refl _) rfl rdI_zero
 rw [List.drop_zero] at h
 exact h
def toI (l : List UInt8) : List Int := l.map fun c => (c.toNat : Int)
def TurnedTo (L M : List UInt8) (at_ : Nat) (W : BitVec 32) (j : Nat) : Prop := M.length = L.length ∧ ∀ k, bitsF M k = (bitsF L k ^^ (decide (at_ ≤ k ∧ k < at_ + j) && W.getLsbD (k - at_)))
theorem take_rec (x : S24) (tail : List UInt8) (hx : okT x) (hg : goodS x = true) : (takeS (recS x ++ tail)).err = 0 ∧ (takeS (recS x ++ tail)).rest = tail ∧ (takeS (recS x ++ tail)).step = x := by
 obtain ⟨⟨k1, k2⟩, ⟨a1, a2⟩, ⟨b1, b2⟩⟩ := rightS_bounds hg
 obtain ⟨⟨n1, n2⟩, ht⟩ := hx
 have c0 : ((x.f0.toNat : Nat) : Int) = x.f0 := by omega
 have c1 : ((x.f1.toNat : Nat) : Int) = x.f1 := by omega
 have c2 : ((x.f2.toNat : Nat) : Int) = x.f2 := by omega
 have c3 : ((x.f3.toNat : Nat) : Int) = x.f3 := by omega
 have h := take_put x.f0.toNat x.f1.toNat x.f2.toNat x.f3.toNat (txtS x) tail (by rw [c0, c1, c2]; exact hg) (by omega) (by omega)
 unfold recS
 rw [h]
 refine ⟨rfl, rfl, ?_⟩
 unfold Took.step
 simp only [c0, c1, c2, c3]
 unfold txtS
 rw [ba_data]
theorem scan_recs : ∀ (L : List S24) (tail : List UInt8) (m : Nat), (∀ x ∈ L, okT x ∧ goodS x = true) → (takeS tail).err ≠ 0 → (recsL L ++ tail).length ≤ m → scanS m (recsL L ++ tail) = (L, tail)
 | [], tail, m, _, ht, _ => by
  show scanS m ([] ++ tail) = _
  rw [List.nil_append]
  cases m with
  | zero => rfl
  | succ m => rw [scanS, if_neg ht]
 | x :: L, tail, m, h, ht, hm => by
  have hx := h x List.mem_cons_self
  have e : recsL (x :: L) ++ tail = recS x ++ (recsL L ++ tail) := by unfold recsL; rw [List.flatMap_cons, List.append_assoc]
  rw [e] at hm ⊢
  obtain ⟨h1, h2, h3⟩ := take_rec x (recsL L ++ tail) hx.1 hx.2
  have hl := recS_len x
  rw [List.length_append] at hm
  cases m with
  | zero => omega
  | succ m =>
   rw [scanS, if_pos h1, h2, h3, scan_recs L tail m (fun y hy => h y (List.mem_cons_of_mem _ hy)) ht (by omega)]
theorem take_cut (x : S24) (c : Nat) (hc : c < (recS x).length) (ht : (txtS x).length ≤ 60000) : (takeS ((recS x).take c)).err ≠ 0 := by
 have hl := recS_len x
 have hl2 : ((recS x).take c).length = c := by rw [List.length_take]; omega
 unfold takeS
 by_cases h2 : c < 2
 ·rw [if_pos (by omega)]; decide
 rw [if_neg (by omega)]
 have e2 : ((recS x).take c).take 2 = putN (21 + (txtS x).length) 2 := by
  rw [List.take_take, Nat.min_eq_left (by omega)]
  unfold recS recordS
  rw [sealed_length, bodyS_length, List.take_left' (putN_length _ _), show 17 + (txtS x).length + 4 = 21 + (txtS x).length by omega]
 rw [e2, getB_putN, Nat.mod_eq_of_lt (by omega), hl2, if_pos (by omega)]
 decide
def grpR (g : S44) : List S24 := g.f1 ++ [cm g.f0.toNat]
def LG (gr : List S44) : List S24 := gr.flatMap grpR
def byG (gr : List S44) : List UInt8 := recsL (LG gr)
structure okG (g : S44) : Prop where
 com : g.f1.any isCommit = false
 good : g.f1.all goodS = true
 ok : ∀ x ∈ g.f1, okT x
 txt : ∀ x ∈ g.f1, (txtS x).length ≤ 200
 len : g.f1.length ≤ 60
 num : 0 ≤ g.f0 ∧ g.f0 < 18446744073709551616
theorem recs_app (a b : List S24) : recsL (a ++ b) = recsL a ++ recsL b := by unfold recsL; rw [List.flatMap_append]
theorem recs_one (x : S24) : recsL [x] = recS x := by unfold recsL; rw [List.flatMap_cons, List.flatMap_nil, List.append_nil]
theorem LG_app (a b : List S44) : LG (a ++ b) = LG a ++ LG b := by unfold LG; rw [List.flatMap_append]
theorem LG_cons (g : S44) (r : List S44) : LG (g :: r) = grpR g ++ LG r := by unfold LG; rw [List.flatMap_cons]
theorem byG_app (a b : List S44) : byG (a ++ b) = byG a ++ byG b := by unfold byG; rw [LG_app, recs_app]
theorem byG_one (g : S44) : byG [g] = recsL (grpR g) := by unfold byG LG; simp
theorem recs200 : ∀ (l : List S24), (∀ x ∈ l, (txtS x).length ≤ 200) → (recsL l).length ≤ 223 * l.length
 | [], _ => by simp [recsL]
 | x :: l, h => by
  have ih := recs200 l (fun y hy => h y (List.mem_cons_of_mem _ hy))
  have hx := h x List.mem_cons_self
  have := recS_len x
  unfold recsL at ih ⊢
  rw [List.flatMap_cons, List.length_append, List.length_cons]
  omega
theorem cm_txt (n : Nat) : (txtS (cm n)).length = 0 := rfl
theorem grp_len (g : S44) (h : okG g) : (recsL (grpR g)).length ≤ 14000 ∧ (grpR g).length ≤ 61 := by
 have h1 := recs200 (grpR g) (fun x hx => by
  rcases List.mem_append.1 hx with hx | hx
  ·exact h.txt x hx
  ·rw [List.mem_singleton.1 hx, cm_txt]; omega)
 have h2 : (grpR g).length = g.f1.length + 1 := by unfold grpR; rw [List.length_append]; rfl
 have := h.len
 exact ⟨by omega, by omega⟩
theorem byG_len : ∀ (gr : List S44), (∀ g ∈ gr, okG g) → (byG gr).length ≤ 14000 * gr.length ∧ (LG gr).length ≤ 61 * gr.length
 | [], _ => by simp [byG, LG, recsL]
 | g :: r, h => by
  obtain ⟨h1, h2⟩ := byG_len r (fun x hx => h x (List.mem_cons_of_mem _ hx))
  obtain ⟨h3, h4⟩ := grp_len g (h g List.mem_cons_self)
  have e : byG (g :: r) = recsL (grpR g) ++ byG r := by unfold byG; rw [LG_cons, recs_app]
  rw [e, LG_cons, List.length_append, List.length_append, List.length_cons]
  exact ⟨by omega, by omega⟩
theorem grp_ok (g : S44) (h : okG g) : ∀ x ∈ grpR g, okT x ∧ goodS x = true := fun x hx => by
 rcases List.mem_append.1 hx with hx | hx
 ·exact ⟨h.ok x hx, List.all_eq_true.1 h.good x hx⟩
 ·rw [List.mem_singleton.1 hx]
  have := h.num
  exact ⟨cm_ok _ (by omega), cm_good _⟩
theorem LG_ok (gr : List S44) (h : ∀ g ∈ gr, okG g) : ∀ x ∈ LG gr, okT x ∧ goodS x = true := fun x hx => by
 obtain ⟨g, hg, hx⟩ := List.mem_flatMap.1 hx
 exact grp_ok g (h g hg) x hx
theorem rd_open : ∀ (l : List S24) (s : LogP) (o r : List S24), l.any isCommit = false → rdP s o (l ++ r) = rdP s (o ++ l) r
 | [], s, o, r, _ => by rw [List.nil_append, List.append_nil]
 | x :: l, s, o, r, h => by
  rw [List.any_cons, Bool.or_eq_false_iff] at h
  have h8 : ¬ x.f0 = 8 := beq_eq_false_iff_ne.1 h.1
  rw [List.cons_append, rdP, if_neg h8, rd_open l s _ r h.2, List.append_assoc]
  rfl
def addG : LogP → List S44 → LogP
 | s, [] => s
 | s, g :: r => addG ⟨g.f0.toNat, s.gr ++ [g], s.by_ ++ recsL (grpR g)⟩ r
theorem rd_grp (s : LogP) (g : S44) (r : List S24) (hg : okG g) (hf : s.gr.length = 0 ∨ (s.seq < 18446744073709551615 ∧ g.f0 = (s.seq : Int) + 1)) : rdP s [] (grpR g ++ r) = rdP ⟨g.f0.toNat, s.gr ++ [g], s.by_ ++ recsL (grpR g)⟩ [] r := by
 have hn := hg.num
 have hfo : follows s (cm g.f0.toNat) = true := decide_eq_true ⟨rfl, rfl, hf.imp id (fun h => ⟨h.1, by show ((g.f0.toNat : Nat) : Int) = _; omega⟩)⟩
 have e1 : recsL (grpR g) = recsL g.f1 ++ recS (cm g.f0.toNat) := by
  unfold grpR
  rw [recs_app, recs_one]
 have e2 : nxtP s (cm g.f0.toNat) g.f1 = ⟨g.f0.toNat, s.gr ++ [g], s.by_ ++ recsL (grpR g)⟩ := by
  have e3 : (cm g.f0.toNat).f3.toNat = g.f0.toNat := Int.toNat_natCast _
  have e4 : (⟨((g.f0.toNat : Nat) : Int), g.f1⟩ : S44) = g := s44_ext (by show ((g.f0.toNat : Nat) : Int) = g.f0; omega) rfl
  unfold nxtP
  rw [e3, e4, e1]
 show rdP s [] ((g.f1 ++ [cm g.f0.toNat]) ++ r) = _
 rw [List.append_assoc, rd_open _ _ _ _ hg.com, List.nil_append]
 show rdP s g.f1 (cm g.f0.toNat :: r) = _
 rw [rdP, if_pos (show (cm g.f0.toNat).f0 = 8 from rfl), if_pos hfo, e2]
theorem rd_all : ∀ (gr : List S44) (a : Nat) (s : LogP) (r : List S24), numG a gr → (∀ g ∈ gr, okG g) → (s.gr.length = 0 ∨ s.seq + 1 = a) → a + gr.length ≤ 18446744073709551615 → rdP s [] (LG gr ++ r) = rdP (addG s gr) [] r
 | [], _, _, _, _, _, _, _ => rfl
 | g :: q, a, s, r, hn, hg, hs, ha => by
  rw [List.length_cons] at ha
  have h0 := hn.1
  rw [LG_cons, List.append_assoc, rd_grp s g _ (hg g List.mem_cons_self) (hs.imp id (fun h => ⟨by omega, by omega⟩))]
  exact rd_all q (a + 1) _ r hn.2 (fun x hx => hg x (List.mem_cons_of_mem _ hx)) (.inr (by show g.f0.toNat + 1 = a + 1; omega)) (by omega)
theorem addG_eq : ∀ (gr : List S44) (a : Nat) (s : LogP), numG a gr → (addG s gr).gr = s.gr ++ gr ∧ (addG s gr).by_ = s.by_ ++ byG gr ∧ (0 < gr.length → (addG s gr).seq + 1 = a + gr.length)
 | [], _, s, _ => ⟨by rw [List.append_nil]; rfl, by show s.by_ = s.by_ ++ []; rw [List.append_nil], fun h => absurd h (by simp)⟩
 | g :: q, a, s, hn => by
  obtain ⟨h1, h2, h3⟩ := addG_eq q (a + 1) ⟨g.f0.toNat, s.gr ++ [g], s.by_ ++ recsL (grpR g)⟩ hn.2
  have h0 := hn.1
  rw [addG]
  refine ⟨by rw [h1, List.append_assoc]; rfl, by rw [h2, List.append_assoc]; unfold byG; rw [LG_cons, recs_app], fun _ => ?_⟩
  rw [List.length_cons]
  cases q with
  | nil => show g.f0.toNat + 1 = _; simp; omega
  | cons g2 q2 =>
   have := h3 (by simp)
   rw [this, List.length_cons]
   omega
theorem cut_recs : ∀ (R : List S24) (c : Nat), (∀ x ∈ R, okT x ∧ goodS x = true) → c < (recsL R).length → ∃ (w : Nat) (T : List UInt8), w < R.length ∧ (recsL R).take c = recsL (R.take w) ++ T ∧ (takeS T).err ≠ 0
 | [], c, _, h => by simp [recsL] at h
 | x :: R, c, hR, h => by
  have hx := hR x List.mem_cons_self
  have e : recsL (x :: R) = recS x ++ recsL R := by unfold recsL; rw [List.flatMap_cons]
  rw [e] at h ⊢
  by_cases hc : c < (recS x).length
  ·refine ⟨0, (recS x).take c, by rw [List.length_cons]; omega, ?_, take_cut x c hc (by have := hx.1.2; omega)⟩
   rw [List.take_append_of_le_length (by omega)]
   rfl
  ·obtain ⟨w, T, hw, ht, he⟩ := cut_recs R (c - (recS x).length) (fun y hy => hR y (List.mem_cons_of_mem _ hy)) (by rw [List.length_append] at h; omega)
   refine ⟨w + 1, T, by rw [List.length_cons]; omega, ?_, he⟩
   rw [List.take_append, List.take_of_length_le (by omega), ht, List.take_succ_cons]
   have e2 : recsL (x :: R.take w) = recS x ++ recsL (R.take w) := by unfold recsL; rw [List.flatMap_cons]
   rw [e2, List.append_assoc]
theorem read_open (a : Nat) (G : List S44) (op : List S24) (T : List UInt8) (hn : numG a G) (hg : ∀ g ∈ G, okG g) (ho : op.any isCommit = false) (hoo : ∀ x ∈ op, okT x ∧ goodS x = true) (hl : op.length ≤ 100) (hG : G.length ≤ 50) (ha : a + G.length ≤ 18446744073709551615) (ht : (takeS T).err ≠ 0) (hs : (recsL (LG G ++ op) ++ T).length ≤ 1000000) :
  Ev (fun k => journal_Read.f k (ba (recsL (LG G ++ op) ++ T))) (addG zeroL G).outN := by
 have hok : ∀ x ∈ LG G ++ op, okT x ∧ goodS x = true := fun x hx => (List.mem_append.1 hx).elim (LG_ok G hg x) (hoo x)
 have hsc := scan_recs (LG G ++ op) T _ hok ht (Nat.le_refl _)
 have hlen := (byG_len G hg).2
 have h := ev_read (recsL (LG G ++ op) ++ T) (LG G ++ op) hs (by rw [hsc]) hok (by rw [List.length_append]; omega)
 rw [rd_all G a zeroL op hn hg (.inl rfl) ha] at h
 have e := rd_open op (addG zeroL G) [] [] ho
 rw [List.append_nil] at e
 rw [e] at h
 exact h
def endsG (gr : List S44) : List Int := (List.range gr.length).map fun j => (((byG (gr.take (j + 1))).length : Nat) : Int)
def allG (a : Nat) (gr : List S44) : List S66 := (List.range gr.length).map fun j => (⟨((a + j : Nat) : Int), gr.take (j + 1), ba (byG (gr.take (j + 1)))⟩ : S66)
theorem endsG_len (gr : List S44) : (endsG gr).length = gr.length := by unfold endsG; rw [List.length_map, List.length_range]
theorem allG_len (a : Nat) (gr : List S44) : (allG a gr).length = gr.length := by unfold allG; rw [List.length_map, List.length_range]
theorem endsG_snoc (gr : List S44) (g : S44) : endsG (gr ++ [g]) = endsG gr ++ [(((byG (gr ++ [g])).length : Nat) : Int)] := by
 unfold endsG
 rw [List.length_append, List.length_singleton, List.range_succ, List.map_append]
 congr 1
 ·apply List.map_congr_left
  intro j hj
  rw [List.take_append_of_le_length (by have := List.mem_range.1 hj; omega)]
 ·show [(((byG ((gr ++ [g]).take (gr.length + 1))).length : Nat) : Int)] = _
  rw [List.take_of_length_le (by rw [List.length_append]; exact Nat.le_refl _)]
theorem allG_snoc (a : Nat) (gr : List S44) (g : S44) : allG a (gr ++ [g]) = allG a gr ++ [(⟨((a + gr.length : Nat) : Int), gr ++ [g], ba (byG (gr ++ [g]))⟩ : S66)] := by
 unfold allG
 rw [List.length_append, List.length_singleton, List.range_succ, List.map_append]
 congr 1
 ·apply List.map_congr_left
  intro j hj
  rw [List.take_append_of_le_length (by have := List.mem_range.1 hj; omega)]
 ·show [(⟨((a + gr.length : Nat) : Int), (gr ++ [g]).take (gr.length + 1), ba (byG ((gr ++ [g]).take (gr.length + 1)))⟩ : S66)] = _
  rw [List.take_of_length_le (by rw [List.length_append]; exact Nat.le_refl _)]
theorem ends_at (gr : List S44) (j : Nat) (h : j < gr.length) : rd (endsG gr) (j : Int) = (((byG (gr.take (j + 1))).length : Nat) : Int) := by
 unfold rd endsG
 rw [Int.toNat_natCast, List.getD_eq_getElem?_getD, List.getElem?_map, List.getElem?_range h]
 rfl
theorem all_at (a : Nat) (gr : List S44) (j : Nat) (h : j < gr.length) : rd_T66 (allG a gr) (j : Int) = ⟨((a + j : Nat) : Int), gr.take (j + 1), ba (byG (gr.take (j + 1)))⟩ := by
 unfold rd_T66 allG
 rw [Int.toNat_natCast, List.getD_eq_getElem?_getD, List.getElem?_map, List.getElem?_range h]
 rfl
structure TI (a i : Nat) (s : LogP) : Prop where
 m : okM (1 + i) s
 n : NumL a s
 by_ : s.by_ = byG s.gr
 ok : ∀ g ∈ s.gr, okG g
theorem drop_ok : okT (⟨3, 1, 0, 0, ⟨#[]⟩⟩ : S24) := ⟨⟨by decide, by decide⟩, by decide⟩
theorem torn_j4 (a i : Nat) (s : LogP) (h : TI a i s) (hi : i ≤ 12) (ha : a ≤ 1099511627776) (t : Int) :
  Ev (fun k => l13_JournalTorn.j4 k t false (s.seq : Int) s.gr (ba s.by_)) true := by
 have hm1 := h.m.1
 have hm2 := h.m.2.1
 have hlen := h.n.len
 have hpos := h.n.pos
 have hb := byG_len s.gr h.ok
 have hE := ev_add s [⟨3, 1, 0, 0, ⟨#[]⟩⟩] (fun x hx => by rw [List.mem_singleton.1 hx]; exact drop_ok) (by decide) (by omega) (by omega)
 have hs1 : s.seq + 1 < 18446744073709551616 := by omega
 have hc : closedP (s.seq + 1) [(⟨3, 1, 0, 0, ⟨#[]⟩⟩ : S24)] = some (recsL [⟨3, 1, 0, 0, ⟨#[]⟩⟩] ++ recS (cm (s.seq + 1))) := closed_ok _ _ rfl rfl
 have e : (addP s [(⟨3, 1, 0, 0, ⟨#[]⟩⟩ : S24)]).1.by_ = s.by_ ++ recsL [⟨3, 1, 0, 0, ⟨#[]⟩⟩, cm (s.seq + 1)] := by
  unfold addP withP
  rw [Nat.mod_eq_of_lt hs1, hc]
  simp only
  rw [if_pos trivial, if_neg (by omega)]
  show s.by_ ++ (recsL [⟨3, 1, 0, 0, ⟨#[]⟩⟩] ++ recS (cm (s.seq + 1))) = _
  rw [show ([⟨3, 1, 0, 0, ⟨#[]⟩⟩, cm (s.seq + 1)] : List S24) = [⟨3, 1, 0, 0, ⟨#[]⟩⟩] ++ [cm (s.seq + 1)] from rfl, recs_app, recs_one (cm (s.seq + 1))]
 generalize addP s [(⟨3, 1, 0, 0, ⟨#[]⟩⟩ : S24)] = W at hE e
 obtain ⟨u, eu⟩ := W
 replace hE : Ev (fun k => journal_Add.f k (s.seq : Int) s.gr (ba s.by_) [(⟨3, 1, 0, 0, ⟨#[]⟩⟩ : S24)]) ((u.seq : Int), u.gr, ba u.by_, eu) := hE
 have hR : ∀ x ∈ [(⟨3, 1, 0, 0, ⟨#[]⟩⟩ : S24), cm (s.seq + 1)], okT x ∧ goodS x = true := fun x hx => by
  rcases List.mem_cons.1 hx with rfl | hx
  ·exact ⟨drop_ok, rfl⟩
  ·rw [List.mem_singleton.1 hx]; exact ⟨cm_ok _ hs1, rfl⟩
 have hRl : (recsL [(⟨3, 1, 0, 0, ⟨#[]⟩⟩ : S24), cm (s.seq + 1)]).length = 46 := by
  unfold recsL
  rw [List.flatMap_cons, List.flatMap_cons, List.flatMap_nil, List.append_nil, List.length_append, recS_len, recS_len, cm_txt]
  rfl
 have hcut : ∀ c, c < 46 → ∃ (w : Nat) (T : List UInt8), w < 2 ∧ (recsL [(⟨3, 1, 0, 0, ⟨#[]⟩⟩ : S24), cm (s.seq + 1)]).take c = recsL ([(⟨3, 1, 0, 0, ⟨#[]⟩⟩ : S24), cm (s.seq + 1)].take w) ++ T ∧ (takeS T).err ≠ 0 := fun c hc => cut_recs _ c hR (by rw [hRl]; exact hc)
 have hpre : ∀ w, w < 2 → ([(⟨3, 1, 0, 0, ⟨#[]⟩⟩ : S24), cm (s.seq + 1)].take w).any isCommit = false := fun w hw => by
  match w, hw with
  | 0, _ => rfl
  | 1, _ => rfl
 have hmem : ∀ w, ∀ x ∈ [(⟨3, 1, 0, 0, ⟨#[]⟩⟩ : S24), cm (s.seq + 1)].take w, okT x ∧ goodS x = true := fun w x hx => hR x (List.mem_of_mem_take hx)
 generalize recsL [(⟨3, 1, 0, 0, ⟨#[]⟩⟩ : S24), cm (s.seq + 1)] = M at e hRl hcut
 have hmd : (ba u.by_).extract s.by_.length (ba u.by_).size = ba M := by
  show (ba u.by_).extract _ _ = _
  rw [ba_size, ba_extract]
  show ba ((u.by_.drop s.by_.length).take (u.by_.length - s.by_.length)) = ba M
  have e' : u.by_ = s.by_ ++ M := e
  rw [e', List.drop_left, List.take_of_length_le (by rw [List.length_append]; omega)]
 obtain ⟨c, hc1, hc2⟩ : ∃ c : Nat, mx 0 (mn t 45) = (c : Int) ∧ c < 46 := by
  refine ⟨(mx 0 (mn t 45)).toNat, ?_, ?_⟩ <;> unfold mx mn <;> split <;> split <;> omega
 obtain ⟨w, T, hw, ht, he⟩ := hcut c hc2
 have hul : (u.by_).length = s.by_.length + 46 := by
  have e' : u.by_ = s.by_ ++ M := e
  rw [e', List.length_append, hRl]
 have hbytes : s.by_ ++ M.take c = recsL (LG s.gr ++ [(⟨3, 1, 0, 0, ⟨#[]⟩⟩ : S24), cm (s.seq + 1)].take w) ++ T := by
  rw [ht, recs_app, h.by_, List.append_assoc]
  rfl
 have hsl : (s.by_ ++ M.take c).length ≤ 1000000 := by
  rw [List.length_append, List.length_take, h.by_]
  omega
 have hread := read_open a s.gr ([(⟨3, 1, 0, 0, ⟨#[]⟩⟩ : S24), cm (s.seq + 1)].take w) T h.n.num h.ok (hpre w hw) (hmem w) (by rw [List.length_take]; show min w 2 ≤ 100; omega) (by omega) (by omega) he (by rw [← hbytes]; exact hsl)
 rw [← hbytes] at hread
 obtain ⟨g1, g2, g3⟩ := addG_eq s.gr a zeroL h.n.num
 have g3 := g3 hpos
 generalize addG zeroL s.gr = v at hread g1 g2 g3
 refine Ev.step (fun k => by simp only [l13_JournalTorn.j4]; rw [if_neg (by decide)]) ?_
 refine Ev.bind hE ?_
 refine Ev.congr (f := fun k => (journal_Read.f k (ba (s.by_ ++ M.take c))).bind fun bt286 => (if bt286.2.2.2 = ((ba s.by_).size : Int) then (if bt286.1 = (s.seq : Int) then (some ((bt286.2.1.length : Int) == (s.gr.length : Int))) else (none)) else (none))) (fun k => ?_) ?_
 ·dsimp only
  rw [if_pos (by omega), if_pos (by rw [ba_size, ba_size]; omega), Int.toNat_natCast, ba_size s.by_, hmd, ba_size M, hRl, show wrap64 (((46 : Nat) : Int) - 1) = 45 from by rw [w64 _ (by omega) (by omega)]; omega, hc1, if_pos (by omega), if_pos (by omega), Int.toNat_natCast, ba_take, ba_size, if_pos (by rw [List.length_take]; omega), ba_append]
 ·refine Ev.bind hread ?_
  refine Ev.congr (f := fun _ => some true) (fun k => ?_) (Ev.now _)
  show (if (v.by_.length : Int) = ((ba s.by_).size : Int) then (if (v.seq : Int) = (s.seq : Int) then (some ((v.gr.length : Int) == (s.gr.length : Int))) else none) else none) = some true
  have e1 : v.by_ = s.by_ := by rw [g2, h.by_]; rfl
  have e2 : v.gr = s.gr := by rw [g1]; rfl
  rw [e1, e2, ba_size, if_pos rfl, if_pos (by omega)]
  exact congrArg some (beq_self_eq_true _)
theorem numG_take : ∀ (gr : List S44) (a m : Nat), numG a gr → numG a (gr.take m)
 | [], _, _, _ => by rw [List.take_nil]; trivial
 | _ :: _, _, 0, _ => trivial
 | g :: r, a, m + 1, h => ⟨h.1, numG_take r (a + 1) m h.2⟩
theorem byG_split (gr : List S44) (m : Nat) : byG gr = byG (gr.take m) ++ byG (gr.drop m) := by rw [← byG_app, List.take_append_drop]
theorem byG_succ (gr : List S44) (m : Nat) (h : m < gr.length) : byG (gr.take (m + 1)) = byG (gr.take m) ++ recsL (grpR (gr[m]'h)) := by
 rw [List.take_succ_eq_append_getElem h, byG_app, byG_one]
theorem cut_groups (gr : List S44) (hok : ∀ g ∈ gr, okG g) (m c : Nat) (hm : m ≤ gr.length) (h1 : (byG (gr.take m)).length ≤ c) (h2 : m < gr.length → c < (byG (gr.take (m + 1))).length) (_hc : c ≤ (byG gr).length) :
  ∃ (op : List S24) (T : List UInt8), (byG gr).take c = recsL (LG (gr.take m) ++ op) ++ T ∧ op.any isCommit = false ∧ (∀ x ∈ op, okT x ∧ goodS x = true) ∧ op.length ≤ 100 ∧ (takeS T).err ≠ 0 := by
 rcases Nat.lt_or_ge m gr.length with hlt | hge
 ·have h3 := h2 hlt
  have hg := hok _ (List.getElem_mem hlt)
  rw [byG_succ gr m hlt, List.length_append] at h3
  obtain ⟨w, T, hw, ht, he⟩ := cut_recs (grpR (gr[m]'hlt)) (c - (byG (gr.take m)).length) (grp_ok _ hg) (by omega)
  have hwl : w ≤ (gr[m]'hlt).f1.length := by
   have : (grpR (gr[m]'hlt)).length = (gr[m]'hlt).f1.length + 1 := by unfold grpR; rw [List.length_append]; rfl
   omega
  have hop : (grpR (gr[m]'hlt)).take w = (gr[m]'hlt).f1.take w := by unfold grpR; rw [List.take_append_of_le_length hwl]
  rw [hop] at ht
  have hl := hg.len
  refine ⟨(gr[m]'hlt).f1.take w, T, ?_, ?_, fun x hx => ?_, by rw [List.length_take]; omega, he⟩
  ·have e : byG gr = byG (gr.take m) ++ (recsL (grpR (gr[m]'hlt)) ++ byG (gr.drop (m + 1))) := by
    rw [byG_split gr (m + 1), byG_succ gr m hlt, List.append_assoc]
   rw [e, List.take_append, List.take_of_length_le h1, List.take_append_of_le_length (by omega), ht, recs_app, List.append_assoc]
   rfl
  ·rw [Bool.eq_false_iff]
   intro h
   obtain ⟨x, hx, hy⟩ := List.any_eq_true.1 h
   have := List.any_eq_false.1 hg.com x (List.mem_of_mem_take hx)
   exact this hy
  ·have hx' := List.mem_of_mem_take hx
   exact ⟨hg.ok x hx', List.all_eq_true.1 hg.good x hx'⟩
 ·obtain rfl : m = gr.length := by omega
  rw [List.take_length] at h1
  refine ⟨[], [], ?_, rfl, fun _ h => (by cases h), by simp, by rw [take_nil]; decide⟩
  rw [List.append_nil, List.append_nil, List.take_length, List.take_of_length_le h1]
  rfl
theorem torn_j3 (a i : Nat) (s : LogP) (h : TI a i s) (hi : i ≤ 12) (ha : a ≤ 1099511627776) (t : Int) (m c : Nat) (hm : m ≤ s.gr.length) (h1 : (byG (s.gr.take m)).length ≤ c) (h2 : m < s.gr.length → c < (byG (s.gr.take (m + 1))).length) (hc : c ≤ (byG s.gr).length) :
  Ev (fun k => l13_JournalTorn.j3 k (c : Int) t (endsG s.gr) (allG a s.gr) (m : Int) (s.seq : Int) s.gr (ba s.by_)) true := by
 have hm1 := h.m.1
 have hb := byG_len s.gr h.ok
 have hj := torn_j4 a i s h hi ha t
 have hlen := h.n.len
 obtain ⟨op, T, hcut, ho, hoo, hl, he⟩ := cut_groups s.gr h.ok m c hm h1 h2 hc
 have hG : ∀ g ∈ s.gr.take m, okG g := fun g hg => h.ok g (List.mem_of_mem_take hg)
 have hn := numG_take s.gr a m h.n.num
 have hlm : (s.gr.take m).length = m := by rw [List.length_take]; omega
 have hread := read_open a (s.gr.take m) op T hn hG ho hoo hl (by omega) (by omega) he (by rw [← hcut, List.length_take]; omega)
 rw [← hcut, ← h.by_] at hread
 obtain ⟨g1, g2, g3⟩ := addG_eq (s.gr.take m) a zeroL hn
 rw [hlm] at g3
 have hz : m = 0 → addG zeroL (s.gr.take m) = zeroL := fun hm => by rw [hm, List.take_zero]; rfl
 generalize addG zeroL (s.gr.take m) = v at hread g1 g2 g3 hz
 have e2 : v.gr = s.gr.take m := by rw [g1]; rfl
 have e1 : v.by_ = byG (s.gr.take m) := by rw [g2]; rfl
 refine Ev.step (fun k => by simp only [l13_JournalTorn.j3]; rw [if_pos (by omega), if_pos (by rw [ba_size, h.by_]; omega), Int.toNat_natCast, ba_take]) ?_
 refine Ev.bind hread ?_
 by_cases h0 : m = 0
 ·have hv := hz h0
  subst hv
  subst h0
  refine Ev.congr (fun k => ?_) hj
  exact (if_pos rfl).trans ((if_pos rfl).trans ((if_pos rfl).trans ((if_pos rfl).trans (if_neg (by decide)))))
 ·obtain ⟨q, rfl⟩ : ∃ q, m = q + 1 := ⟨m - 1, by omega⟩
  have g3 := g3 (by omega)
  have hw : wrap64 (((q + 1 : Nat) : Int) - 1) = (q : Int) := by rw [w64 _ (by omega) (by omega)]; omega
  refine Ev.congr (fun k => (if_neg (by omega)).trans ((if_pos (by omega)).trans ?_)) hj
  rw [hw, if_pos (by omega), endsG_len, if_pos (by omega), ends_at s.gr q (by omega), allG_len, all_at a s.gr q (by omega)]
  show (if (v.by_.length : Int) = (((byG (s.gr.take (q + 1))).length : Nat) : Int) then (if (q : Int) < (s.gr.length : Int) then (if (ba v.by_).toList = (ba (byG (s.gr.take (q + 1)))).toList then (if (v.seq : Int) = ((a + q : Nat) : Int) then (l13_JournalTorn.j4 k t ((v.gr.length : Int) != ((q + 1 : Nat) : Int)) (s.seq : Int) s.gr (ba s.by_)) else none) else none) else none) else none) = _
  rw [e1, e2, hlm, if_pos rfl, if_pos (by omega), if_pos rfl, if_pos (by omega), show ((((q + 1 : Nat) : Int) != ((q + 1 : Nat) : Int)) = false) from bne_self_eq_false _]
theorem torn_l1 (a i : Nat) (s : LogP) (h : TI a i s) (hi : i ≤ 12) (ha : a ≤ 1099511627776) (t : Int) (c : Nat) (hc : c ≤ (byG s.gr).length) : ∀ (d m : Nat), m + d = s.gr.length → (byG (s.gr.take m)).length ≤ c →
  Ev (fun k => l13_JournalTorn.l1 k (c : Int) t (endsG s.gr) (allG a s.gr) (m : Int) (s.seq : Int) s.gr (ba s.by_)) true := by
 intro d
 induction d with
 | zero =>
  intro m hm h1
  refine Ev.step (fun k => ?_) (torn_j3 a i s h hi ha t m c (by omega) h1 (fun h => by omega) hc)
  simp only [l13_JournalTorn.l1]
  rw [if_neg (by rw [endsG_len]; omega)]
 | succ d ih =>
  intro m hm h1
  have hlt : m < s.gr.length := by omega
  have hm1 := h.m.1
  have hg := ends_at s.gr m hlt
  by_cases h2 : (byG (s.gr.take (m + 1))).length ≤ c
  ·refine Ev.step (fun k => ?_) (ih (m + 1) (by omega) h2)
   simp only [l13_JournalTorn.l1]
   rw [if_pos (by rw [endsG_len]; omega), if_pos (by omega), hg, if_pos (by omega), wj m (by omega)]
  ·refine Ev.step (fun k => ?_) (torn_j3 a i s h hi ha t m c (by omega) h1 (fun _ => by omega) hc)
   simp only [l13_JournalTorn.l1]
   rw [if_pos (by rw [endsG_len]; omega), if_pos (by omega), hg, if_neg (by omega)]
theorem ti_add {a i : Nat} {s : LogP} (h : TI a i s) (l : List S24) (hl : l.length ≤ 60) (ho : ∀ x ∈ l, okT x) (ht : ∀ x ∈ l, (txtS x).length ≤ 200) (hs : s.seq + 1 < 18446744073709551615) (b : List UInt8) (hc : closedP (s.seq + 1) l = some b) :
  addP s l = (⟨s.seq + 1, s.gr ++ [⟨((s.seq + 1 : Nat) : Int), l⟩], s.by_ ++ b⟩, 0) ∧ TI a (i + 1) ⟨s.seq + 1, s.gr ++ [⟨((s.seq + 1 : Nat) : Int), l⟩], s.by_ ++ b⟩ := by
 have e : addP s l = (⟨s.seq + 1, s.gr ++ [⟨((s.seq + 1 : Nat) : Int), l⟩], s.by_ ++ b⟩, 0) := by
  unfold addP withP
  rw [Nat.mod_eq_of_lt (show s.seq + 1 < 18446744073709551616 by omega), hc]
  simp only
  rw [if_pos trivial, if_neg (by omega)]
 have hM := okM_add h.m l hl ho
 have hN : NumL a (nextP s l) := num_next h.n h.m.2.2.1 l
 have e2 : nextP s l = ⟨s.seq + 1, s.gr ++ [⟨((s.seq + 1 : Nat) : Int), l⟩], s.by_ ++ b⟩ := by
  unfold nextP
  rw [e]
  exact if_pos rfl
 rw [e] at hM
 rw [e2] at hN
 unfold closedP at hc
 split at hc
 ·cases hc
 ·rename_i hcc
  have hcom : l.any isCommit = false := by
   cases h : l.any isCommit with
   | false => rfl
   | true => exact absurd (.inl h) hcc
  have hgood : l.all goodS = true := by
   cases h : l.all goodS with
   | true => rfl
   | false => exact absurd (.inr h) hcc
  cases hc
  have hg : okG ⟨((s.seq + 1 : Nat) : Int), l⟩ := ⟨hcom, hgood, ho, ht, hl, by show (0 : Int) ≤ ((s.seq + 1 : Nat) : Int); omega, by show ((s.seq + 1 : Nat) : Int) < _; omega⟩
  refine ⟨e, ⟨by rw [show 1 + (i + 1) = 1 + i + 1 by omega]; exact hM, hN, ?_, fun g hg' => ?_⟩⟩
  ·show s.by_ ++ (recsL l ++ recS (cm (s.seq + 1))) = byG (s.gr ++ [_])
   rw [byG_app, byG_one, h.by_]
   unfold grpR
   rw [recs_app, recs_one]
   show _ = byG s.gr ++ (recsL l ++ recS (cm (((s.seq + 1 : Nat) : Int)).toNat))
   rw [Int.toNat_natCast]
  ·rcases List.mem_append.1 (show g ∈ s.gr ++ [_] from hg') with hg' | hg'
   ·exact h.ok g hg'
   ·rw [List.mem_singleton.1 hg']; exact hg
theorem ti_up {a i : Nat} {s : LogP} (h : TI a i s) : TI a (i + 1) s := ⟨by rw [show 1 + (i + 1) = 1 + i + 1 by omega]; exact okM_up h.m, h.n, h.by_, h.ok⟩
theorem torn_l0 (L : List (List S24)) (cut t : Int) (a : Nat) (h12 : L.length ≤ 12) (ha : a ≤ 1099511627776) (ho : ∀ l ∈ L, l.length ≤ 60 ∧ (∀ x ∈ l, okT x) ∧ ∀ x ∈ l, (txtS x).length ≤ 200) : ∀ (d i : Nat) (s : LogP), i + d = L.length → TI a i s →
  Ev (fun k => l13_JournalTorn.l0 k L cut t (endsG s.gr) (allG a s.gr) (i : Int) (s.seq : Int) s.gr (ba s.by_)) true := by
 intro d
 induction d with
 | zero =>
  intro i s hi h
  have hb := byG_len s.gr h.ok
  obtain ⟨c, hc, hcl⟩ : ∃ c : Nat, mx 0 (mn cut (((byG s.gr).length : Nat) : Int)) = (c : Int) ∧ c ≤ (byG s.gr).length := by
   refine ⟨(mx 0 (mn cut (((byG s.gr).length : Nat) : Int))).toNat, ?_, ?_⟩ <;> unfold mx mn <;> split <;> split <;> omega
  have h1 := torn_l1 a i s h (by omega) ha t c hcl s.gr.length 0 (by omega) (by simp [byG, LG, recsL])
  refine Ev.step (fun k => ?_) h1
  simp only [l13_JournalTorn.l0]
  rw [if_neg (by omega), ba_size, h.by_, hc]
  rfl
 | succ d ih =>
  intro i s hi h
  have hlt : i < L.length := by omega
  obtain ⟨hl, hlo, hlt2⟩ := ho _ (List.getElem_mem hlt)
  have hr := rjL L i hlt
  generalize L[i]'hlt = l at hr hl hlo hlt2
  have hm1 := h.m.1
  have hm2 := h.m.2.1
  have hlen := h.n.len
  have hpos := h.n.pos
  have hE := ev_add s l hlo (by omega) (by omega) (by omega)
  have hs1 : s.seq + 1 < 18446744073709551615 := by omega
  refine Ev.step (fun k => by simp only [l13_JournalTorn.l0]; rw [if_pos (by omega), if_pos (by omega), hr]) ?_
  refine Ev.bind hE ?_
  cases hc : closedP (s.seq + 1) l with
  | none =>
   have e : addP s l = (zeroL, 1) := by
    unfold addP withP
    rw [Nat.mod_eq_of_lt (show s.seq + 1 < 18446744073709551616 by omega), hc]
    simp only
    rw [if_neg (by decide)]
   rw [e]
   refine Ev.congr (fun k => if_neg (by decide)) ?_
   have h' := ih (i + 1) s (by omega) (ti_up h)
   refine Ev.congr (fun k => ?_) h'
   rw [wj i (by omega)]
  | some b =>
   obtain ⟨e, hI⟩ := ti_add h l hl hlo hlt2 hs1 b hc
   rw [e]
   have h' := ih (i + 1) _ (by omega) hI
   have hby := hI.by_
   refine Ev.congr (fun k => ?_) h'
   show (if (0 : Int) = 0 then _ else _) = _
   rw [if_pos rfl, if_pos (by rw [endsG_len]; omega), if_pos (by rw [allG_len]; omega), wj i (by omega)]
   show l13_JournalTorn.l0 k L cut t (endsG s.gr ++ [((ba (s.by_ ++ b)).size : Int)]) (allG a s.gr ++ [(⟨((s.seq + 1 : Nat) : Int), s.gr ++ [⟨((s.seq + 1 : Nat) : Int), l⟩], ba (s.by_ ++ b)⟩ : S66)]) _ _ _ _ = l13_JournalTorn.l0 k L cut t (endsG (s.gr ++ [⟨((s.seq + 1 : Nat) : Int), l⟩])) (allG a (s.gr ++ [⟨((s.seq + 1 : Nat) : Int), l⟩])) _ _ _ _
   have hby' : s.by_ ++ b = byG (s.gr ++ [⟨((s.seq + 1 : Nat) : Int), l⟩]) := hby
   rw [endsG_snoc, allG_snoc, ba_size, ← hby', show a + s.gr.length = s.seq + 1 by omega]
   rfl
theorem JournalTorn (a : Int) (L : List (List S24)) (c t : Int) (ha : 0 ≤ a ∧ a < 18446744073709551616) (hL : ∀ l ∈ L, ∀ x ∈ l, 0 ≤ x.f3 ∧ x.f3 < 18446744073709551616) (_hc : -9223372036854775808 ≤ c ∧ c < 9223372036854775808) (_ht : -9223372036854775808 ≤ t ∧ t < 9223372036854775808) : ∃ k, l13_JournalTorn.f k a L c t = some true := by
 obtain ⟨s, rfl⟩ : ∃ s : Nat, a = (s : Int) := ⟨a.toNat, by omega⟩
 obtain ⟨q, hq, hqx⟩ := shorts13 L
 have body : ∀ r : Bool, (r = false → q = true ∧ s ≤ 1099511627776) → Ev (fun k => l13_JournalTorn.j0 k (s : Int) L c t true r) true := by
  intro r hr
  cases r with
  | true =>
   refine Ev.step (f := fun _ => some true) (fun k => ?_) (Ev.now _)
   simp only [l13_JournalTorn.j0]
   rw [if_pos trivial]
  | false =>
   obtain ⟨rfl, hs2⟩ := hr rfl
   obtain ⟨h12, hx⟩ := hqx rfl
   have hn : ∀ x ∈ ([] : List S24), okT x := fun x hx => by cases hx
   have hLo : ∀ l ∈ L, l.length ≤ 60 ∧ (∀ x ∈ l, okT x) ∧ ∀ x ∈ l, (txtS x).length ≤ 200 := fun l hm => ⟨by have := (hx l hm).1; omega, fun x hxm => ⟨hL l hm x hxm, by have := (hx l hm).2 x hxm; omega⟩, fun x hxm => (hx l hm).2 x hxm⟩
   have hE := ev_new s [] (by omega) hn (by simp)
   have hM := okM_with (okM_zero 0) s [] (by omega) (by simp) hn
   have e : newP s [] = (⟨s, [⟨(s : Int), []⟩], recS (cm s)⟩, 0) := rfl
   have e' : withP zeroL s [] = (⟨s, [⟨(s : Int), []⟩], recS (cm s)⟩, 0) := rfl
   have hnum := num_new s
   rw [e] at hE hnum
   rw [e'] at hM
   have hby : recS (cm s) = byG [⟨(s : Int), []⟩] := by
    rw [byG_one]
    show recS (cm s) = recsL ([] ++ [cm ((s : Int)).toNat])
    rw [Int.toNat_natCast]
    simp [recsL]
   have hI : TI s 0 ⟨s, [⟨(s : Int), []⟩], recS (cm s)⟩ := ⟨hM, hnum, hby, fun g hg => by
    rw [List.mem_singleton.1 hg]
    exact ⟨rfl, rfl, fun x hx => (by cases hx), fun x hx => (by cases hx), Nat.zero_le _, by show (0 : Int) ≤ (s : Int); omega, by show (s : Int) < _; omega⟩⟩
   have h := torn_l0 L c t s h12 hs2 hLo L.length 0 _ (by omega) hI
   refine Ev.step (fun k => by simp only [l13_JournalTorn.j0]; rw [if_neg (by decide)]) ?_
   refine Ev.bind hE ?_
   refine Ev.congr (fun k => ?_) h
   show l13_JournalTorn.l0 k L c t [((ba (recS (cm s))).size : Int)] [(⟨(s : Int), [⟨(s : Int), []⟩], ba (recS (cm s))⟩ : S66)] 0 _ _ _ = l13_JournalTorn.l0 k L c t [(((byG [⟨(s : Int), []⟩]).length : Nat) : Int)] [(⟨((s + 0 : Nat) : Int), [⟨(s : Int), []⟩], ba (byG [⟨(s : Int), []⟩])⟩ : S66)] ((0 : Nat) : Int) _ _ _
   rw [ba_size, hby]
   rfl
 refine Ev.rounds (Ev.bind shown13 (Ev.bind hq (Ev.congr (fun k => if_pos rfl) ?_)))
 cases q with
 | false => exact Ev.congr (fun k => if_neg (by decide)) (body true (by simp))
 | true => exact Ev.congr (fun k => if_pos rfl) (body _ (fun h => ⟨rfl, by have := of_decide_eq_false h; omega⟩))
end Go.Proofs.YtboommbclbjlnaaDoor.Pu
end
section
namespace Go.Proofs.YtboommbclbjlnaaDoor.RowB
open Go.Shelf Go.ChangeShapes Go.WideShapes Go.ChangeAt Go.RowKit Go.Lib Go.Deep
theorem own : ownKnob Tryd.prog.godebug = none := by kernel_rfl
theorem laidOut : laidOutB Tryd.prog = true := by kernel_rfl
theorem accept_eq : (Rows.laid_unicode_utf8_acceptRanges : DataW Unit) = acceptData := by kernel_rfl
theorem first_eq : Rows.laid_unicode_utf8_first = firstData := by unfold Rows.laid_unicode_utf8_first; exact Pinned.utf8First_eq
theorem tabs {W : World} (h : laidMetH Tryd.prog [("unicode/utf8.acceptRanges", Rows.laid_unicode_utf8_acceptRanges), ("unicode/utf8.first", Rows.laid_unicode_utf8_first)] W) : Lf.Tabs W := by
  have h' : laidMet Tryd.prog [("unicode/utf8.acceptRanges", Rows.laid_unicode_utf8_acceptRanges), ("unicode/utf8.first", Rows.laid_unicode_utf8_first)] W := h
  have h1 := Lib.laidMet.reads h' (.head _)
  have h2 := Lib.laidMet.reads h' (.tail _ (.head _))
  rw [accept_eq] at h1
  rw [first_eq] at h2
  exact ⟨utf8Tabs_of_readsT (U8Types.of196 Lf.laysValid) ⟨by kernel_rfl, by kernel_rfl, by kernel_rfl, by kernel_rfl, by kernel_rfl, by kernel_rfl, by kernel_rfl⟩ h2 h1⟩
noncomputable def laidWorld (os : Os) : World :=
  let w0 := World.holding Tryd.prog os ⟨#[], #[], []⟩
  let put (h : Array Obj) (g : Nat) (cs : Array Value) : Array Obj := h.modify g fun
    | .cells _ t frozen => .cells cs t frozen
    | o => o
  let h1 := put w0.heap 0 (Lib.firstTab.map fun z => Value.int .u8 z).toArray
  let h2 := put h1 1 ((List.range 16).flatMap fun i => [Value.int .u8 (Lib.accLo i), Value.int .u8 (Lib.accHi i)]).toArray
  { w0 with heap := h2 }
theorem laid_met (os : Os) (args : Array Value) : laidMet Tryd.prog [("unicode/utf8.acceptRanges", Rows.laid_unicode_utf8_acceptRanges), ("unicode/utf8.first", Rows.laid_unicode_utf8_first)] ((laidWorld os).forCall (fun _ _ => 0) ⟨#[], args, []⟩).memory := by
  rw [accept_eq, first_eq]
  exact laidMet_of_run' 8 (by kernel_rfl) (by kernel_rfl)
end Go.Proofs.YtboommbclbjlnaaDoor.RowB
end
section
namespace Go.Proofs.YtboommbclbjlnaaDoor.RowA
open Go.Shelf Go.ChangeShapes Go.WideShapes Go.ChangeAt Go.RowKit Go.Lib Go.Deep
open Go.ChangeMaps (open_string shut_string)
set_option maxRecDepth 100000
section
variable {H : Type} {enc : TypeId × Value → H} {W : World} {base b0 : Nat} {sp : Nat → Bool} {held : Bool}
theorem open_num {t : TypeId} {k : IntKind} (ht : Tryd.prog.underlying t = some (.int k)) {r : Reach} {v : Value} {d : DataW H} {p : List MemPlace} (hv : Value.okWide Tryd.prog W r b0 t v)
    (h : DataW.Trod enc Tryd.prog W base sp held t v d p) : ∃ a : Int, v = .int k a ∧ (Lit.int k a).wf = true := by
  obtain ⟨a, rfl, _, _, w⟩ := open_int ht hv h
  exact ⟨a, rfl, w⟩
theorem cells3 : Tryd.prog.cellsOf 3 = 1 := by kernel_rfl
theorem cells9 : Tryd.prog.cellsOf 9 = 1 := by kernel_rfl
theorem cells22 : Tryd.prog.cellsOf 22 = 1 := by kernel_rfl
theorem cells24 : Tryd.prog.cellsOf 24 = 5 := by kernel_rfl
end
end Go.Proofs.YtboommbclbjlnaaDoor.RowA
end
section
namespace Go.Proofs.YtboommbclbjlnaaDoor.RowA
open Go.Shelf Go.ChangeShapes Go.WideShapes Go.ChangeAt Go.RowKit Go.Lib Go.Deep Go.Proofs.YtboommbclbjlnaaDoorW.PrintWords Go.Proofs.YtboommbclbjlnaaDoor.Fn
set_option maxRecDepth 100000
section
variable {H : Type} {enc : TypeId × Value → H} {W : World} {base b0 : Nat} {sp : Nat → Bool} {held : Bool}
def okStep (x : S24) : Prop := 0 ≤ x.f3 ∧ x.f3 < 18446744073709551616
theorem core24 {fuel : Nat} {cs : List Value} {y : DataW H × List MemPlace} (h : DataW.trod enc Tryd.prog W base sp held fuel 24 cs = some y) : ∃ x : S24, k24.K W x cs ∧ okStep x := by
  obtain ⟨xs, n, _, hx, hl, hlen, hg⟩ := DataW.trod_struct Tryd.underlying24 h
  match cs, hl.trans cells24 with
  | [c0, c1, c2, c3, c4], _ =>
    match xs, hlen with
    | [y0, y1, y2, y3, y4], _ =>
      have g0 := hg 0 _ rfl
      change DataW.trod enc Tryd.prog W base sp held n 3 (([c0, c1, c2, c3, c4].drop 0).take (Tryd.prog.cellsOf 3)) = some y0 at g0
      rw [cells3] at g0
      have g1 := hg 1 _ rfl
      change DataW.trod enc Tryd.prog W base sp held n 3 (([c0, c1, c2, c3, c4].drop 1).take (Tryd.prog.cellsOf 3)) = some y1 at g1
      rw [cells3] at g1
      have g2 := hg 2 _ rfl
      change DataW.trod enc Tryd.prog W base sp held n 3 (([c0, c1, c2, c3, c4].drop 2).take (Tryd.prog.cellsOf 3)) = some y2 at g2
      rw [cells3] at g2
      have g3 := hg 3 _ rfl
      change DataW.trod enc Tryd.prog W base sp held n 22 (([c0, c1, c2, c3, c4].drop 3).take (Tryd.prog.cellsOf 22)) = some y3 at g3
      rw [cells22] at g3
      have g4 := hg 4 _ rfl
      change DataW.trod enc Tryd.prog W base sp held n 9 (([c0, c1, c2, c3, c4].drop 4).take (Tryd.prog.cellsOf 9)) = some y4 at g4
      rw [cells9] at g4
      obtain ⟨m0, e0, _, w0⟩ := DataW.trod_int Tryd.underlying3 g0
      obtain ⟨m1, e1, _, w1⟩ := DataW.trod_int Tryd.underlying3 g1
      obtain ⟨m2, e2, _, w2⟩ := DataW.trod_int Tryd.underlying3 g2
      obtain ⟨m3, e3, _, w3⟩ := DataW.trod_int Tryd.underlying22 g3
      obtain ⟨m4, e4, _, w4⟩ := DataW.trod_string Tryd.underlying9 g4
      cases e0; cases e1; cases e2; cases e3; cases e4
      refine ⟨⟨m0, m1, m2, m3, m4⟩, k24_mk W _, ?_⟩
      have hb := bounds_u64 w3
      exact ⟨hb.1, by show m3 < _; omega⟩
theorem open_row {α : Type} (d : Kd α) (Q : α → Prop) {t e : TypeId} (ht : Tryd.prog.underlying t = some (.slice e)) (hsz : Tryd.prog.cellsOf e = d.sz)
    (core : ∀ (fuel : Nat) (cs : List Value) (y : DataW H × List MemPlace), DataW.trod enc Tryd.prog W base sp held fuel e cs = some y → ∃ x : α, d.K W x cs ∧ Q x)
    {fuel : Nat} {cs : List Value} {y : DataW H × List MemPlace} (h : DataW.trod enc Tryd.prog W base sp held fuel t cs = some y) :
    ∃ (A : Option Addr) (l : List α) (c : Nat), cs = [.slice A l.length c] ∧ d.C W A l.length l ∧ l.length ≤ c ∧ ∀ x ∈ l, Q x := by
  rcases open_slice ht h with ⟨rfl, _⟩ | ⟨a, len, cap, m, n, D, Pl, rfl, hb, hl, hm, hmm, hx, hi⟩
  · exact ⟨none, [], 0, rfl, ⟨rfl, Nat.zero_le _, fun h => absurd h (by simp)⟩, Nat.le_refl _, fun x hx => by cases hx⟩
  · have hml : len ≤ m := by rw [hmm]; split <;> omega
    have hall : ∀ k, k ≤ len → ∃ l : List α, l.length = k ∧ (∀ x ∈ l, Q x) ∧ ∀ j p, l[j]? = some p → ∃ c, c.length = d.sz ∧ d.K W p c ∧ ∀ i u, c[i]? = some u → W.cell? (a.add (j * d.sz + i)) = some u := by
      intro k
      induction k with
      | zero => intro _; exact ⟨[], rfl, (fun x hx => by cases hx), (fun j p hj => by simp at hj)⟩
      | succ k ih =>
        intro hk
        obtain ⟨l, hlen, hq, hg⟩ := ih (by omega)
        obtain ⟨cs', hc, ht'⟩ := hi k (by omega)
        obtain ⟨x, hK, hQ⟩ := core _ _ _ ht'
        obtain ⟨_, hcl, hat⟩ := World.cells?_some hc
        rw [hsz] at hcl hat
        refine ⟨l ++ [x], by simp [hlen], fun z hz => ?_, fun j p hj => ?_⟩
        · rcases List.mem_append.1 hz with hz | hz
          · exact hq z hz
          · rw [List.mem_singleton.1 hz]; exact hQ
        · rcases Nat.lt_or_ge j l.length with hjl | hjl
          · rw [List.getElem?_append_left hjl] at hj
            exact hg j p hj
          · rw [List.getElem?_append_right hjl] at hj
            have hj0 : j - l.length = 0 := by
              rcases Nat.eq_zero_or_pos (j - l.length) with h0 | h0
              · exact h0
              · rw [List.getElem?_eq_none (by simp only [List.length_singleton]; omega)] at hj; cases hj
            rw [hj0] at hj
            cases hj
            refine ⟨cs', hcl, hK, fun i u hu => ?_⟩
            have hil : i < d.sz := by rw [← hcl]; exact (List.getElem?_eq_some_iff.1 hu).1
            have h1 := hat i hil
            rw [← Go.Deep.add_add, show j = k by omega, h1, hu]
    obtain ⟨l, hlen, hq, hg⟩ := hall len (Nat.le_refl _)
    subst hlen
    exact ⟨some a, l, cap, rfl, ⟨rfl, by unfold maxLen at hm; omega, fun _ => ⟨a, rfl, hg⟩⟩, hl, hq⟩
theorem one29 : Tryd.prog.cellsOf 29 = 1 := by kernel_rfl
theorem open_rows {r : Reach} {v : Value} {d : DataW H} {p : List MemPlace} (hv : Value.okWide Tryd.prog W r b0 63 v) (h : DataW.Trod enc Tryd.prog W base sp held 63 v d p) :
    ∃ (A : Option Addr) (l : List (List S24)) (c : Nat), v = .slice A l.length c ∧ Kd.C (Kd.slice 24 k24) W A l.length l ∧ l.length ≤ c ∧ ∀ x ∈ l, ∀ s ∈ x, okStep s := by
  obtain ⟨a, n, c, rfl⟩ := okWide_slice Tryd.underlying63 hv
  obtain ⟨fuel, hf⟩ := h
  obtain ⟨A, l, c', e, h1, h2, h3⟩ := open_row (Kd.slice 24 k24) (fun x => ∀ s ∈ x, okStep s) Tryd.underlying63 one29 (fun fuel cs y hy => by
    obtain ⟨A, l, c, e, h1, h2, h3⟩ := open_row k24 okStep Tryd.underlying29 cells24 (fun _ _ _ => core24) hy
    exact ⟨l, ⟨A, c, e, h2, h1⟩, h3⟩) hf
  exact ⟨A, l, c', List.singleton_inj.1 e, h1, h2, h3⟩
end
end Go.Proofs.YtboommbclbjlnaaDoor.RowA
end
