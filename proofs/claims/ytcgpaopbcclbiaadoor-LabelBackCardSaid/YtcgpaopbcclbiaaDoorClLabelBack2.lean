-- Packed by pack.py, a program of this session, out of texts of this claim.
import Derived.Test.YtcgpaopbcclbiaaDoorPlBytes
import Derived.Test.YtcgpaopbcclbiaaDoorLfRight
import Derived.Test.YtcgpaopbcclbiaaDoorClLabelBack1
import Derived.Test.YtcgpaopbcclbiaaDoorClLabelBack0
import Derived.Test.YtcgpaopbcclbiaaDoorPlRunes
import Derived.Test.YtcgpaopbcclbiaaDoorPlRunes2
import Derived.Test.YtcgpaopbcclbiaaDoorPlUnq
import Derived.Test.YtcgpaopbcclbiaaDoorRows
import Derived.Test.YtcgpaopbcclbiaaDoorLfQuote
import Derived.Test.YtcgpaopbcclbiaaDoorLfUnq
import Derived.Lib.LaidU8T
import Derived.Lib.LaidTab
import Derived.Lib.LaidU8
import Derived.PinnedBridge
import Derived.WalkKit
import Derived.ProofKit
import Derived.OpenShut
import Derived.ChangeOld
import Derived.Below
import Derived.SizedLaws
import Derived.Carry
import Derived.Deep.DeepHandedRow
import Derived.Deep.DeepWitnessRowRef
import Derived.Deep.Fields
import Derived.Deep.DeepLaidRun
import Derived.Lib.TrailingZeros
import Derived.Stop.LaidErr
import Derived.Shelf.Vars
import Derived.ChangeShapes
import Derived.Lib.SmallJoins
section
/- Small words: a byte of a text, a sum that does not overflow. -/





namespace Go.Proofs.YtcgpaopbcclbiaaDoor.Pu
open Go Go.RowKit Go.Proofs.YtcgpaopbcclbiaaDoor.Pl Go.Proofs.YtcgpaopbcclbiaaDoorW.PrintWords
theorem w64 (x : Int) (h0 : -9223372036854775808 ≤ x) (h1 : x < 9223372036854775808) : wrap64 x = x := by unfold wrap64; omega
theorem bt_ba (l : List UInt8) (i : Nat) (h : i < l.length) : bt (ba l) (i : Int) = ((l[i]'h).toNat : Int) := by
  unfold bt
  have h2 : (i : Int).toNat < (ba l).size := by rw [ba_size]; simpa using h
  rw [dif_pos h2]
  have : (ba l)[(i : Int).toNat]'h2 = l[i]'h := by
    show (ba l).data[(i : Int).toNat]'h2 = _
    simp [ba]
  rw [this]
end Go.Proofs.YtcgpaopbcclbiaaDoor.Pu
end
section
/- What the printed reference to label tells: its runes are the decoder's own. -/



namespace Go.Proofs.YtcgpaopbcclbiaaDoor.Pu
open Go Go.Lib Go.RowKit Go.Proofs.YtcgpaopbcclbiaaDoor.Pl Go.Proofs.YtcgpaopbcclbiaaDoor.Lf Go.Proofs.YtcgpaopbcclbiaaDoor.Fn Go.Proofs.YtcgpaopbcclbiaaDoorW.PrintWords
theorem bt_all (l : List UInt8) (i : Nat) : bt (ba l) (i : Int) = ((l.getD i 0).toNat : Int) := by
  by_cases h : i < l.length
  · rw [bt_ba l i h, List.getD_eq_getElem?_getD, List.getElem?_eq_getElem h]; rfl
  · unfold bt
    rw [dif_neg (by rw [ba_size]; simpa using h), List.getD_eq_getElem?_getD, List.getElem?_eq_none (by omega)]
    rfl
theorem more_eq (l : List UInt8) (i : Nat) : rootcellarref1_more.f (ba l) (i : Int) = some (decide (i < l.length ∧ 128 ≤ (l.getD i 0).toNat ∧ (l.getD i 0).toNat ≤ 191)) := by
  unfold rootcellarref1_more.f
  rw [ba_size, bt_all]
  generalize (l.getD i 0).toNat = b
  by_cases h1 : i < l.length
  · rw [if_pos (by omega), if_pos (by omega)]
    by_cases h2 : 128 ≤ b
    · rw [if_pos (by omega)]
      by_cases h3 : b ≤ 191
      · rw [decide_eq_true (by omega), decide_eq_true ⟨h1, h2, h3⟩]
      · rw [decide_eq_false (by omega), decide_eq_false (by omega)]
    · rw [if_neg (by omega), decide_eq_false (by omega)]
  · rw [if_neg (by omega), decide_eq_false (by omega)]
def refN (n b0 b1 b2 b3 : Nat) : Int × Int :=
  if b0 < 128 then ((b0 : Int), 1)
  else if (194 ≤ b0 ∧ b0 ≤ 223) ∧ (1 < n ∧ 128 ≤ b1 ∧ b1 ≤ 191) then (((b0 : Int) - 192) * 64 + b1 - 128, 2)
  else if (224 ≤ b0 ∧ b0 ≤ 239) ∧ (1 < n ∧ 128 ≤ b1 ∧ b1 ≤ 191) ∧ (2 < n ∧ 128 ≤ b2 ∧ b2 ≤ 191) ∧ (2048 ≤ ((b0 : Int) - 224) * 4096 + ((b1 : Int) - 128) * 64 + b2 - 128 ∧ ¬ (55296 ≤ ((b0 : Int) - 224) * 4096 + ((b1 : Int) - 128) * 64 + b2 - 128 ∧ ((b0 : Int) - 224) * 4096 + ((b1 : Int) - 128) * 64 + b2 - 128 ≤ 57343)) then (((b0 : Int) - 224) * 4096 + ((b1 : Int) - 128) * 64 + b2 - 128, 3)
  else if (240 ≤ b0 ∧ b0 ≤ 244) ∧ (1 < n ∧ 128 ≤ b1 ∧ b1 ≤ 191) ∧ (2 < n ∧ 128 ≤ b2 ∧ b2 ≤ 191) ∧ (3 < n ∧ 128 ≤ b3 ∧ b3 ≤ 191) ∧ (65536 ≤ ((b0 : Int) - 240) * 262144 + ((b1 : Int) - 128) * 4096 + ((b2 : Int) - 128) * 64 + b3 - 128 ∧ ((b0 : Int) - 240) * 262144 + ((b1 : Int) - 128) * 4096 + ((b2 : Int) - 128) * 64 + b3 - 128 ≤ 1114111) then (((b0 : Int) - 240) * 262144 + ((b1 : Int) - 128) * 4096 + ((b2 : Int) - 128) * 64 + b3 - 128, 4)
  else (-1, 1)
theorem refN_eq (n b0 b1 b2 b3 : Nat) (h0 : b0 < 256) (h1 : b1 < 256) (h2 : b2 < 256) (h3 : b3 < 256) :
    refN n b0 b1 b2 b3 = if (decodeN n b0 b1 b2 b3).1 = 65533 ∧ (decodeN n b0 b1 b2 b3).2 = 1 then ((-1 : Int), (1 : Int)) else (((decodeN n b0 b1 b2 b3).1 : Int), ((decodeN n b0 b1 b2 b3).2 : Int)) := by
  unfold refN decodeN
  repeat' split
  all_goals first | rfl | (exfalso; omega) | (apply Prod.ext <;> simp only <;> omega) | skip
theorem wb (b : Nat) (h : b < 256) : wrap64 (b : Int) = b := by unfold wrap64; omega
theorem wa2 (b0 b1 : Nat) (h0 : b0 < 256) (h1 : b1 < 256) : wrap64 (wrap64 (wrap64 (wrap64 ((b0 : Int) - 192) * 64) + b1) - 128) = ((b0 : Int) - 192) * 64 + b1 - 128 := by unfold wrap64; omega
theorem wa3 (b0 b1 b2 : Nat) (h0 : b0 < 256) (h1 : b1 < 256) (h2 : b2 < 256) : wrap64 (wrap64 (wrap64 (wrap64 (wrap64 ((b0 : Int) - 224) * 4096) + wrap64 (wrap64 ((b1 : Int) - 128) * 64)) + b2) - 128) = ((b0 : Int) - 224) * 4096 + ((b1 : Int) - 128) * 64 + b2 - 128 := by unfold wrap64; omega
theorem wa4 (b0 b1 b2 b3 : Nat) (h0 : b0 < 256) (h1 : b1 < 256) (h2 : b2 < 256) (h3 : b3 < 256) : wrap64 (wrap64 (wrap64 (wrap64 (wrap64 (wrap64 ((b0 : Int) - 240) * 262144) + wrap64 (wrap64 ((b1 : Int) - 128) * 4096)) + wrap64 (wrap64 ((b2 : Int) - 128) * 64)) + b3) - 128) = ((b0 : Int) - 240) * 262144 + ((b1 : Int) - 128) * 4096 + ((b2 : Int) - 128) * 64 + b3 - 128 := by unfold wrap64; omega
def c3 (b0 b1 b2 : Nat) : Int := ((b0 : Int) - 224) * 4096 + ((b1 : Int) - 128) * 64 + b2 - 128
def c4 (b0 b1 b2 b3 : Nat) : Int := ((b0 : Int) - 240) * 262144 + ((b1 : Int) - 128) * 4096 + ((b2 : Int) - 128) * 64 + b3 - 128
section
variable (s : ByteArray) (n b0 b1 b2 b3 : Nat) (h0 : b0 < 256) (h1 : b1 < 256) (h2 : b2 < 256) (h3 : b3 < 256) (S : (s.size : Int) = n)
    (B0 : bt s 0 = b0) (B1 : bt s 1 = b1) (B2 : bt s 2 = b2) (B3 : bt s 3 = b3)
include h0 h1 h2 h3 S B1 B2 B3
theorem rj3 (k : Nat) (q : Bool) (hq : q = true → 3 < n) : rootcellarref1_Rune.j3 (k + 1) s b0 q = some (if q = true ∧ (65536 ≤ c4 b0 b1 b2 b3 ∧ c4 b0 b1 b2 b3 ≤ 1114111) then (c4 b0 b1 b2 b3, 4) else (-1, 1)) := by
  cases q
  · rfl
  · have hn := hq rfl
    have g1 : (1 : Int) < n := by omega
    have g2 : (2 : Int) < n := by omega
    have g3 : (3 : Int) < n := by omega
    simp only [rootcellarref1_Rune.j3, S, if_pos g1, if_pos g2, if_pos g3, if_true, B1, B2, B3, wb b1 h1, wb b2 h2, wb b3 h3, wa4 b0 b1 b2 b3 h0 h1 h2 h3]
    show (if c4 b0 b1 b2 b3 ≥ 65536 then _ else _) = _
    by_cases x : c4 b0 b1 b2 b3 ≥ 65536
    · rw [if_pos x]
      by_cases y : c4 b0 b1 b2 b3 ≤ 1114111
      · rw [if_pos (show ((b0 : Int) - 240) * 262144 + ((b1 : Int) - 128) * 4096 + ((b2 : Int) - 128) * 64 + b3 - 128 ≤ 1114111 from y), if_pos ⟨trivial, x, y⟩]; rfl
      · rw [if_neg (show ¬ ((b0 : Int) - 240) * 262144 + ((b1 : Int) - 128) * 4096 + ((b2 : Int) - 128) * 64 + b3 - 128 ≤ 1114111 from y), if_neg (fun h => y h.2.2)]
    · rw [if_neg x, if_neg (fun h => x h.2.1)]
variable (m1 m2 m3 : Bool) (M1 : rootcellarref1_more.f s 1 = some m1) (M2 : rootcellarref1_more.f s 2 = some m2) (M3 : rootcellarref1_more.f s 3 = some m3) (q1 : m1 = true → 1 < n) (q2 : m2 = true → 2 < n) (q3 : m3 = true → 3 < n)
include M1 M2 M3 q3
theorem rj2 (k : Nat) : rootcellarref1_Rune.j2 (k + 2) s b0 = some (if (240 ≤ b0 ∧ b0 ≤ 244) ∧ m1 = true ∧ m2 = true ∧ m3 = true ∧ (65536 ≤ c4 b0 b1 b2 b3 ∧ c4 b0 b1 b2 b3 ≤ 1114111) then (c4 b0 b1 b2 b3, 4) else (-1, 1)) := by
  have J := fun q hq => rj3 s n b0 b1 b2 b3 h0 h1 h2 h3 S B1 B2 B3 k q hq
  have Jf := J false (fun h => by cases h)
  have J3 := J m3 q3
  rw [if_neg (by simp)] at Jf
  simp only [rootcellarref1_Rune.j2, M1, M2, M3, Option.bind_some]
  by_cases x : 240 ≤ b0
  · rw [if_pos (show (b0 : Int) ≥ 240 by omega)]
    by_cases y : b0 ≤ 244
    · rw [if_pos (show (b0 : Int) ≤ 244 by omega)]
      cases m1
      · rw [if_neg (by decide), Jf, if_neg (by simp)]
      · cases m2
        · rw [if_pos rfl, if_neg (by decide), Jf, if_neg (by simp)]
        · rw [if_pos rfl, if_pos rfl, J3]
          congr 1
          by_cases z : m3 = true ∧ (65536 ≤ c4 b0 b1 b2 b3 ∧ c4 b0 b1 b2 b3 ≤ 1114111)
          · rw [if_pos z, if_pos ⟨⟨x, y⟩, rfl, rfl, z⟩]
          · rw [if_neg z, if_neg (fun h => z h.2.2.2)]
    · rw [if_neg (show ¬ (b0 : Int) ≤ 244 by omega), Jf, if_neg (fun h => y h.1.2)]
  · rw [if_neg (show ¬ (b0 : Int) ≥ 240 by omega), Jf, if_neg (fun h => x h.1.1)]
include q2
theorem rj1 (k : Nat) (q : Bool) (hq : q = true → m2 = true) : rootcellarref1_Rune.j1 (k + 3) s b0 q = some (if q = true ∧ (2048 ≤ c3 b0 b1 b2 ∧ ¬ (55296 ≤ c3 b0 b1 b2 ∧ c3 b0 b1 b2 ≤ 57343)) then (c3 b0 b1 b2, 3) else if (240 ≤ b0 ∧ b0 ≤ 244) ∧ m1 = true ∧ m2 = true ∧ m3 = true ∧ (65536 ≤ c4 b0 b1 b2 b3 ∧ c4 b0 b1 b2 b3 ≤ 1114111) then (c4 b0 b1 b2 b3, 4) else (-1, 1)) := by
  have J2 := rj2 s n b0 b1 b2 b3 h0 h1 h2 h3 S B1 B2 B3 m1 m2 m3 M1 M2 M3 q3 k
  cases q
  · rw [if_neg (by simp), ← J2]
    simp only [rootcellarref1_Rune.j1]
    rw [if_neg (by decide)]
  · have hn := q2 (hq rfl)
    have g1 : (1 : Int) < n := by omega
    have g2 : (2 : Int) < n := by omega
    simp only [rootcellarref1_Rune.j1, S, if_pos g1, if_pos g2, if_true, B1, B2, wb b1 h1, wb b2 h2, wa3 b0 b1 b2 h0 h1 h2]
    show (if c3 b0 b1 b2 ≥ 2048 then (if c3 b0 b1 b2 ≥ 55296 then (if c3 b0 b1 b2 ≤ 57343 then _ else some (c3 b0 b1 b2, 3)) else some (c3 b0 b1 b2, 3)) else _) = _
    by_cases x : c3 b0 b1 b2 ≥ 2048
    · rw [if_pos x]
      by_cases y : c3 b0 b1 b2 ≥ 55296
      · rw [if_pos y]
        by_cases z : c3 b0 b1 b2 ≤ 57343
        · rw [if_pos z, if_neg (fun h => h.2.2 ⟨y, z⟩)]; exact J2
        · rw [if_neg z, if_pos ⟨trivial, x, fun h => z h.2⟩]
      · rw [if_neg y, if_pos ⟨trivial, x, fun h => y h.1⟩]
    · rw [if_neg x, if_neg (fun h => x h.2.1)]; exact J2
include q1
theorem rj0 (k : Nat) (q : Bool) (hq : q = true → m1 = true) : rootcellarref1_Rune.j0 (k + 4) s b0 q = some (if q = true then (((b0 : Int) - 192) * 64 + b1 - 128, 2) else if ((224 ≤ b0 ∧ b0 ≤ 239) ∧ m1 = true ∧ m2 = true) ∧ (2048 ≤ c3 b0 b1 b2 ∧ ¬ (55296 ≤ c3 b0 b1 b2 ∧ c3 b0 b1 b2 ≤ 57343)) then (c3 b0 b1 b2, 3) else if (240 ≤ b0 ∧ b0 ≤ 244) ∧ m1 = true ∧ m2 = true ∧ m3 = true ∧ (65536 ≤ c4 b0 b1 b2 b3 ∧ c4 b0 b1 b2 b3 ≤ 1114111) then (c4 b0 b1 b2 b3, 4) else (-1, 1)) := by
  have J := fun q hq => rj1 s n b0 b1 b2 b3 h0 h1 h2 h3 S B1 B2 B3 m1 m2 m3 M1 M2 M3 q2 q3 k q hq
  revert J
  generalize (if (240 ≤ b0 ∧ b0 ≤ 244) ∧ m1 = true ∧ m2 = true ∧ m3 = true ∧ (65536 ≤ c4 b0 b1 b2 b3 ∧ c4 b0 b1 b2 b3 ≤ 1114111) then (c4 b0 b1 b2 b3, 4) else ((-1 : Int), (1 : Int))) = E
  intro J
  have Jf := J false (fun h => by cases h)
  rw [if_neg (by simp)] at Jf
  have J2 := J m2 (fun h => h)
  cases q
  · rw [if_neg (by decide)]
    simp only [rootcellarref1_Rune.j0, M1, M2, Option.bind_some]
    rw [if_neg (by decide)]
    by_cases x : 224 ≤ b0
    · rw [if_pos (show (b0 : Int) ≥ 224 by omega)]
      by_cases y : b0 ≤ 239
      · rw [if_pos (show (b0 : Int) ≤ 239 by omega)]
        cases m1
        · rw [if_neg (by decide), Jf, if_neg (by simp)]
        · rw [if_pos rfl, J2]
          congr 1
          by_cases z : m2 = true ∧ (2048 ≤ c3 b0 b1 b2 ∧ ¬ (55296 ≤ c3 b0 b1 b2 ∧ c3 b0 b1 b2 ≤ 57343))
          · rw [if_pos z, if_pos ⟨⟨⟨x, y⟩, rfl, z.1⟩, z.2⟩]
          · rw [if_neg z, if_neg (fun h => z ⟨h.1.2.2, h.2⟩)]
      · rw [if_neg (show ¬ (b0 : Int) ≤ 239 by omega), Jf, if_neg (fun h => y h.1.1.2)]
    · rw [if_neg (show ¬ (b0 : Int) ≥ 224 by omega), Jf, if_neg (fun h => x h.1.1.1)]
  · have hn := q1 (hq rfl)
    have g1 : (1 : Int) < n := by omega
    simp only [rootcellarref1_Rune.j0, S, if_pos g1, if_true, B1, wb b1 h1, wa2 b0 b1 h0 h1]
include B0
theorem rune_N (hn : 1 ≤ n) (k : Nat) : rootcellarref1_Rune.f (k + 4) s = some (if b0 < 128 then ((b0 : Int), 1) else if (194 ≤ b0 ∧ b0 ≤ 223) ∧ m1 = true then (((b0 : Int) - 192) * 64 + b1 - 128, 2) else if ((224 ≤ b0 ∧ b0 ≤ 239) ∧ m1 = true ∧ m2 = true) ∧ (2048 ≤ c3 b0 b1 b2 ∧ ¬ (55296 ≤ c3 b0 b1 b2 ∧ c3 b0 b1 b2 ≤ 57343)) then (c3 b0 b1 b2, 3) else if (240 ≤ b0 ∧ b0 ≤ 244) ∧ m1 = true ∧ m2 = true ∧ m3 = true ∧ (65536 ≤ c4 b0 b1 b2 b3 ∧ c4 b0 b1 b2 b3 ≤ 1114111) then (c4 b0 b1 b2 b3, 4) else (-1, 1)) := by
  have J := fun q hq => rj0 s n b0 b1 b2 b3 h0 h1 h2 h3 S B1 B2 B3 m1 m2 m3 M1 M2 M3 q1 q2 q3 k q hq
  revert J
  generalize (if ((224 ≤ b0 ∧ b0 ≤ 239) ∧ m1 = true ∧ m2 = true) ∧ (2048 ≤ c3 b0 b1 b2 ∧ ¬ (55296 ≤ c3 b0 b1 b2 ∧ c3 b0 b1 b2 ≤ 57343)) then (c3 b0 b1 b2, (3 : Int)) else (if (240 ≤ b0 ∧ b0 ≤ 244) ∧ m1 = true ∧ m2 = true ∧ m3 = true ∧ (65536 ≤ c4 b0 b1 b2 b3 ∧ c4 b0 b1 b2 b3 ≤ 1114111) then (c4 b0 b1 b2 b3, 4) else ((-1 : Int), (1 : Int)))) = E
  intro J
  have Jf := J false (fun h => by cases h)
  rw [if_neg (by simp)] at Jf
  have J1 := J m1 (fun h => h)
  have g0 : (0 : Int) < n := by omega
  simp only [rootcellarref1_Rune.f, S, if_pos g0, B0, wb b0 h0, M1, Option.bind_some]
  by_cases w : b0 < 128
  · rw [if_pos (show (b0 : Int) < 128 by omega), if_pos w]
  · rw [if_neg (show ¬ (b0 : Int) < 128 by omega), if_neg w]
    by_cases x : 194 ≤ b0
    · rw [if_pos (show (b0 : Int) ≥ 194 by omega)]
      by_cases y : b0 ≤ 223
      · rw [if_pos (show (b0 : Int) ≤ 223 by omega), J1]
        congr 1
        by_cases z : m1 = true
        · rw [if_pos z, if_pos ⟨⟨x, y⟩, z⟩]
        · rw [if_neg z, if_neg (fun h => z h.2)]
      · rw [if_neg (show ¬ (b0 : Int) ≤ 223 by omega), Jf, if_neg (fun h => y h.1.2)]
    · rw [if_neg (show ¬ (b0 : Int) ≥ 194 by omega), Jf, if_neg (fun h => x h.1.1)]
end
/-- The rune in front, as the reference tells it. -/
def rr (l : List UInt8) : Int × Int := if (decodeL l).1 = 65533 ∧ (decodeL l).2 = 1 then (-1, 1) else (((decodeL l).1 : Int), ((decodeL l).2 : Int))
theorem rune_eq (l : List UInt8) (hl : l ≠ []) (k : Nat) : rootcellarref1_Rune.f (k + 4) (ba l) = some (rr l) := by
  have hn : 1 ≤ l.length := List.length_pos_iff.2 hl
  have e := refN_eq l.length _ _ _ _ (l.getD 0 0).toNat_lt (l.getD 1 0).toNat_lt (l.getD 2 0).toNat_lt (l.getD 3 0).toNat_lt
  rw [← decodeL_N] at e
  unfold rr
  rw [← e, rune_N (ba l) l.length _ _ _ _ (l.getD 0 0).toNat_lt (l.getD 1 0).toNat_lt (l.getD 2 0).toNat_lt (l.getD 3 0).toNat_lt (by rw [ba_size]) (bt_all l 0) (bt_all l 1) (bt_all l 2) (bt_all l 3) _ _ _ (more_eq l 1) (more_eq l 2) (more_eq l 3)
    (fun h => (of_decide_eq_true h).1) (fun h => (of_decide_eq_true h).1) (fun h => (of_decide_eq_true h).1) hn k]
  unfold refN c3 c4
  simp only [decide_eq_true_eq, and_assoc]
theorem ev_rune (l : List UInt8) (hl : l ≠ []) : Ev (fun k => rootcellarref1_Rune.f k (ba l)) (rr l) :=
  ⟨4, fun k hk => by obtain ⟨k, rfl⟩ : ∃ m, k = m + 4 := ⟨k - 4, by omega⟩; exact rune_eq l hl k⟩
theorem rr_width (l : List UInt8) (_hl : l ≠ []) : (rr l).2 = (((decodeL l).2 : Nat) : Int) := by
  unfold rr
  by_cases h : (decodeL l).1 = 65533 ∧ (decodeL l).2 = 1
  · rw [if_pos h, h.2]; rfl
  · rw [if_neg h]
theorem rr_bad (l : List UInt8) : ((rr l).1 < 0) = ((decodeL l).1 = 65533 ∧ (decodeL l).2 = 1) := by
  unfold rr
  by_cases h : (decodeL l).1 = 65533 ∧ (decodeL l).2 = 1
  · rw [if_pos h]; simp [h]
  · rw [if_neg h]; simp [h]
theorem shape (l : List UInt8) (hl : l ≠ []) (hv : ¬ ((decodeL l).1 = 65533 ∧ (decodeL l).2 = 1)) :
    (∃ (b : UInt8) (r : List UInt8), l = b :: r ∧ b.toNat < 128 ∧ decodeL l = (b.toNat, 1)) ∨ ((∀ b ∈ l.take (decodeL l).2, 128 ≤ b.toNat) ∧ 128 ≤ (decodeL l).1) := by
  have h0 := (l.getD 0 0).toNat_lt
  have h1 := (l.getD 1 0).toNat_lt
  have h2 := (l.getD 2 0).toNat_lt
  have h3 := (l.getD 3 0).toNat_lt
  have hlen : 0 < l.length := List.length_pos_iff.2 hl
  rw [decodeL_N] at hv ⊢
  have at_ : ∀ i, i < l.length → l[i]? = some (l.getD i 0) := fun i hi => by
    rw [List.getD_eq_getElem?_getD, List.getElem?_eq_getElem hi]; rfl
  have tk : ∀ w, w ≤ 4 → (∀ i, i < w → 128 ≤ (l.getD i 0).toNat) → ∀ b ∈ l.take w, 128 ≤ b.toNat := by
    intro w _ hw b hb
    obtain ⟨i, hi, e⟩ := List.mem_take_iff_getElem.1 hb
    have hi1 : i < w := by omega
    have := hw i hi1
    rw [List.getD_eq_getElem?_getD, List.getElem?_eq_getElem (by omega)] at this
    rw [← e]
    exact this
  rcases decodeN_shape l.length (l.getD 0 0).toNat (l.getD 1 0).toNat (l.getD 2 0).toNat (l.getD 3 0).toNat with ⟨c, e⟩ | ⟨c1, c2, c3, cv, e⟩ | ⟨c1, c2, c3, c4, cv, cs, e⟩ | ⟨c1, c2, c3, c4, c5, cv, cw, e⟩ | e
  · left
    cases l with
    | nil => exact absurd rfl hl
    | cons b r => exact ⟨b, r, rfl, c, e⟩
  · right
    rw [e]
    refine ⟨tk 2 (by omega) (fun i hi => ?_), cv⟩
    have : i = 0 ∨ i = 1 := by omega
    rcases this with rfl | rfl <;> omega
  · right
    rw [e]
    refine ⟨tk 3 (by omega) (fun i hi => ?_), by simp only; omega⟩
    have : i = 0 ∨ i = 1 ∨ i = 2 := by omega
    rcases this with rfl | rfl | rfl <;> omega
  · right
    rw [e]
    refine ⟨tk 4 (by omega) (fun i hi => ?_), by simp only; omega⟩
    have : i = 0 ∨ i = 1 ∨ i = 2 ∨ i = 3 := by omega
    rcases this with rfl | rfl | rfl | rfl <;> omega
  · exact absurd (by rw [e]; exact ⟨rfl, rfl⟩) hv
theorem right_eq (l : List UInt8) (h : l.length ≤ 1000000000) : label_Right.f (ba l) = some (rightB l) := by
  unfold label_Right.f
  rw [ba_size, if_pos (by omega), ba_list]
end Go.Proofs.YtcgpaopbcclbiaaDoor.Pu
end
section
/- LabelRunes, LabelCuts, LabelFirst, LabelNames, LabelJoins, LabelPlain, in plain words: true of every input. -/



namespace Go.Proofs.YtcgpaopbcclbiaaDoor.Pu
open Go Go.Lib Go.RowKit Go.Proofs.YtcgpaopbcclbiaaDoor.Pl Go.Proofs.YtcgpaopbcclbiaaDoor.Lf Go.Proofs.YtcgpaopbcclbiaaDoor.Fn Go.Proofs.YtcgpaopbcclbiaaDoorW.PrintWords
theorem ev_pos {α : Type} {c : Prop} [Decidable c] {A B : Nat → Option α} {r : α} (h : c) (e : Ev A r) : Ev (fun k => if c then A k else B k) r := Ev.congr (fun _ => if_pos h) e
theorem ev_neg {α : Type} {c : Prop} [Decidable c] {A B : Nat → Option α} {r : α} (h : ¬ c) (e : Ev B r) : Ev (fun k => if c then A k else B k) r := Ev.congr (fun _ => if_neg h) e
theorem count_eq (l : List UInt8) (h : l.length ≤ 1000000000) : label_Count.f (ba l) = some (((runes l).length : Nat) : Int) := by
  unfold label_Count.f
  rw [ba_size, if_pos (by omega), ba_list]
theorem valid_eq (l : List UInt8) (h : l.length ≤ 1000000000) : label_Valid.f (ba l) = some (validD l) := by
  unfold label_Valid.f
  rw [ba_size, if_pos (by omega), ba_list]
theorem first_eq (l : List UInt8) (n : Int) (h : l.length ≤ 1000000000) (hn : -9223372036854775808 ≤ n ∧ n ≤ 9223372036854775807) : label_First.f (ba l) n = some (ba (firstL l n)) := by
  unfold label_First.f
  rw [ba_size, if_pos ⟨by omega, hn⟩, ba_list]; rfl
theorem quote_eq (l : List UInt8) (h : l.length ≤ 1000000000) : label_Quote.f (ba l) = some (ba (quoteL l)) := by
  unfold label_Quote.f
  rw [ba_size, if_pos (by omega), ba_list]; rfl
theorem hex2 (n : Nat) (h : 16 ≤ n) (h2 : n < 256) : hexL n = [hd (n / 16), hd (n % 16)] := by
  rw [hexL_ge (by omega), hexL_lt (by omega)]; rfl
theorem piece_plain (l : List UInt8) (c : UInt8) (r : List UInt8) (e : l = c :: r) (h : 33 ≤ c.toNat ∧ c.toNat ≤ 126 ∧ c.toNat ≠ 92) : piece l = [c] := by
  subst e
  have hd := dec_plain c r (by omega)
  unfold piece
  rw [hd, if_neg (by simp only; omega), if_neg (by simp only; omega), if_pos (by simp only; omega)]
  unfold encodeRune
  rw [encodeRuneZ_one (by omega) (by omega)]
  simp
theorem piece_hex (l : List UInt8) (r k : Nat) (hd : decodeL l = (r, k)) (h1 : ¬ (r = 65533 ∧ k = 1)) (h2 : r ≠ 92) (h3 : ¬ (32 < r ∧ r < 127)) : piece l = [92, 123] ++ hexL r ++ [125] := by
  unfold piece
  rw [hd, if_neg h1, if_neg h2, if_neg h3]
theorem quote_shown : quoteL [97, 32, 195, 169, 92] = [97, 92, 123, 50, 48, 125, 92, 123, 101, 57, 125, 92, 92] := by
  unfold quoteL
  rw [if_neg (by simp)]
  have d1 : decodeL [97, 32, 195, 169, 92] = (97, 1) := by decide +kernel
  have d2 : decodeL [32, 195, 169, 92] = (32, 1) := by decide +kernel
  have d3 : decodeL [195, 169, 92] = (233, 2) := by decide +kernel
  have d4 : decodeL [92] = (92, 1) := by decide +kernel
  have p4 : piece [92] = [92, 92] := by unfold piece; rw [d4, if_neg (by simp), if_pos rfl]
  rw [quoteR_cons _ (by simp), d1, piece_plain _ 97 _ rfl (by decide)]
  simp only [List.drop_succ_cons, List.drop_zero]
  rw [quoteR_cons _ (by simp), d2, piece_hex _ 32 1 d2 (by simp) (by simp) (by simp), hex2 32 (by omega) (by omega)]
  simp only [List.drop_succ_cons, List.drop_zero]
  rw [quoteR_cons _ (by simp), d3, piece_hex _ 233 2 d3 (by simp) (by simp) (by simp), hex2 233 (by omega) (by omega)]
  simp only [List.drop_succ_cons, List.drop_zero]
  rw [quoteR_cons _ (by simp), d4, p4]
  simp only [List.drop_succ_cons, List.drop_zero, quoteR_nil]
  decide +kernel
theorem quote_shown2 : quoteL [255] = [92, 33, 102, 102] := by
  unfold quoteL
  rw [if_neg (by simp)]
  have d1 : decodeL [255] = (65533, 1) := by decide +kernel
  have p1 : piece [255] = [92, 33] ++ hexL 255 := by unfold piece; rw [d1, if_pos (by simp)]; rfl
  rw [quoteR_cons _ (by simp), d1, p1, hex2 255 (by omega) (by omega)]
  simp only [List.drop_succ_cons, List.drop_zero, quoteR_nil]
  decide +kernel
theorem shown1 : rootcellarlaw1_shown.f = some true := by
  unfold rootcellarlaw1_shown.f
  have c1 : label_Count.f (⟨#[97, 195, 169]⟩ : ByteArray) = some 2 := by
    rw [show (⟨#[97, 195, 169]⟩ : ByteArray) = ba [97, 195, 169] from rfl, count_eq _ (by simp), show (runes [97, 195, 169]).length = 2 from by decide +kernel]; rfl
  have c2 : label_First.f (⟨#[195, 169, 97]⟩ : ByteArray) 1 = some (ba [195, 169]) := by
    rw [show (⟨#[195, 169, 97]⟩ : ByteArray) = ba [195, 169, 97] from rfl, first_eq _ _ (by simp) (by omega), show firstL [195, 169, 97] 1 = [195, 169] from by decide +kernel]
  have c3 : label_Quote.f (⟨#[97, 32, 195, 169, 92]⟩ : ByteArray) = some (ba [97, 92, 123, 50, 48, 125, 92, 123, 101, 57, 125, 92, 92]) := by
    rw [show (⟨#[97, 32, 195, 169, 92]⟩ : ByteArray) = ba [97, 32, 195, 169, 92] from rfl, quote_eq _ (by simp), quote_shown]
  have c4 : label_Quote.f (⟨#[255]⟩ : ByteArray) = some (ba [92, 33, 102, 102]) := by
    rw [show (⟨#[255]⟩ : ByteArray) = ba [255] from rfl, quote_eq _ (by simp), quote_shown2]
  have c5 : label_Right.f (⟨#[98, 101, 102, 111, 114, 101, 32, 108, 117, 110, 99, 104]⟩ : ByteArray) = some true := by
    rw [show (⟨#[98, 101, 102, 111, 114, 101, 32, 108, 117, 110, 99, 104]⟩ : ByteArray) = ba [98, 101, 102, 111, 114, 101, 32, 108, 117, 110, 99, 104] from rfl, right_eq _ (by simp)]
    congr 1
  have c6 : label_Right.f (⟨#[32, 120]⟩ : ByteArray) = some false := by
    rw [show (⟨#[32, 120]⟩ : ByteArray) = ba [32, 120] from rfl, right_eq _ (by simp)]
    congr 1
  rw [c1, c2, c3, c4, c5, c6]
  simp only [Option.bind_some, ba_toList]
  rfl
end Go.Proofs.YtcgpaopbcclbiaaDoor.Pu
end
section
/- LabelBack, in plain words: true of every input. -/



namespace Go.Proofs.YtcgpaopbcclbiaaDoor.Pu
open Go Go.Lib Go.RowKit Go.Proofs.YtcgpaopbcclbiaaDoor.Pl Go.Proofs.YtcgpaopbcclbiaaDoor.Lf Go.Proofs.YtcgpaopbcclbiaaDoor.Fn Go.Proofs.YtcgpaopbcclbiaaDoorW.PrintWords
theorem unq_f (l : List UInt8) (h : l.length ≤ 1000000000) : label_Unquote.f (ba l) = some (ba (unqV l).1, (unqV l).2) := by
  unfold label_Unquote.f
  rw [ba_size, if_pos (by omega), ba_list]
theorem back_l0 (k : Nat) (x0 x1 x6 : ByteArray) (x7 : Int) : rootcellarlaw1_LabelBack.l0 (k + 1) x0 x1 x6 x7 = if x7 < (x6.size : Int) then (if 0 ≤ x7 then (if (bt x6 x7) < 33 then (some false) else (if (bt x6 x7) > 126 then (some false) else (rootcellarlaw1_LabelBack.l0 k x0 x1 x6 (wrap64 (x7 + 1))))) else (none)) else ((label_Unquote.f x6).bind fun bt164 => (if bt164.1.toList = x0.toList then (if bt164.2 = 0 then (if x6.toList = ([] : List UInt8) then (some false) else ((label_Quote.f x1).bind fun t166 => (some ((x6.toList == t166.toList) == (x0.toList == x1.toList))))) else (some false)) else (some false))) := rfl
theorem quoteL_len (l : List UInt8) : (quoteL l).length ≤ 12 * l.length + 2 := by
  unfold quoteL
  by_cases e : l = []
  · rw [if_pos e]; simp
  · rw [if_neg e]
    have := quoteR_len l
    omega
theorem back_l (s t : List UInt8) (hs : s.length ≤ 500) (ht : t.length ≤ 500) : ∀ (j i : Nat), i + j = (quoteL s).length → Ev (fun k => rootcellarlaw1_LabelBack.l0 k (ba s) (ba t) (ba (quoteL s)) (i : Int)) true := by
  have hq := quoteL_len s
  intro j
  induction j with
  | zero =>
    intro i hi
    refine Ev.step (f := fun _ => some true) (fun k => ?_) (Ev.now _)
    rw [back_l0, ba_size, if_neg (by omega), unq_f _ (by omega), unqV_quote]
    simp only [Option.bind_some]
    rw [if_pos trivial, if_pos trivial, ba_toList, if_neg (quoteL_ne s), quote_eq t (by omega)]
    simp only [Option.bind_some, ba_toList]
    congr 1
    by_cases e : s = t
    · subst e; simp
    · have e2 : quoteL s ≠ quoteL t := fun h => e (quote_inj h)
      have h1 : (quoteL s == quoteL t) = false := by simpa using e2
      have h2 : (s == t) = false := by simpa using e
      rw [h1, h2]
      rfl
  | succ j ih =>
    intro i hi
    have hlt : i < (quoteL s).length := by omega
    have hb := bt_ba (quoteL s) i hlt
    have hsg := quoteL_signs s _ (List.getElem_mem hlt)
    have h := ih (i + 1) (by omega)
    have f1 : (i : Int) < ((quoteL s).length : Int) := by omega
    have f2 : (0 : Int) ≤ (i : Int) := by omega
    have f3 : ¬ ((((quoteL s)[i]'hlt).toNat : Nat) : Int) < 33 := by omega
    have f4 : ¬ ((((quoteL s)[i]'hlt).toNat : Nat) : Int) > 126 := by omega
    have f5 : i < 9223372036854775807 := by omega
    have w1 : wrap64 ((i : Int) + 1) = ((i + 1 : Nat) : Int) := w64 _ (by omega) (by omega)
    refine Ev.step (fun k => ?_) h
    rw [back_l0, ba_size, if_pos f1, if_pos f2, hb, if_neg f3, if_neg f4, w1]
theorem LabelBack (a0 a1 : ByteArray) (_h0 : a0.size ≤ maxLen) (_h1 : a1.size ≤ maxLen) : ∃ k, rootcellarlaw1_LabelBack.f k a0 a1 = some true := by
  apply Ev.rounds
  obtain ⟨s, rfl⟩ := ex_ba a0
  obtain ⟨t, rfl⟩ := ex_ba a1
  have out : Ev (fun k => rootcellarlaw1_LabelBack.j0 k (ba s) (ba t) true true) true := Ev.step (f := fun _ => some true) (fun _ => rfl) (Ev.now _)
  refine Ev.congr (f := fun k => if ((ba s).size : Int) > 500 then (rootcellarlaw1_LabelBack.j0 k (ba s) (ba t) true true) else (rootcellarlaw1_LabelBack.j0 k (ba s) (ba t) true (decide (((ba t).size : Int) > 500)))) (fun k => by unfold rootcellarlaw1_LabelBack.f; rw [shown1]; rfl) ?_
  by_cases c1 : ((ba s).size : Int) > 500
  · exact Ev.congr (fun k => if_pos c1) out
  by_cases c2 : ((ba t).size : Int) > 500
  · exact Ev.congr (fun k => by rw [if_neg c1, decide_eq_true c2]) out
  refine Ev.congr (f := fun k => rootcellarlaw1_LabelBack.j0 k (ba s) (ba t) true false) (fun k => by rw [if_neg c1, decide_eq_false c2]) ?_
  rw [ba_size] at c1 c2
  have h := back_l s t (by omega) (by omega) (quoteL s).length 0 (by omega)
  refine Ev.step (fun k => ?_) h
  simp only [rootcellarlaw1_LabelBack.j0, Bool.false_eq_true, ite_false]
  rw [quote_eq s (by omega)]
  rfl
end Go.Proofs.YtcgpaopbcclbiaaDoor.Pu
end
section
/- What rows of this list of laid variables share: what is laid, and the witness' world. -/






















namespace Go.Proofs.YtcgpaopbcclbiaaDoor.RowB0
open Go.Shelf Go.ChangeShapes Go.WideShapes Go.ChangeAt Go.RowKit Go.Lib Go.Deep
theorem own : ownKnob Tryd.prog.godebug = none := by kernel_rfl
theorem laidOut : laidOutB Tryd.prog = true := by kernel_rfl
def litOf : DataW Unit → Value
  | .lit (.int k z) => .int k z
  | _ => .bool false
/-- The cells that an array of numbers, or of pairs of numbers, takes. -/
def cellsOf : DataW Unit → List Value
  | .agg l => l.flatMap fun | .agg m => m.map litOf | x => [litOf x]
  | x => [litOf x]
theorem tabIs_of_reads {P : Program} {W : World} {name : String} {k : IntKind} {zs : List Int} {g : Nat} {t e : TypeId} {n : Nat}
    (hg : P.globalNamed name = some g) (hty : (P.globals[g]?).map (·.type) = some t) (ht : P.underlying t = some (.array n e)) (he : P.underlying e = some (.int k)) (hce : P.cellsOf e = 1) (hct : P.cellsOf t = n)
    (h : VarReads P W name (tabData k zs)) : TabIs P W name k zs := by
  obtain ⟨g', t', cs, fuel, p, hg', ht', hvar, hd⟩ := h
  obtain rfl := Option.some.inj (hg.symm.trans hg')
  obtain rfl := Option.some.inj (hty.symm.trans ht')
  unfold TabIs
  rw [hvar, ← cells_of_tab ht he hce hct hd]
theorem accept_eq : (Rows.laid_unicode_utf8_acceptRanges : DataW Unit) = acceptData := by kernel_rfl
theorem first_eq : Rows.laid_unicode_utf8_first = firstData := by unfold Rows.laid_unicode_utf8_first; exact Pinned.utf8First_eq
def dbZ : List Int := Lib.deBruijn64tab.map fun (n : Nat) => (n : Int)
theorem db_eq : (Rows.laid_math_bits_deBruijn64tab : DataW Unit) = tabData .u8 dbZ := by kernel_rfl
theorem db_at {W : World} (h : TabIs Tryd.prog W "math/bits.deBruijn64tab" .u8 dbZ) : W.cell? ⟨7, 15, none⟩ = some (.int .u8 4) := by
  have c := h.cell (g := 7) (by kernel_rfl) 15 (by decide +kernel)
  have e : dbZ.getD 15 0 = 4 := by decide +kernel
  rw [e] at c
  exact c
abbrev laids : List (String × DataW Unit) := [("math/bits.deBruijn32tab", Rows.laid_math_bits_deBruijn32tab), ("math/bits.deBruijn64tab", Rows.laid_math_bits_deBruijn64tab), ("internal/strconv.uint64pow10", Rows.laid_internal_strconv_uint64pow10), ("unicode/utf8.acceptRanges", Rows.laid_unicode_utf8_acceptRanges), ("strconv.ErrRange", Rows.laid_strconv_ErrRange), ("strconv.ErrSyntax", Rows.laid_strconv_ErrSyntax), ("unicode/utf8.first", Rows.laid_unicode_utf8_first)]
theorem star : "*" ++ "errors.errorString" = "*errors.errorString" := by decide
theorem row_err (u : TypeId) (h : Tryd.prog.typeName? 3 u = some "*errors.errorString") : u = 96 :=
  typeName_ptr_named (nm := "errors.errorString") (by rw [star]; kernel_rfl) (by kernel_rfl) (by decide) u (by rw [star]; exact h)
theorem max_len {W : World} (h : W.ShapedOpen Tryd.prog) : ∃ m, W.cell? ⟨2, 0, none⟩ = some (.int .i64 m) :=
  cell_of_shapedOpen_int (zero := #[.int .i64 0]) (t := 3) h (of_decide_eq_true (by kernel_rfl)) (by kernel_rfl) rfl (by kernel_rfl) (by kernel_rfl) Tryd.underlying3
theorem err_at {W : World} {n : String} {g : Nat} {text : List UInt8} {r : List (String × DataW Unit)} (h : laidMet Tryd.prog ((n, .iface "*errors.errorString" (.ptr (.agg [.lit (.string text)]))) :: r) W)
    (hg : Tryd.prog.globalNamed n = some g) (ht : (Tryd.prog.globals[g]?).map (·.type) = some 38) : ∃ te pe, W.cell? ⟨g, 0, none⟩ = some (.iface te pe) := by
  obtain ⟨a, s, hv, _⟩ := laid_sentinel h hg ht Tryd.underlying38 row_err Tryd.underlying96 Tryd.underlying98 rfl rfl Tryd.underlying9 (by kernel_rfl) (by kernel_rfl)
  exact ⟨_, _, by simpa using World.var?_cell hg hv 0⟩
theorem tabs {W : World} (h : laidMetH Tryd.prog laids W) (hS : W.ShapedOpen Tryd.prog) : Lf.Tabs W := by
  have h' : laidMet Tryd.prog laids W := h
  have h1 := Lib.laidMet.reads h' (n := "unicode/utf8.acceptRanges") (.tail _ (.tail _ (.tail _ (.head _))))
  have h2 := Lib.laidMet.reads h' (n := "unicode/utf8.first") (.tail _ (.tail _ (.tail _ (.tail _ (.tail _ (.tail _ (.head _)))))))
  rw [accept_eq] at h1
  rw [first_eq] at h2
  have h3 := Lib.laidMet.reads h' (n := "math/bits.deBruijn64tab") (.tail _ (.head _))
  rw [db_eq] at h3
  have hes := err_at h'.tail.tail.tail.tail.tail (g := 3) (by kernel_rfl) (by kernel_rfl)
  have her := err_at h'.tail.tail.tail.tail (g := 4) (by kernel_rfl) (by kernel_rfl)
  exact ⟨utf8Tabs_of_readsT (U8Types.of196 Lf.laysValid) ⟨by kernel_rfl, by kernel_rfl, by kernel_rfl, by kernel_rfl, by kernel_rfl, by kernel_rfl, by kernel_rfl⟩ h2 h1, db_at (tabIs_of_reads (g := 7) (t := 101) (e := 5) (n := 64) (by kernel_rfl) (by kernel_rfl) Tryd.underlying101 Tryd.underlying5 (by kernel_rfl) (by kernel_rfl) h3), ⟨max_len hS, hes, her⟩⟩
/-- A world for the witness: the settled one, the laid variables holding what their initialisers lay. -/
noncomputable def low : Nat := (World.holding Tryd.prog default ⟨#[], #[], []⟩).heap.size
noncomputable def laidWorld (os : Os) : World :=
  let w0 := World.holding Tryd.prog os ⟨#[.cells #[.string ⟨#[118, 97, 108, 117, 101, 32, 111, 117, 116, 32, 111, 102, 32, 114, 97, 110, 103, 101]⟩] 98, .cells #[.string ⟨#[105, 110, 118, 97, 108, 105, 100, 32, 115, 121, 110, 116, 97, 120]⟩] 98], #[], []⟩
  let put (h : Array Obj) (g : Nat) (cs : Array Value) : Array Obj := h.modify g fun
    | .cells _ t frozen => .cells cs t frozen
    | o => o
  let h0 := put w0.heap 6 (cellsOf Rows.laid_math_bits_deBruijn32tab).toArray
  let h1 := put h0 7 (cellsOf Rows.laid_math_bits_deBruijn64tab).toArray
  let h2 := put h1 5 (cellsOf Rows.laid_internal_strconv_uint64pow10).toArray
  let h3 := put h2 1 (cellsOf Rows.laid_unicode_utf8_acceptRanges).toArray
  let h4 := put h3 4 #[.iface 96 (.pointer (some ⟨low + 0, 0, none⟩))]
  let h5 := put h4 3 #[.iface 96 (.pointer (some ⟨low + 1, 0, none⟩))]
  let h6 := put h5 0 (Lib.firstTab.map fun z => Value.int .u8 z).toArray
  { w0 with heap := h6 }
theorem laid_met (os : Os) (args : Array Value) : laidMet Tryd.prog laids ((laidWorld os).forCall (fun _ _ => 0) ⟨#[], args, []⟩).memory := by
  unfold laids
  rw [first_eq]
  exact laidMet_of_run' 8 (by kernel_rfl) (by kernel_rfl)
end Go.Proofs.YtcgpaopbcclbiaaDoor.RowB0
end
section
/- Arguments of the rows, opened: a number, a truth value, a text. -/














namespace Go.Proofs.YtcgpaopbcclbiaaDoor.RowN
open Go.Shelf Go.ChangeShapes Go.WideShapes Go.ChangeAt Go.RowKit Go.Lib Go.Deep
open Go.ChangeMaps (open_string shut_string)
set_option maxRecDepth 100000
section
variable {H : Type} {enc : TypeId × Value → H} {W : World} {base b0 : Nat} {sp : Nat → Bool} {held : Bool}
theorem open_num {t : TypeId} {k : IntKind} (ht : Tryd.prog.underlying t = some (.int k)) {r : Reach} {v : Value} {d : DataW H} {p : List MemPlace} (hv : Value.okWide Tryd.prog W r b0 t v)
    (h : DataW.Trod enc Tryd.prog W base sp held t v d p) : ∃ a : Int, v = .int k a ∧ (Lit.int k a).wf = true := by
  obtain ⟨a, rfl, _, _, w⟩ := open_int ht hv h
  exact ⟨a, rfl, w⟩
theorem open_truth {t : TypeId} (ht : Tryd.prog.underlying t = some .bool) {r : Reach} {v : Value} {d : DataW H} {p : List MemPlace} (hv : Value.okWide Tryd.prog W r b0 t v)
    (h : DataW.Trod enc Tryd.prog W base sp held t v d p) : ∃ a : Bool, v = .bool a := by
  obtain ⟨a, rfl, _⟩ := open_bool ht hv h
  exact ⟨a, rfl⟩
theorem open_text {t : TypeId} (ht : Tryd.prog.underlying t = some .string) {r : Reach} {v : Value} {d : DataW H} {p : List MemPlace} (hv : Value.okWide Tryd.prog W r b0 t v)
    (h : DataW.Trod enc Tryd.prog W base sp held t v d p) : ∃ s : ByteArray, v = .string s ∧ s.size ≤ maxLen := by
  obtain ⟨s, rfl, _, _, w⟩ := open_string ht hv h
  exact ⟨s, rfl, w⟩
theorem int_b {a : Int} (w : (Lit.int .i64 a).wf = true) : -9223372036854775808 ≤ a ∧ a ≤ 9223372036854775807 := bounds_i64 w
theorem u64_b {a : Int} (w : (Lit.int .u64 a).wf = true) : 0 ≤ a ∧ a < 18446744073709551616 := by have := bounds_u64 w; omega
theorem u32_b {a : Int} (w : (Lit.int .u32 a).wf = true) : 0 ≤ a ∧ a < 4294967296 := by have := bounds_u32 w; omega
theorem u8_b {a : Int} (w : (Lit.int .u8 a).wf = true) : 0 ≤ a ∧ a < 256 := by have := bounds_u8 w; omega
end
end Go.Proofs.YtcgpaopbcclbiaaDoor.RowN
end
