-- Packed by pack.py, a program of this session, out of texts of this claim.
import Derived.Test.YtcgpaopbcclbiaaDoorPlBytes
import Derived.Test.YtcgpaopbcclbiaaDoorLfRight
import Derived.Test.YtcgpaopbcclbiaaDoorClLabelQuotes1
import Derived.Test.YtcgpaopbcclbiaaDoorClLabelQuotes0
import Derived.Test.YtcgpaopbcclbiaaDoorPlRunes
import Derived.Test.YtcgpaopbcclbiaaDoorPlRunes2
import Derived.Test.YtcgpaopbcclbiaaDoorPlUnq
import Derived.Test.YtcgpaopbcclbiaaDoorClLabelQuotes2
import Derived.Test.YtcgpaopbcclbiaaDoorRows
import Derived.Test.YtcgpaopbcclbiaaDoorLfQuote
import Derived.Test.YtcgpaopbcclbiaaDoorLfUnq
import Derived.Lib.LaidU8T
import Derived.Lib.LaidTab
import Derived.Lib.LaidU8
import Derived.PinnedBridge
import Derived.WalkKit
import Derived.ProofKit
import Derived.OpenShut
import Derived.ChangeOld
import Derived.Below
import Derived.SizedLaws
import Derived.Carry
import Derived.Deep.DeepHandedRow
import Derived.Deep.DeepWitnessRowRef
import Derived.Deep.Fields
import Derived.Deep.DeepLaidRun
import Derived.Lib.TrailingZeros
import Derived.Stop.LaidErr
import Derived.Shelf.Vars
import Derived.ChangeShapes
import Derived.Lib.SmallJoins
section
/- Small words: a byte of a text, a sum that does not overflow. -/





namespace Go.Proofs.YtcgpaopbcclbiaaDoor.Pu
open Go Go.RowKit Go.Proofs.YtcgpaopbcclbiaaDoor.Pl Go.Proofs.YtcgpaopbcclbiaaDoorW.PrintWords
theorem w64 (x : Int) (h0 : -9223372036854775808 ≤ x) (h1 : x < 9223372036854775808) : wrap64 x = x := by unfold wrap64; omega
theorem bt_ba (l : List UInt8) (i : Nat) (h : i < l.length) : bt (ba l) (i : Int) = ((l[i]'h).toNat : Int) := by
  unfold bt
  have h2 : (i : Int).toNat < (ba l).size := by rw [ba_size]; simpa using h
  rw [dif_pos h2]
  have : (ba l)[(i : Int).toNat]'h2 = l[i]'h := by
    show (ba l).data[(i : Int).toNat]'h2 = _
    simp [ba]
  rw [this]
end Go.Proofs.YtcgpaopbcclbiaaDoor.Pu
end
section
/- What the printed reference to label tells: its runes are the decoder's own. -/



namespace Go.Proofs.YtcgpaopbcclbiaaDoor.Pu
open Go Go.Lib Go.RowKit Go.Proofs.YtcgpaopbcclbiaaDoor.Pl Go.Proofs.YtcgpaopbcclbiaaDoor.Lf Go.Proofs.YtcgpaopbcclbiaaDoor.Fn Go.Proofs.YtcgpaopbcclbiaaDoorW.PrintWords
theorem bt_all (l : List UInt8) (i : Nat) : bt (ba l) (i : Int) = ((l.getD i 0).toNat : Int) := by
  by_cases h : i < l.length
  · rw [bt_ba l i h, List.getD_eq_getElem?_getD, List.getElem?_eq_getElem h]; rfl
  · unfold bt
    rw [dif_neg (by rw [ba_size]; simpa using h), List.getD_eq_getElem?_getD, List.getElem?_eq_none (by omega)]
    rfl
theorem more_eq (l : List UInt8) (i : Nat) : rootcellarref1_more.f (ba l) (i : Int) = some (decide (i < l.length ∧ 128 ≤ (l.getD i 0).toNat ∧ (l.getD i 0).toNat ≤ 191)) := by
  unfold rootcellarref1_more.f
  rw [ba_size, bt_all]
  generalize (l.getD i 0).toNat = b
  by_cases h1 : i < l.length
  · rw [if_pos (by omega), if_pos (by omega)]
    by_cases h2 : 128 ≤ b
    · rw [if_pos (by omega)]
      by_cases h3 : b ≤ 191
      · rw [decide_eq_true (by omega), decide_eq_true ⟨h1, h2, h3⟩]
      · rw [decide_eq_false (by omega), decide_eq_false (by omega)]
    · rw [if_neg (by omega), decide_eq_false (by omega)]
  · rw [if_neg (by omega), decide_eq_false (by omega)]
def refN (n b0 b1 b2 b3 : Nat) : Int × Int :=
  if b0 < 128 then ((b0 : Int), 1)
  else if (194 ≤ b0 ∧ b0 ≤ 223) ∧ (1 < n ∧ 128 ≤ b1 ∧ b1 ≤ 191) then (((b0 : Int) - 192) * 64 + b1 - 128, 2)
  else if (224 ≤ b0 ∧ b0 ≤ 239) ∧ (1 < n ∧ 128 ≤ b1 ∧ b1 ≤ 191) ∧ (2 < n ∧ 128 ≤ b2 ∧ b2 ≤ 191) ∧ (2048 ≤ ((b0 : Int) - 224) * 4096 + ((b1 : Int) - 128) * 64 + b2 - 128 ∧ ¬ (55296 ≤ ((b0 : Int) - 224) * 4096 + ((b1 : Int) - 128) * 64 + b2 - 128 ∧ ((b0 : Int) - 224) * 4096 + ((b1 : Int) - 128) * 64 + b2 - 128 ≤ 57343)) then (((b0 : Int) - 224) * 4096 + ((b1 : Int) - 128) * 64 + b2 - 128, 3)
  else if (240 ≤ b0 ∧ b0 ≤ 244) ∧ (1 < n ∧ 128 ≤ b1 ∧ b1 ≤ 191) ∧ (2 < n ∧ 128 ≤ b2 ∧ b2 ≤ 191) ∧ (3 < n ∧ 128 ≤ b3 ∧ b3 ≤ 191) ∧ (65536 ≤ ((b0 : Int) - 240) * 262144 + ((b1 : Int) - 128) * 4096 + ((b2 : Int) - 128) * 64 + b3 - 128 ∧ ((b0 : Int) - 240) * 262144 + ((b1 : Int) - 128) * 4096 + ((b2 : Int) - 128) * 64 + b3 - 128 ≤ 1114111) then (((b0 : Int) - 240) * 262144 + ((b1 : Int) - 128) * 4096 + ((b2 : Int) - 128) * 64 + b3 - 128, 4)
  else (-1, 1)
theorem refN_eq (n b0 b1 b2 b3 : Nat) (h0 : b0 < 256) (h1 : b1 < 256) (h2 : b2 < 256) (h3 : b3 < 256) :
    refN n b0 b1 b2 b3 = if (decodeN n b0 b1 b2 b3).1 = 65533 ∧ (decodeN n b0 b1 b2 b3).2 = 1 then ((-1 : Int), (1 : Int)) else (((decodeN n b0 b1 b2 b3).1 : Int), ((decodeN n b0 b1 b2 b3).2 : Int)) := by
  unfold refN decodeN
  repeat' split
  all_goals first | rfl | (exfalso; omega) | (apply Prod.ext <;> simp only <;> omega) | skip
theorem wb (b : Nat) (h : b < 256) : wrap64 (b : Int) = b := by unfold wrap64; omega
theorem wa2 (b0 b1 : Nat) (h0 : b0 < 256) (h1 : b1 < 256) : wrap64 (wrap64 (wrap64 (wrap64 ((b0 : Int) - 192) * 64) + b1) - 128) = ((b0 : Int) - 192) * 64 + b1 - 128 := by unfold wrap64; omega
theorem wa3 (b0 b1 b2 : Nat) (h0 : b0 < 256) (h1 : b1 < 256) (h2 : b2 < 256) : wrap64 (wrap64 (wrap64 (wrap64 (wrap64 ((b0 : Int) - 224) * 4096) + wrap64 (wrap64 ((b1 : Int) - 128) * 64)) + b2) - 128) = ((b0 : Int) - 224) * 4096 + ((b1 : Int) - 128) * 64 + b2 - 128 := by unfold wrap64; omega
theorem wa4 (b0 b1 b2 b3 : Nat) (h0 : b0 < 256) (h1 : b1 < 256) (h2 : b2 < 256) (h3 : b3 < 256) : wrap64 (wrap64 (wrap64 (wrap64 (wrap64 (wrap64 ((b0 : Int) - 240) * 262144) + wrap64 (wrap64 ((b1 : Int) - 128) * 4096)) + wrap64 (wrap64 ((b2 : Int) - 128) * 64)) + b3) - 128) = ((b0 : Int) - 240) * 262144 + ((b1 : Int) - 128) * 4096 + ((b2 : Int) - 128) * 64 + b3 - 128 := by unfold wrap64; omega
def c3 (b0 b1 b2 : Nat) : Int := ((b0 : Int) - 224) * 4096 + ((b1 : Int) - 128) * 64 + b2 - 128
def c4 (b0 b1 b2 b3 : Nat) : Int := ((b0 : Int) - 240) * 262144 + ((b1 : Int) - 128) * 4096 + ((b2 : Int) - 128) * 64 + b3 - 128
section
variable (s : ByteArray) (n b0 b1 b2 b3 : Nat) (h0 : b0 < 256) (h1 : b1 < 256) (h2 : b2 < 256) (h3 : b3 < 256) (S : (s.size : Int) = n)
    (B0 : bt s 0 = b0) (B1 : bt s 1 = b1) (B2 : bt s 2 = b2) (B3 : bt s 3 = b3)
include h0 h1 h2 h3 S B1 B2 B3
theorem rj3 (k : Nat) (q : Bool) (hq : q = true → 3 < n) : rootcellarref1_Rune.j3 (k + 1) s b0 q = some (if q = true ∧ (65536 ≤ c4 b0 b1 b2 b3 ∧ c4 b0 b1 b2 b3 ≤ 1114111) then (c4 b0 b1 b2 b3, 4) else (-1, 1)) := by
  cases q
  · rfl
  · have hn := hq rfl
    have g1 : (1 : Int) < n := by omega
    have g2 : (2 : Int) < n := by omega
    have g3 : (3 : Int) < n := by omega
    simp only [rootcellarref1_Rune.j3, S, if_pos g1, if_pos g2, if_pos g3, if_true, B1, B2, B3, wb b1 h1, wb b2 h2, wb b3 h3, wa4 b0 b1 b2 b3 h0 h1 h2 h3]
    show (if c4 b0 b1 b2 b3 ≥ 65536 then _ else _) = _
    by_cases x : c4 b0 b1 b2 b3 ≥ 65536
    · rw [if_pos x]
      by_cases y : c4 b0 b1 b2 b3 ≤ 1114111
      · rw [if_pos (show ((b0 : Int) - 240) * 262144 + ((b1 : Int) - 128) * 4096 + ((b2 : Int) - 128) * 64 + b3 - 128 ≤ 1114111 from y), if_pos ⟨trivial, x, y⟩]; rfl
      · rw [if_neg (show ¬ ((b0 : Int) - 240) * 262144 + ((b1 : Int) - 128) * 4096 + ((b2 : Int) - 128) * 64 + b3 - 128 ≤ 1114111 from y), if_neg (fun h => y h.2.2)]
    · rw [if_neg x, if_neg (fun h => x h.2.1)]
variable (m1 m2 m3 : Bool) (M1 : rootcellarref1_more.f s 1 = some m1) (M2 : rootcellarref1_more.f s 2 = some m2) (M3 : rootcellarref1_more.f s 3 = some m3) (q1 : m1 = true → 1 < n) (q2 : m2 = true → 2 < n) (q3 : m3 = true → 3 < n)
include M1 M2 M3 q3
theorem rj2 (k : Nat) : rootcellarref1_Rune.j2 (k + 2) s b0 = some (if (240 ≤ b0 ∧ b0 ≤ 244) ∧ m1 = true ∧ m2 = true ∧ m3 = true ∧ (65536 ≤ c4 b0 b1 b2 b3 ∧ c4 b0 b1 b2 b3 ≤ 1114111) then (c4 b0 b1 b2 b3, 4) else (-1, 1)) := by
  have J := fun q hq => rj3 s n b0 b1 b2 b3 h0 h1 h2 h3 S B1 B2 B3 k q hq
  have Jf := J false (fun h => by cases h)
  have J3 := J m3 q3
  rw [if_neg (by simp)] at Jf
  simp only [rootcellarref1_Rune.j2, M1, M2, M3, Option.bind_some]
  by_cases x : 240 ≤ b0
  · rw [if_pos (show (b0 : Int) ≥ 240 by omega)]
    by_cases y : b0 ≤ 244
    · rw [if_pos (show (b0 : Int) ≤ 244 by omega)]
      cases m1
      · rw [if_neg (by decide), Jf, if_neg (by simp)]
      · cases m2
        · rw [if_pos rfl, if_neg (by decide), Jf, if_neg (by simp)]
        · rw [if_pos rfl, if_pos rfl, J3]
          congr 1
          by_cases z : m3 = true ∧ (65536 ≤ c4 b0 b1 b2 b3 ∧ c4 b0 b1 b2 b3 ≤ 1114111)
          · rw [if_pos z, if_pos ⟨⟨x, y⟩, rfl, rfl, z⟩]
          · rw [if_neg z, if_neg (fun h => z h.2.2.2)]
    · rw [if_neg (show ¬ (b0 : Int) ≤ 244 by omega), Jf, if_neg (fun h => y h.1.2)]
  · rw [if_neg (show ¬ (b0 : Int) ≥ 240 by omega), Jf, if_neg (fun h => x h.1.1)]
include q2
theorem rj1 (k : Nat) (q : Bool) (hq : q = true → m2 = true) : rootcellarref1_Rune.j1 (k + 3) s b0 q = some (if q = true ∧ (2048 ≤ c3 b0 b1 b2 ∧ ¬ (55296 ≤ c3 b0 b1 b2 ∧ c3 b0 b1 b2 ≤ 57343)) then (c3 b0 b1 b2, 3) else if (240 ≤ b0 ∧ b0 ≤ 244) ∧ m1 = true ∧ m2 = true ∧ m3 = true ∧ (65536 ≤ c4 b0 b1 b2 b3 ∧ c4 b0 b1 b2 b3 ≤ 1114111) then (c4 b0 b1 b2 b3, 4) else (-1, 1)) := by
  have J2 := rj2 s n b0 b1 b2 b3 h0 h1 h2 h3 S B1 B2 B3 m1 m2 m3 M1 M2 M3 q3 k
  cases q
  · rw [if_neg (by simp), ← J2]
    simp only [rootcellarref1_Rune.j1]
    rw [if_neg (by decide)]
  · have hn := q2 (hq rfl)
    have g1 : (1 : Int) < n := by omega
    have g2 : (2 : Int) < n := by omega
    simp only [rootcellarref1_Rune.j1, S, if_pos g1, if_pos g2, if_true, B1, B2, wb b1 h1, wb b2 h2, wa3 b0 b1 b2 h0 h1 h2]
    show (if c3 b0 b1 b2 ≥ 2048 then (if c3 b0 b1 b2 ≥ 55296 then (if c3 b0 b1 b2 ≤ 57343 then _ else some (c3 b0 b1 b2, 3)) else some (c3 b0 b1 b2, 3)) else _) = _
    by_cases x : c3 b0 b1 b2 ≥ 2048
    · rw [if_pos x]
      by_cases y : c3 b0 b1 b2 ≥ 55296
      · rw [if_pos y]
        by_cases z : c3 b0 b1 b2 ≤ 57343
        · rw [if_pos z, if_neg (fun h => h.2.2 ⟨y, z⟩)]; exact J2
        · rw [if_neg z, if_pos ⟨trivial, x, fun h => z h.2⟩]
      · rw [if_neg y, if_pos ⟨trivial, x, fun h => y h.1⟩]
    · rw [if_neg x, if_neg (fun h => x h.2.1)]; exact J2
include q1
theorem rj0 (k : Nat) (q : Bool) (hq : q = true → m1 = true) : rootcellarref1_Rune.j0 (k + 4) s b0 q = some (if q = true then (((b0 : Int) - 192) * 64 + b1 - 128, 2) else if ((224 ≤ b0 ∧ b0 ≤ 239) ∧ m1 = true ∧ m2 = true) ∧ (2048 ≤ c3 b0 b1 b2 ∧ ¬ (55296 ≤ c3 b0 b1 b2 ∧ c3 b0 b1 b2 ≤ 57343)) then (c3 b0 b1 b2, 3) else if (240 ≤ b0 ∧ b0 ≤ 244) ∧ m1 = true ∧ m2 = true ∧ m3 = true ∧ (65536 ≤ c4 b0 b1 b2 b3 ∧ c4 b0 b1 b2 b3 ≤ 1114111) then (c4 b0 b1 b2 b3, 4) else (-1, 1)) := by
  have J := fun q hq => rj1 s n b0 b1 b2 b3 h0 h1 h2 h3 S B1 B2 B3 m1 m2 m3 M1 M2 M3 q2 q3 k q hq
  revert J
  generalize (if (240 ≤ b0 ∧ b0 ≤ 244) ∧ m1 = true ∧ m2 = true ∧ m3 = true ∧ (65536 ≤ c4 b0 b1 b2 b3 ∧ c4 b0 b1 b2 b3 ≤ 1114111) then (c4 b0 b1 b2 b3, 4) else ((-1 : Int), (1 : Int))) = E
  intro J
  have Jf := J false (fun h => by cases h)
  rw [if_neg (by simp)] at Jf
  have J2 := J m2 (fun h => h)
  cases q
  · rw [if_neg (by decide)]
    simp only [rootcellarref1_Rune.j0, M1, M2, Option.bind_some]
    rw [if_neg (by decide)]
    by_cases x : 224 ≤ b0
    · rw [if_pos (show (b0 : Int) ≥ 224 by omega)]
      by_cases y : b0 ≤ 239
      · rw [if_pos (show (b0 : Int) ≤ 239 by omega)]
        cases m1
        · rw [if_neg (by decide), Jf, if_neg (by simp)]
        · rw [if_pos rfl, J2]
          congr 1
          by_cases z : m2 = true ∧ (2048 ≤ c3 b0 b1 b2 ∧ ¬ (55296 ≤ c3 b0 b1 b2 ∧ c3 b0 b1 b2 ≤ 57343))
          · rw [if_pos z, if_pos ⟨⟨⟨x, y⟩, rfl, z.1⟩, z.2⟩]
          · rw [if_neg z, if_neg (fun h => z ⟨h.1.2.2, h.2⟩)]
      · rw [if_neg (show ¬ (b0 : Int) ≤ 239 by omega), Jf, if_neg (fun h => y h.1.1.2)]
    · rw [if_neg (show ¬ (b0 : Int) ≥ 224 by omega), Jf, if_neg (fun h => x h.1.1.1)]
  · have hn := q1 (hq rfl)
    have g1 : (1 : Int) < n := by omega
    simp only [rootcellarref1_Rune.j0, S, if_pos g1, if_true, B1, wb b1 h1, wa2 b0 b1 h0 h1]
include B0
theorem rune_N (hn : 1 ≤ n) (k : Nat) : rootcellarref1_Rune.f (k + 4) s = some (if b0 < 128 then ((b0 : Int), 1) else if (194 ≤ b0 ∧ b0 ≤ 223) ∧ m1 = true then (((b0 : Int) - 192) * 64 + b1 - 128, 2) else if ((224 ≤ b0 ∧ b0 ≤ 239) ∧ m1 = true ∧ m2 = true) ∧ (2048 ≤ c3 b0 b1 b2 ∧ ¬ (55296 ≤ c3 b0 b1 b2 ∧ c3 b0 b1 b2 ≤ 57343)) then (c3 b0 b1 b2, 3) else if (240 ≤ b0 ∧ b0 ≤ 244) ∧ m1 = true ∧ m2 = true ∧ m3 = true ∧ (65536 ≤ c4 b0 b1 b2 b3 ∧ c4 b0 b1 b2 b3 ≤ 1114111) then (c4 b0 b1 b2 b3, 4) else (-1, 1)) := by
  have J := fun q hq => rj0 s n b0 b1 b2 b3 h0 h1 h2 h3 S B1 B2 B3 m1 m2 m3 M1 M2 M3 q1 q2 q3 k q hq
  revert J
  generalize (if ((224 ≤ b0 ∧ b0 ≤ 239) ∧ m1 = true ∧ m2 = true) ∧ (2048 ≤ c3 b0 b1 b2 ∧ ¬ (55296 ≤ c3 b0 b1 b2 ∧ c3 b0 b1 b2 ≤ 57343)) then (c3 b0 b1 b2, (3 : Int)) else (if (240 ≤ b0 ∧ b0 ≤ 244) ∧ m1 = true ∧ m2 = true ∧ m3 = true ∧ (65536 ≤ c4 b0 b1 b2 b3 ∧ c4 b0 b1 b2 b3 ≤ 1114111) then (c4 b0 b1 b2 b3, 4) else ((-1 : Int), (1 : Int)))) = E
  intro J
  have Jf := J false (fun h => by cases h)
  rw [if_neg (by simp)] at Jf
  have J1 := J m1 (fun h => h)
  have g0 : (0 : Int) < n := by omega
  simp only [rootcellarref1_Rune.f, S, if_pos g0, B0, wb b0 h0, M1, Option.bind_some]
  by_cases w : b0 < 128
  · rw [if_pos (show (b0 : Int) < 128 by omega), if_pos w]
  · rw [if_neg (show ¬ (b0 : Int) < 128 by omega), if_neg w]
    by_cases x : 194 ≤ b0
    · rw [if_pos (show (b0 : Int) ≥ 194 by omega)]
      by_cases y : b0 ≤ 223
      · rw [if_pos (show (b0 : Int) ≤ 223 by omega), J1]
        congr 1
        by_cases z : m1 = true
        · rw [if_pos z, if_pos ⟨⟨x, y⟩, z⟩]
        · rw [if_neg z, if_neg (fun h => z h.2)]
      · rw [if_neg (show ¬ (b0 : Int) ≤ 223 by omega), Jf, if_neg (fun h => y h.1.2)]
    · rw [if_neg (show ¬ (b0 : Int) ≥ 194 by omega), Jf, if_neg (fun h => x h.1.1)]
end
/-- The rune in front, as the reference tells it. -/
def rr (l : List UInt8) : Int × Int := if (decodeL l).1 = 65533 ∧ (decodeL l).2 = 1 then (-1, 1) else (((decodeL l).1 : Int), ((decodeL l).2 : Int))
theorem rune_eq (l : List UInt8) (hl : l ≠ []) (k : Nat) : rootcellarref1_Rune.f (k + 4) (ba l) = some (rr l) := by
  have hn : 1 ≤ l.length := List.length_pos_iff.2 hl
  have e := refN_eq l.length _ _ _ _ (l.getD 0 0).toNat_lt (l.getD 1 0).toNat_lt (l.getD 2 0).toNat_lt (l.getD 3 0).toNat_lt
  rw [← decodeL_N] at e
  unfold rr
  rw [← e, rune_N (ba l) l.length _ _ _ _ (l.getD 0 0).toNat_lt (l.getD 1 0).toNat_lt (l.getD 2 0).toNat_lt (l.getD 3 0).toNat_lt (by rw [ba_size]) (bt_all l 0) (bt_all l 1) (bt_all l 2) (bt_all l 3) _ _ _ (more_eq l 1) (more_eq l 2) (more_eq l 3)
    (fun h => (of_decide_eq_true h).1) (fun h => (of_decide_eq_true h).1) (fun h => (of_decide_eq_true h).1) hn k]
  unfold refN c3 c4
  simp only [decide_eq_true_eq, and_assoc]
theorem ev_rune (l : List UInt8) (hl : l ≠ []) : Ev (fun k => rootcellarref1_Rune.f k (ba l)) (rr l) :=
  ⟨4, fun k hk => by obtain ⟨k, rfl⟩ : ∃ m, k = m + 4 := ⟨k - 4, by omega⟩; exact rune_eq l hl k⟩
theorem rr_width (l : List UInt8) (_hl : l ≠ []) : (rr l).2 = (((decodeL l).2 : Nat) : Int) := by
  unfold rr
  by_cases h : (decodeL l).1 = 65533 ∧ (decodeL l).2 = 1
  · rw [if_pos h, h.2]; rfl
  · rw [if_neg h]
theorem rr_bad (l : List UInt8) : ((rr l).1 < 0) = ((decodeL l).1 = 65533 ∧ (decodeL l).2 = 1) := by
  unfold rr
  by_cases h : (decodeL l).1 = 65533 ∧ (decodeL l).2 = 1
  · rw [if_pos h]; simp [h]
  · rw [if_neg h]; simp [h]
theorem shape (l : List UInt8) (hl : l ≠ []) (hv : ¬ ((decodeL l).1 = 65533 ∧ (decodeL l).2 = 1)) :
    (∃ (b : UInt8) (r : List UInt8), l = b :: r ∧ b.toNat < 128 ∧ decodeL l = (b.toNat, 1)) ∨ ((∀ b ∈ l.take (decodeL l).2, 128 ≤ b.toNat) ∧ 128 ≤ (decodeL l).1) := by
  have h0 := (l.getD 0 0).toNat_lt
  have h1 := (l.getD 1 0).toNat_lt
  have h2 := (l.getD 2 0).toNat_lt
  have h3 := (l.getD 3 0).toNat_lt
  have hlen : 0 < l.length := List.length_pos_iff.2 hl
  rw [decodeL_N] at hv ⊢
  have at_ : ∀ i, i < l.length → l[i]? = some (l.getD i 0) := fun i hi => by
    rw [List.getD_eq_getElem?_getD, List.getElem?_eq_getElem hi]; rfl
  have tk : ∀ w, w ≤ 4 → (∀ i, i < w → 128 ≤ (l.getD i 0).toNat) → ∀ b ∈ l.take w, 128 ≤ b.toNat := by
    intro w _ hw b hb
    obtain ⟨i, hi, e⟩ := List.mem_take_iff_getElem.1 hb
    have hi1 : i < w := by omega
    have := hw i hi1
    rw [List.getD_eq_getElem?_getD, List.getElem?_eq_getElem (by omega)] at this
    rw [← e]
    exact this
  rcases decodeN_shape l.length (l.getD 0 0).toNat (l.getD 1 0).toNat (l.getD 2 0).toNat (l.getD 3 0).toNat with ⟨c, e⟩ | ⟨c1, c2, c3, cv, e⟩ | ⟨c1, c2, c3, c4, cv, cs, e⟩ | ⟨c1, c2, c3, c4, c5, cv, cw, e⟩ | e
  · left
    cases l with
    | nil => exact absurd rfl hl
    | cons b r => exact ⟨b, r, rfl, c, e⟩
  · right
    rw [e]
    refine ⟨tk 2 (by omega) (fun i hi => ?_), cv⟩
    have : i = 0 ∨ i = 1 := by omega
    rcases this with rfl | rfl <;> omega
  · right
    rw [e]
    refine ⟨tk 3 (by omega) (fun i hi => ?_), by simp only; omega⟩
    have : i = 0 ∨ i = 1 ∨ i = 2 := by omega
    rcases this with rfl | rfl | rfl <;> omega
  · right
    rw [e]
    refine ⟨tk 4 (by omega) (fun i hi => ?_), by simp only; omega⟩
    have : i = 0 ∨ i = 1 ∨ i = 2 ∨ i = 3 := by omega
    rcases this with rfl | rfl | rfl | rfl <;> omega
  · exact absurd (by rw [e]; exact ⟨rfl, rfl⟩) hv
theorem right_eq (l : List UInt8) (h : l.length ≤ 1000000000) : label_Right.f (ba l) = some (rightB l) := by
  unfold label_Right.f
  rw [ba_size, if_pos (by omega), ba_list]
end Go.Proofs.YtcgpaopbcclbiaaDoor.Pu
end
section
/- LabelRunes, LabelCuts, LabelFirst, LabelNames, LabelJoins, LabelPlain, in plain words: true of every input. -/



namespace Go.Proofs.YtcgpaopbcclbiaaDoor.Pu
open Go Go.Lib Go.RowKit Go.Proofs.YtcgpaopbcclbiaaDoor.Pl Go.Proofs.YtcgpaopbcclbiaaDoor.Lf Go.Proofs.YtcgpaopbcclbiaaDoor.Fn Go.Proofs.YtcgpaopbcclbiaaDoorW.PrintWords
theorem ev_pos {α : Type} {c : Prop} [Decidable c] {A B : Nat → Option α} {r : α} (h : c) (e : Ev A r) : Ev (fun k => if c then A k else B k) r := Ev.congr (fun _ => if_pos h) e
theorem ev_neg {α : Type} {c : Prop} [Decidable c] {A B : Nat → Option α} {r : α} (h : ¬ c) (e : Ev B r) : Ev (fun k => if c then A k else B k) r := Ev.congr (fun _ => if_neg h) e
theorem count_eq (l : List UInt8) (h : l.length ≤ 1000000000) : label_Count.f (ba l) = some (((runes l).length : Nat) : Int) := by
  unfold label_Count.f
  rw [ba_size, if_pos (by omega), ba_list]
theorem valid_eq (l : List UInt8) (h : l.length ≤ 1000000000) : label_Valid.f (ba l) = some (validD l) := by
  unfold label_Valid.f
  rw [ba_size, if_pos (by omega), ba_list]
theorem first_eq (l : List UInt8) (n : Int) (h : l.length ≤ 1000000000) (hn : -9223372036854775808 ≤ n ∧ n ≤ 9223372036854775807) : label_First.f (ba l) n = some (ba (firstL l n)) := by
  unfold label_First.f
  rw [ba_size, if_pos ⟨by omega, hn⟩, ba_list]; rfl
theorem quote_eq (l : List UInt8) (h : l.length ≤ 1000000000) : label_Quote.f (ba l) = some (ba (quoteL l)) := by
  unfold label_Quote.f
  rw [ba_size, if_pos (by omega), ba_list]; rfl
theorem hex2 (n : Nat) (h : 16 ≤ n) (h2 : n < 256) : hexL n = [hd (n / 16), hd (n % 16)] := by
  rw [hexL_ge (by omega), hexL_lt (by omega)]; rfl
theorem piece_plain (l : List UInt8) (c : UInt8) (r : List UInt8) (e : l = c :: r) (h : 33 ≤ c.toNat ∧ c.toNat ≤ 126 ∧ c.toNat ≠ 92) : piece l = [c] := by
  subst e
  have hd := dec_plain c r (by omega)
  unfold piece
  rw [hd, if_neg (by simp only; omega), if_neg (by simp only; omega), if_pos (by simp only; omega)]
  unfold encodeRune
  rw [encodeRuneZ_one (by omega) (by omega)]
  simp
theorem piece_hex (l : List UInt8) (r k : Nat) (hd : decodeL l = (r, k)) (h1 : ¬ (r = 65533 ∧ k = 1)) (h2 : r ≠ 92) (h3 : ¬ (32 < r ∧ r < 127)) : piece l = [92, 123] ++ hexL r ++ [125] := by
  unfold piece
  rw [hd, if_neg h1, if_neg h2, if_neg h3]
theorem quote_shown : quoteL [97, 32, 195, 169, 92] = [97, 92, 123, 50, 48, 125, 92, 123, 101, 57, 125, 92, 92] := by
  unfold quoteL
  rw [if_neg (by simp)]
  have d1 : decodeL [97, 32, 195, 169, 92] = (97, 1) := by decide +kernel
  have d2 : decodeL [32, 195, 169, 92] = (32, 1) := by decide +kernel
  have d3 : decodeL [195, 169, 92] = (233, 2) := by decide +kernel
  have d4 : decodeL [92] = (92, 1) := by decide +kernel
  have p4 : piece [92] = [92, 92] := by unfold piece; rw [d4, if_neg (by simp), if_pos rfl]
  rw [quoteR_cons _ (by simp), d1, piece_plain _ 97 _ rfl (by decide)]
  simp only [List.drop_succ_cons, List.drop_zero]
  rw [quoteR_cons _ (by simp), d2, piece_hex _ 32 1 d2 (by simp) (by simp) (by simp), hex2 32 (by omega) (by omega)]
  simp only [List.drop_succ_cons, List.drop_zero]
  rw [quoteR_cons _ (by simp), d3, piece_hex _ 233 2 d3 (by simp) (by simp) (by simp), hex2 233 (by omega) (by omega)]
  simp only [List.drop_succ_cons, List.drop_zero]
  rw [quoteR_cons _ (by simp), d4, p4]
  simp only [List.drop_succ_cons, List.drop_zero, quoteR_nil]
  decide +kernel
theorem quote_shown2 : quoteL [255] = [92, 33, 102, 102] := by
  unfold quoteL
  rw [if_neg (by simp)]
  have d1 : decodeL [255] = (65533, 1) := by decide +kernel
  have p1 : piece [255] = [92, 33] ++ hexL 255 := by unfold piece; rw [d1, if_pos (by simp)]; rfl
  rw [quoteR_cons _ (by simp), d1, p1, hex2 255 (by omega) (by omega)]
  simp only [List.drop_succ_cons, List.drop_zero, quoteR_nil]
  decide +kernel
theorem shown1 : rootcellarlaw1_shown.f = some true := by
  unfold rootcellarlaw1_shown.f
  have c1 : label_Count.f (⟨#[97, 195, 169]⟩ : ByteArray) = some 2 := by
    rw [show (⟨#[97, 195, 169]⟩ : ByteArray) = ba [97, 195, 169] from rfl, count_eq _ (by simp), show (runes [97, 195, 169]).length = 2 from by decide +kernel]; rfl
  have c2 : label_First.f (⟨#[195, 169, 97]⟩ : ByteArray) 1 = some (ba [195, 169]) := by
    rw [show (⟨#[195, 169, 97]⟩ : ByteArray) = ba [195, 169, 97] from rfl, first_eq _ _ (by simp) (by omega), show firstL [195, 169, 97] 1 = [195, 169] from by decide +kernel]
  have c3 : label_Quote.f (⟨#[97, 32, 195, 169, 92]⟩ : ByteArray) = some (ba [97, 92, 123, 50, 48, 125, 92, 123, 101, 57, 125, 92, 92]) := by
    rw [show (⟨#[97, 32, 195, 169, 92]⟩ : ByteArray) = ba [97, 32, 195, 169, 92] from rfl, quote_eq _ (by simp), quote_shown]
  have c4 : label_Quote.f (⟨#[255]⟩ : ByteArray) = some (ba [92, 33, 102, 102]) := by
    rw [show (⟨#[255]⟩ : ByteArray) = ba [255] from rfl, quote_eq _ (by simp), quote_shown2]
  have c5 : label_Right.f (⟨#[98, 101, 102, 111, 114, 101, 32, 108, 117, 110, 99, 104]⟩ : ByteArray) = some true := by
    rw [show (⟨#[98, 101, 102, 111, 114, 101, 32, 108, 117, 110, 99, 104]⟩ : ByteArray) = ba [98, 101, 102, 111, 114, 101, 32, 108, 117, 110, 99, 104] from rfl, right_eq _ (by simp)]
    congr 1
  have c6 : label_Right.f (⟨#[32, 120]⟩ : ByteArray) = some false := by
    rw [show (⟨#[32, 120]⟩ : ByteArray) = ba [32, 120] from rfl, right_eq _ (by simp)]
    congr 1
  rw [c1, c2, c3, c4, c5, c6]
  simp only [Option.bind_some, ba_toList]
  rfl
end Go.Proofs.YtcgpaopbcclbiaaDoor.Pu
end
section
/- LabelBack, in plain words: true of every input. -/



namespace Go.Proofs.YtcgpaopbcclbiaaDoor.Pu
open Go Go.Lib Go.RowKit Go.Proofs.YtcgpaopbcclbiaaDoor.Pl Go.Proofs.YtcgpaopbcclbiaaDoor.Lf Go.Proofs.YtcgpaopbcclbiaaDoor.Fn Go.Proofs.YtcgpaopbcclbiaaDoorW.PrintWords
theorem unq_f (l : List UInt8) (h : l.length ≤ 1000000000) : label_Unquote.f (ba l) = some (ba (unqV l).1, (unqV l).2) := by
  unfold label_Unquote.f
  rw [ba_size, if_pos (by omega), ba_list]
theorem back_l0 (k : Nat) (x0 x1 x6 : ByteArray) (x7 : Int) : rootcellarlaw1_LabelBack.l0 (k + 1) x0 x1 x6 x7 = if x7 < (x6.size : Int) then (if 0 ≤ x7 then (if (bt x6 x7) < 33 then (some false) else (if (bt x6 x7) > 126 then (some false) else (rootcellarlaw1_LabelBack.l0 k x0 x1 x6 (wrap64 (x7 + 1))))) else (none)) else ((label_Unquote.f x6).bind fun bt164 => (if bt164.1.toList = x0.toList then (if bt164.2 = 0 then (if x6.toList = ([] : List UInt8) then (some false) else ((label_Quote.f x1).bind fun t166 => (some ((x6.toList == t166.toList) == (x0.toList == x1.toList))))) else (some false)) else (some false))) := rfl
theorem quoteL_len (l : List UInt8) : (quoteL l).length ≤ 12 * l.length + 2 := by
  unfold quoteL
  by_cases e : l = []
  · rw [if_pos e]; simp
  · rw [if_neg e]
    have := quoteR_len l
    omega
theorem back_l (s t : List UInt8) (hs : s.length ≤ 500) (ht : t.length ≤ 500) : ∀ (j i : Nat), i + j = (quoteL s).length → Ev (fun k => rootcellarlaw1_LabelBack.l0 k (ba s) (ba t) (ba (quoteL s)) (i : Int)) true := by
  have hq := quoteL_len s
  intro j
  induction j with
  | zero =>
    intro i hi
    refine Ev.step (f := fun _ => some true) (fun k => ?_) (Ev.now _)
    rw [back_l0, ba_size, if_neg (by omega), unq_f _ (by omega), unqV_quote]
    simp only [Option.bind_some]
    rw [if_pos trivial, if_pos trivial, ba_toList, if_neg (quoteL_ne s), quote_eq t (by omega)]
    simp only [Option.bind_some, ba_toList]
    congr 1
    by_cases e : s = t
    · subst e; simp
    · have e2 : quoteL s ≠ quoteL t := fun h => e (quote_inj h)
      have h1 : (quoteL s == quoteL t) = false := by simpa using e2
      have h2 : (s == t) = false := by simpa using e
      rw [h1, h2]
      rfl
  | succ j ih =>
    intro i hi
    have hlt : i < (quoteL s).length := by omega
    have hb := bt_ba (quoteL s) i hlt
    have hsg := quoteL_signs s _ (List.getElem_mem hlt)
    have h := ih (i + 1) (by omega)
    have f1 : (i : Int) < ((quoteL s).length : Int) := by omega
    have f2 : (0 : Int) ≤ (i : Int) := by omega
    have f3 : ¬ ((((quoteL s)[i]'hlt).toNat : Nat) : Int) < 33 := by omega
    have f4 : ¬ ((((quoteL s)[i]'hlt).toNat : Nat) : Int) > 126 := by omega
    have f5 : i < 9223372036854775807 := by omega
    have w1 : wrap64 ((i : Int) + 1) = ((i + 1 : Nat) : Int) := w64 _ (by omega) (by omega)
    refine Ev.step (fun k => ?_) h
    rw [back_l0, ba_size, if_pos f1, if_pos f2, hb, if_neg f3, if_neg f4, w1]
theorem LabelBack (a0 a1 : ByteArray) (_h0 : a0.size ≤ maxLen) (_h1 : a1.size ≤ maxLen) : ∃ k, rootcellarlaw1_LabelBack.f k a0 a1 = some true := by
  apply Ev.rounds
  obtain ⟨s, rfl⟩ := ex_ba a0
  obtain ⟨t, rfl⟩ := ex_ba a1
  have out : Ev (fun k => rootcellarlaw1_LabelBack.j0 k (ba s) (ba t) true true) true := Ev.step (f := fun _ => some true) (fun _ => rfl) (Ev.now _)
  refine Ev.congr (f := fun k => if ((ba s).size : Int) > 500 then (rootcellarlaw1_LabelBack.j0 k (ba s) (ba t) true true) else (rootcellarlaw1_LabelBack.j0 k (ba s) (ba t) true (decide (((ba t).size : Int) > 500)))) (fun k => by unfold rootcellarlaw1_LabelBack.f; rw [shown1]; rfl) ?_
  by_cases c1 : ((ba s).size : Int) > 500
  · exact Ev.congr (fun k => if_pos c1) out
  by_cases c2 : ((ba t).size : Int) > 500
  · exact Ev.congr (fun k => by rw [if_neg c1, decide_eq_true c2]) out
  refine Ev.congr (f := fun k => rootcellarlaw1_LabelBack.j0 k (ba s) (ba t) true false) (fun k => by rw [if_neg c1, decide_eq_false c2]) ?_
  rw [ba_size] at c1 c2
  have h := back_l s t (by omega) (by omega) (quoteL s).length 0 (by omega)
  refine Ev.step (fun k => ?_) h
  simp only [rootcellarlaw1_LabelBack.j0, Bool.false_eq_true, ite_false]
  rw [quote_eq s (by omega)]
  rfl
end Go.Proofs.YtcgpaopbcclbiaaDoor.Pu
end
section
/- The reference's Quote and Unquote, in plain words. -/


namespace Go.Proofs.YtcgpaopbcclbiaaDoor.Pu
set_option maxRecDepth 20000
open Go Go.Lib Go.RowKit Go.Extern.FmtText Go.Proofs.YtcgpaopbcclbiaaDoor.Pl Go.Proofs.YtcgpaopbcclbiaaDoor.Lf Go.Proofs.YtcgpaopbcclbiaaDoor.Fn Go.Proofs.YtcgpaopbcclbiaaDoorW.PrintWords
abbrev dig16 : ByteArray := ⟨#[48, 49, 50, 51, 52, 53, 54, 55, 56, 57, 97, 98, 99, 100, 101, 102]⟩
theorem dcut_fin : ∀ r : Fin 16, dig16.extract r.val (r.val + 1) = ba [hd r.val] := by decide +kernel
theorem dcut (r : Nat) (h : r < 16) : dig16.extract r (r + 1) = ba [hd r] := dcut_fin ⟨r, h⟩
/-! ### hex -/
theorem hex_l0 (k : Nat) (x0 : Int) (x3 : ByteArray) : rootcellarref1_hex.l0 (k + 1) x0 x3 = if x0 > 0 then (if 0 ≤ (Int.tmod x0 16) then (if (Int.tmod x0 16) ≤ (wrap64 ((Int.tmod x0 16) + 1)) then (if (wrap64 ((Int.tmod x0 16) + 1)) ≤ 16 then (if (dig16.extract ((Int.tmod x0 16) : Int).toNat ((wrap64 ((Int.tmod x0 16) + 1)) : Int).toNat).size + x3.size ≤ 9223372036854775807 then (rootcellarref1_hex.l0 k (wrap64 (Int.tdiv x0 16)) ((dig16.extract ((Int.tmod x0 16) : Int).toNat ((wrap64 ((Int.tmod x0 16) + 1)) : Int).toNat) ++ x3)) else (none)) else (none)) else (none)) else (none)) else (if x3.toList = ([] : List UInt8) then (if 0 ≤ (Int.tmod x0 16) then (if (Int.tmod x0 16) ≤ (wrap64 ((Int.tmod x0 16) + 1)) then (if (wrap64 ((Int.tmod x0 16) + 1)) ≤ 16 then (if (dig16.extract ((Int.tmod x0 16) : Int).toNat ((wrap64 ((Int.tmod x0 16) + 1)) : Int).toNat).size + x3.size ≤ 9223372036854775807 then (rootcellarref1_hex.l0 k (wrap64 (Int.tdiv x0 16)) ((dig16.extract ((Int.tmod x0 16) : Int).toNat ((wrap64 ((Int.tmod x0 16) + 1)) : Int).toNat) ++ x3)) else (none)) else (none)) else (none)) else (none)) else (some x3)) := rfl
theorem hex_step (k n : Nat) (acc : List UInt8) (hn : n < 1000000000) (ha : acc.length ≤ 1000) (h : 0 < n ∨ acc = []) :
    rootcellarref1_hex.l0 (k + 1) (n : Int) (ba acc) = rootcellarref1_hex.l0 k ((n / 16 : Nat) : Int) (ba (hd (n % 16) :: acc)) := by
  have h16 : n % 16 < 16 := Nat.mod_lt _ (by decide)
  have e1 : Int.tmod (n : Int) 16 = ((n % 16 : Nat) : Int) := (Int.ofNat_tmod n 16).symm
  have e2 : wrap64 (((n % 16 : Nat) : Int) + 1) = ((n % 16 + 1 : Nat) : Int) := w64 _ (by omega) (by omega)
  have e3 : Int.tdiv (n : Int) 16 = ((n / 16 : Nat) : Int) := (Int.ofNat_tdiv n 16).symm
  have e4 : wrap64 ((n / 16 : Nat) : Int) = ((n / 16 : Nat) : Int) := w64 _ (by omega) (by omega)
  have e5 := dcut (n % 16) h16
  have e6 : (ba [hd (n % 16)]).size + (ba acc).size ≤ 9223372036854775807 := by rw [ba_size, ba_size, List.length_singleton]; omega
  have f1 : (0 : Int) ≤ ((n % 16 : Nat) : Int) := by omega
  have f2 : ((n % 16 : Nat) : Int) ≤ ((n % 16 + 1 : Nat) : Int) := by omega
  have f3 : ((n % 16 + 1 : Nat) : Int) ≤ 16 := by omega
  have ap : ba [hd (n % 16)] ++ ba acc = ba (hd (n % 16) :: acc) := ba_append _ _
  rw [hex_l0, e1, e2, Int.toNat_natCast, Int.toNat_natCast, e5, e3, e4, ap, if_pos f1, if_pos f2, if_pos f3, if_pos e6]
  by_cases c : (n : Int) > 0
  · rw [if_pos c]
  · have e : acc = [] := by rcases h with h | h
                            · omega
                            · exact h
    rw [if_neg c, if_pos (by rw [ba_toList]; exact e)]
theorem hex_end (k : Nat) (c : UInt8) (acc : List UInt8) : rootcellarref1_hex.l0 (k + 1) 0 (ba (c :: acc)) = some (ba (c :: acc)) := by
  rw [hex_l0, if_neg (by decide), if_neg (by rw [ba_toList]; simp)]
theorem hex_go (n : Nat) : ∀ acc : List UInt8, n < 1000000000 → acc.length + (hexL n).length ≤ 500 → (0 < n ∨ acc = []) → Ev (fun k => rootcellarref1_hex.l0 k (n : Int) (ba acc)) (ba (hexL n ++ acc)) := by
  induction n using Nat.strongRecOn with
  | _ n ih =>
    intro acc hn hl h
    refine Ev.step (fun k => hex_step k n acc hn (by omega) h) ?_
    by_cases c : n < 16
    · rw [hexL_lt c, Nat.div_eq_of_lt c, Nat.mod_eq_of_lt c]
      exact Ev.step (f := fun _ => some _) (fun k => hex_end k _ _) (Ev.now _)
    · rw [hexL_ge c] at hl ⊢
      have := ih (n / 16) (by omega) (hd (n % 16) :: acc) (by omega) (by simp only [List.length_append, List.length_cons, List.length_nil] at hl ⊢; omega) (Or.inl (by omega))
      rwa [show hexL (n / 16) ++ (hd (n % 16) :: acc) = hexL (n / 16) ++ [hd (n % 16)] ++ acc by simp] at this
theorem ref_hex (n : Nat) (h : n < 1000000000) : Ev (fun k => rootcellarref1_hex.f k (n : Int)) (ba (hexL n)) := by
  have hl := hexL_len 8 n (by omega)
  have := hex_go n [] h (by simp; omega) (Or.inr rfl)
  rwa [List.append_nil] at this
/-! ### Quote -/
theorem s9233 : (⟨#[92, 33]⟩ : ByteArray) = ba [92, 33] := rfl
theorem s9292 : (⟨#[92, 92]⟩ : ByteArray) = ba [92, 92] := rfl
theorem s92123 : (⟨#[92, 123]⟩ : ByteArray) = ba [92, 123] := rfl
theorem s125 : (⟨#[125]⟩ : ByteArray) = ba [125] := rfl
theorem bt_zero (l : List UInt8) : bt (ba l) 0 = ((l.headD 0).toNat : Int) := by
  have := bt_all l 0
  rw [show l.getD 0 0 = l.headD 0 by cases l <;> rfl] at this
  exact this
theorem lenp (l : List UInt8) (e : l ≠ []) : 1 ≤ l.length := List.length_pos_iff.2 e
set_option maxHeartbeats 1000000 in
theorem ref_quote_l (l : List UInt8) : ∀ acc : List UInt8, acc.length + 12 * l.length ≤ 100000 → Ev (fun k => rootcellarref1_Quote.l0 k (ba l) (ba acc)) (ba (acc ++ quoteR l)) := by
  induction hn : l.length using Nat.strongRecOn generalizing l with
  | _ n ih =>
    intro acc hacc
    by_cases e : l = []
    · subst e
      rw [quoteR_nil, List.append_nil]
      refine Ev.step (f := fun _ => some _) (fun k => ?_) (Ev.now _)
      simp only [rootcellarref1_Quote.l0]
      rw [ba_toList, if_pos rfl]
    have hs := drop_short l e
    have h1 := lenp l e
    have hle := decodeL_le l e
    have hw := decodeL_width l
    have hlt := decL_lt l
    have hpl := piece_len l
    have hq : acc ++ quoteR l = (acc ++ piece l) ++ quoteR (l.drop (decodeL l).2) := by rw [quoteR_cons l e, List.append_assoc]
    have IH := ih _ (by omega) (l.drop (decodeL l).2) rfl (acc ++ piece l) (by rw [List.length_append]; omega)
    rw [← hq] at IH
    refine Ev.step (fun k => by simp only [rootcellarref1_Quote.l0]; rw [ba_toList, if_neg e]) (Ev.bind (ev_rune l e) ?_)
    have g1 : (0 : Int) < ((ba l).size : Int) := by rw [ba_size]; omega
    have g2 : (ba acc).size + 2 ≤ 9223372036854775807 := by rw [ba_size]; omega
    have hsz : (ba l).size = l.length := ba_size l
    have hext : (ba l).extract (decodeL l).2 (ba l).size = ba (l.drop (decodeL l).2) := ba_drop l _
    by_cases c1 : (decodeL l).1 = 65533 ∧ (decodeL l).2 = 1
    · have hrr : rr l = (-1, 1) := by unfold rr; rw [if_pos c1]
      have hp : piece l = [92, 33] ++ hexL (l.headD 0).toNat := by unfold piece; rw [if_pos c1]
      have hc := bad_high l e c1
      have hc2 := (l.headD 0).toNat_lt
      have e0 := bt_zero l
      rw [c1.2] at IH hext
      generalize (l.headD 0).toNat = c at hp hc hc2 e0
      rw [hex_two c (by omega) hc2] at hp
      have f1 : (0 : Int) ≤ ((c / 16 : Nat) : Int) := by omega
      have f2 : ((c / 16 : Nat) : Int) ≤ ((c / 16 + 1 : Nat) : Int) := by omega
      have f3 : ((c / 16 + 1 : Nat) : Int) ≤ 16 := by omega
      have f4 : (ba acc).size + 2 + (ba [hd (c / 16)]).size ≤ 9223372036854775807 := by rw [ba_size, ba_size, List.length_singleton]; omega
      have f5 : (0 : Int) ≤ ((c % 16 : Nat) : Int) := by omega
      have f6 : ((c % 16 : Nat) : Int) ≤ ((c % 16 + 1 : Nat) : Int) := by omega
      have f7 : ((c % 16 + 1 : Nat) : Int) ≤ 16 := by omega
      have f8 : (ba acc).size + 2 + (ba [hd (c / 16)]).size + (ba [hd (c % 16)]).size ≤ 9223372036854775807 := by rw [ba_size, ba_size, ba_size, List.length_singleton, List.length_singleton]; omega
      have f9 : (1 : Int) ≤ ((ba l).size : Int) := by rw [ba_size]; omega
      have b1 : (c : Int) < 9223372036854775808 := by omega
      have b0 : -9223372036854775808 ≤ (c : Int) := by omega
      have b2 : ((c / 16 : Nat) : Int) < 9223372036854775808 := by omega
      have b3 : -9223372036854775808 ≤ ((c / 16 : Nat) : Int) := by omega
      have b4 : ((c / 16 : Nat) : Int) + 1 < 9223372036854775808 := by omega
      have b5 : -9223372036854775808 ≤ ((c / 16 : Nat) : Int) + 1 := by omega
      have b6 : ((c % 16 : Nat) : Int) + 1 < 9223372036854775808 := by omega
      have b7 : -9223372036854775808 ≤ ((c % 16 : Nat) : Int) + 1 := by omega
      have q1 : c / 16 < 16 := by omega
      have q2 : c % 16 < 16 := by omega
      have e1 : wrap64 (c : Int) = (c : Int) := w64 _ b0 b1
      have e2 : Int.tdiv (c : Int) 16 = ((c / 16 : Nat) : Int) := (Int.ofNat_tdiv c 16).symm
      have e3 : wrap64 ((c / 16 : Nat) : Int) = ((c / 16 : Nat) : Int) := w64 _ b3 b2
      have e4 : wrap64 (((c / 16 : Nat) : Int) + 1) = ((c / 16 + 1 : Nat) : Int) := w64 _ b5 b4
      have e5 : Int.tmod (c : Int) 16 = ((c % 16 : Nat) : Int) := (Int.ofNat_tmod c 16).symm
      have e6 : wrap64 (((c % 16 : Nat) : Int) + 1) = ((c % 16 + 1 : Nat) : Int) := w64 _ b7 b6
      have e7 := dcut (c / 16) q1
      have e8 := dcut (c % 16) q2
      have t1 : (1 : Int).toNat = 1 := rfl
      refine Ev.congr (fun k => ?_) IH
      rw [hrr]
      simp only [e0, e1, e2, e3, e4, e5, e6, Int.toNat_natCast, e7, e8, t1, hext, s9233, ba_append]
      rw [if_pos (by decide), if_pos g1, if_pos g2, if_pos f1, if_pos f2, if_pos f3, if_pos f4, if_pos f5, if_pos f6, if_pos f7, if_pos f8, if_pos (by decide), if_pos f9, hp]
      simp only [List.append_assoc, List.cons_append, List.nil_append]
    have hrr : rr l = (((decodeL l).1 : Int), ((decodeL l).2 : Int)) := by unfold rr; rw [if_neg c1]
    have g3 : ¬ ((decodeL l).1 : Int) < 0 := by omega
    have g4 : (0 : Int) ≤ ((decodeL l).2 : Int) := by omega
    have g5 : ((decodeL l).2 : Int) ≤ ((ba l).size : Int) := by rw [ba_size]; omega
    by_cases c2 : (decodeL l).1 = 92
    · have hp : piece l = [92, 92] := by unfold piece; rw [if_neg c1, if_pos c2]
      refine Ev.congr (fun k => ?_) IH
      rw [hrr]
      simp only [Int.toNat_natCast, hext, s9292, ba_append]
      rw [if_neg g3, if_pos (by rw [c2]; rfl), if_pos g2, if_pos g4, if_pos g5, hp]
    have c2i : ¬ ((decodeL l).1 : Int) = 92 := by omega
    by_cases c3 : 32 < (decodeL l).1 ∧ (decodeL l).1 < 127
    · have hp : piece l = encodeRune ((decodeL l).1 : Int) := by unfold piece; rw [if_neg c1, if_neg c2, if_pos c3]
      have he := encode_decode l e c1
      have hlen1 : (encodeRune ((decodeL l).1 : Int)).length = 1 := by
        unfold encodeRune
        rw [encodeRuneZ_one (by omega) (by omega)]
        rfl
      have hw1 : (decodeL l).2 = 1 := by
        rw [he, List.length_take] at hlen1
        omega
      rw [hw1] at he
      have hx : (ba l).extract 0 1 = ba (l.take 1) := ba_take l 1
      have k1 : ((decodeL l).1 : Int) ≥ 33 := by omega
      have k2 : ((decodeL l).1 : Int) ≤ 126 := by omega
      have k3 : (1 : Int) ≤ ((ba l).size : Int) := by rw [ba_size]; omega
      have k4 : (ba acc).size + (ba (l.take 1)).size ≤ 9223372036854775807 := by rw [ba_size, ba_size, List.length_take]; omega
      refine Ev.congr (fun k => ?_) IH
      rw [hrr]
      simp only [Int.toNat_natCast, hext, hx]
      rw [if_neg g3, if_neg c2i, if_pos k1, if_pos k2, if_pos (by decide), if_pos k3, if_pos k4, if_pos g4, if_pos g5, ba_append, hp, he]
    · have hp : piece l = [92, 123] ++ hexL (decodeL l).1 ++ [125] := by unfold piece; rw [if_neg c1, if_neg c2, if_neg c3]
      have hh := ref_hex (decodeL l).1 (by omega)
      have hl := hexL_len 5 (decodeL l).1 (by omega)
      have k1 : (ba acc).size + 2 + (ba (hexL (decodeL l).1)).size ≤ 9223372036854775807 := by rw [ba_size, ba_size]; omega
      have k2 : (ba acc).size + 2 + (ba (hexL (decodeL l).1)).size + 1 ≤ 9223372036854775807 := by rw [ba_size, ba_size]; omega
      have key : Ev (fun k => (rootcellarref1_hex.f k ((decodeL l).1 : Int)).bind fun t => (if (ba acc).size + 2 + t.size ≤ 9223372036854775807 then (if (ba acc).size + 2 + t.size + 1 ≤ 9223372036854775807 then (if 0 ≤ ((decodeL l).2 : Int) then (if ((decodeL l).2 : Int) ≤ ((ba l).size : Int) then (rootcellarref1_Quote.l0 k ((ba l).extract ((decodeL l).2 : Int).toNat (ba l).size) (((ba acc ++ (⟨#[92, 123]⟩ : ByteArray)) ++ t) ++ (⟨#[125]⟩ : ByteArray))) else (none)) else (none)) else (none)) else (none))) (ba (acc ++ quoteR l)) := by
        refine Ev.bind hh (Ev.congr (fun k => ?_) IH)
        simp only [Int.toNat_natCast, hext, s92123, s125, ba_append]
        rw [if_pos k1, if_pos k2, if_pos g4, if_pos g5, hp]
        simp only [List.append_assoc]
      refine Ev.congr (fun k => ?_) key
      rw [hrr]
      simp only []
      rw [if_neg g3, if_neg c2i]
      by_cases k3 : ((decodeL l).1 : Int) ≥ 33
      · rw [if_pos k3, if_neg (by omega), if_pos g2]
      · rw [if_neg k3, if_pos g2]
theorem ref_quote (l : List UInt8) (h : l.length ≤ 8000) : Ev (fun k => rootcellarref1_Quote.f k (ba l)) (ba (quoteL l)) := by
  unfold quoteL
  by_cases e : l = []
  · rw [if_pos e]
    exact Ev.congr (f := fun _ => some (ba [92, 95])) (fun k => by unfold rootcellarref1_Quote.f; rw [if_pos (by rw [ba_toList]; exact e)]; rfl) (Ev.now _)
  · rw [if_neg e]
    have := ref_quote_l l [] (by simp; omega)
    rw [List.nil_append] at this
    exact Ev.congr (fun k => by unfold rootcellarref1_Quote.f; rw [if_neg (by rw [ba_toList]; exact e)]; rfl) this
/-! ### value, Bytes -/
def valI (c : Nat) : Int := if 48 ≤ c ∧ c ≤ 57 then (c : Int) - 48 else if 97 ≤ c ∧ c ≤ 102 then (c : Int) - 87 else -1
theorem val_fin : ∀ c : Fin 256, rootcellarref1_value.f 20 (c.val : Int) = some (valI c.val) := by decide +kernel
theorem ref_val (c : UInt8) : Ev (fun k => rootcellarref1_value.f k (c.toNat : Int)) (valI c.toNat) :=
  Ev.of (fun k => rootcellarref1_value.mono _ k) (val_fin ⟨c.toNat, c.toNat_lt⟩)
end Go.Proofs.YtcgpaopbcclbiaaDoor.Pu
end
section
/- The reference's Unquote, in plain words; LabelQuotes. -/


namespace Go.Proofs.YtcgpaopbcclbiaaDoor.Pu
set_option maxRecDepth 20000
open Go Go.Lib Go.RowKit Go.Extern.FmtText Go.Proofs.YtcgpaopbcclbiaaDoor.Pl Go.Proofs.YtcgpaopbcclbiaaDoor.Lf Go.Proofs.YtcgpaopbcclbiaaDoor.Fn Go.Proofs.YtcgpaopbcclbiaaDoorW.PrintWords
def bytesL (n : Nat) : List UInt8 :=
  if n < 128 then [UInt8.ofNat n] else if n < 2048 then [UInt8.ofNat (192 + n / 64), UInt8.ofNat (128 + n % 64)]
  else if n < 65536 then [UInt8.ofNat (224 + n / 4096), UInt8.ofNat (128 + n / 64 % 64), UInt8.ofNat (128 + n % 64)]
  else [UInt8.ofNat (240 + n / 262144), UInt8.ofNat (128 + n / 4096 % 64), UInt8.ofNat (128 + n / 64 % 64), UInt8.ofNat (128 + n % 64)]
theorem bytesL_len (n : Nat) : 1 ≤ (bytesL n).length ∧ (bytesL n).length ≤ 4 := by
  unfold bytesL
  repeat' split
  all_goals simp
theorem bytesL_good (l : List UInt8) (hl : l ≠ []) (hv : ¬ ((decodeL l).1 = 65533 ∧ (decodeL l).2 = 1)) : bytesL (decodeL l).1 = l.take (decodeL l).2 := by
  rw [← encode_decode l hl hv, ← enc_eq]
  have hs : ((decodeL l).1 < 55296 ∨ 57344 ≤ (decodeL l).1) ∧ (decodeL l).1 ≤ 1114111 := by
    refine ⟨?_, decL_lt l⟩
    have h0 := (l.getD 0 0).toNat_lt
    have h1 := (l.getD 1 0).toNat_lt
    rw [decodeL_N] at hv ⊢
    rcases decodeN_shape l.length (l.getD 0 0).toNat (l.getD 1 0).toNat (l.getD 2 0).toNat (l.getD 3 0).toNat with ⟨c, e⟩ | ⟨c1, c2, c3, cv, e⟩ | ⟨c1, c2, c3, c4, cv, cs, e⟩ | ⟨c1, c2, c3, c4, c5, cv, cw, e⟩ | e
    · rw [e]; simp only; omega
    · rw [e]; simp only; omega
    · rw [e]; exact cs
    · rw [e]; simp only; omega
    · rw [e] at hv; exact absurd ⟨rfl, rfl⟩ hv
  generalize (decodeL l).1 = n at hs
  obtain ⟨hs, hm⟩ := hs
  unfold bytesL
  by_cases c1 : n < 128
  · rw [if_pos c1, enc1 n c1]
  by_cases c2 : n < 2048
  · rw [if_neg c1, if_pos c2, enc2 n c1 c2]
  by_cases c3 : n < 65536
  · rw [if_neg c1, if_neg c2, if_pos c3, enc3 n c2 c3 hs]
  · rw [if_neg c1, if_neg c2, if_neg c3, enc4 n c3 hm]
def ints (L : List UInt8) : List Int := L.map fun x => (x.toNat : Int)
theorem ints_app (a b : List UInt8) : ints (a ++ b) = ints a ++ ints b := List.map_append
theorem ints_str (L : List UInt8) : strOfNums (ints L) = ba L := by
  unfold strOfNums ba ints
  congr 2
  rw [List.map_map]
  have e : ((fun (n : Int) => UInt8.ofNat n.toNat) ∘ fun (x : UInt8) => (x.toNat : Int)) = id := by
    funext x
    show UInt8.ofNat ((x.toNat : Int)).toNat = x
    simp
  rw [e, List.map_id]
theorem one_mod (n : Nat) : ((UInt8.ofNat n).toNat : Int) = (n : Int) % 256 := by rw [UInt8.toNat_ofNat']; omega
theorem ref_bytes (n : Nat) (h : n ≤ 1114111) : rootcellarref1_Bytes.f (n : Int) = some (ints (bytesL n)) := by
  have q : ∀ a b : Nat, a ≤ 1114111 → b ≤ 1114111 → wrap64 ((a : Int) + (b : Int)) = ((a + b : Nat) : Int) := fun a b ha hb => w64 _ (by omega) (by omega)
  have d : ∀ b : Nat, 1 ≤ b → wrap64 (Int.tdiv (n : Int) (b : Int)) = ((n / b : Nat) : Int) := fun b hb => by
    rw [← Int.ofNat_tdiv]
    have := Nat.div_le_self n b
    generalize n / b = x at this ⊢
    exact w64 _ (by omega) (by omega)
  have m : ∀ a b : Nat, Int.tmod (a : Int) (b : Int) = ((a % b : Nat) : Int) := fun a b => (Int.ofNat_tmod a b).symm
  have x1 := Nat.le_trans (Nat.div_le_self n 64) h
  have x2 := Nat.le_trans (Nat.div_le_self n 4096) h
  have x3 := Nat.le_trans (Nat.div_le_self n 262144) h
  have y1 : n % 64 ≤ 1114111 := by have := Nat.mod_lt n (show 64 > 0 by decide); omega
  have y2 : n / 64 % 64 ≤ 1114111 := by have := Nat.mod_lt (n / 64) (show 64 > 0 by decide); omega
  have y3 : n / 4096 % 64 ≤ 1114111 := by have := Nat.mod_lt (n / 4096) (show 64 > 0 by decide); omega
  have c1i : (n : Int) < 128 ↔ n < 128 := by clear x1 x2 x3 y1 y2 y3; omega
  have c2i : (n : Int) < 2048 ↔ n < 2048 := by clear x1 x2 x3 y1 y2 y3; omega
  have c3i : (n : Int) < 65536 ↔ n < 65536 := by clear x1 x2 x3 y1 y2 y3; omega
  have d64 : wrap64 (Int.tdiv (n : Int) 64) = ((n / 64 : Nat) : Int) := d 64 (by decide)
  have d4096 : wrap64 (Int.tdiv (n : Int) 4096) = ((n / 4096 : Nat) : Int) := d 4096 (by decide)
  have d262144 : wrap64 (Int.tdiv (n : Int) 262144) = ((n / 262144 : Nat) : Int) := d 262144 (by decide)
  have m64 : Int.tmod (n : Int) 64 = ((n % 64 : Nat) : Int) := m n 64
  have m64a : Int.tmod ((n / 64 : Nat) : Int) 64 = ((n / 64 % 64 : Nat) : Int) := m _ 64
  have m64b : Int.tmod ((n / 4096 : Nat) : Int) 64 = ((n / 4096 % 64 : Nat) : Int) := m _ 64
  have p1 : wrap64 (192 + ((n / 64 : Nat) : Int)) = ((192 + n / 64 : Nat) : Int) := q 192 (n / 64) (by decide) x1
  have p2 : wrap64 (224 + ((n / 4096 : Nat) : Int)) = ((224 + n / 4096 : Nat) : Int) := q 224 (n / 4096) (by decide) x2
  have p3 : wrap64 (240 + ((n / 262144 : Nat) : Int)) = ((240 + n / 262144 : Nat) : Int) := q 240 (n / 262144) (by decide) x3
  have p4 : wrap64 (128 + ((n % 64 : Nat) : Int)) = ((128 + n % 64 : Nat) : Int) := q 128 (n % 64) (by decide) y1
  have p5 : wrap64 (128 + ((n / 64 % 64 : Nat) : Int)) = ((128 + n / 64 % 64 : Nat) : Int) := q 128 (n / 64 % 64) (by decide) y2
  have p6 : wrap64 (128 + ((n / 4096 % 64 : Nat) : Int)) = ((128 + n / 4096 % 64 : Nat) : Int) := q 128 (n / 4096 % 64) (by decide) y3
  clear q d m
  unfold rootcellarref1_Bytes.f bytesL ints
  rw [d64, d4096, d262144, m64, m64a, m64b, p1, p2, p3, p4, p5, p6]
  by_cases c1 : n < 128
  · rw [if_pos c1, if_pos (c1i.2 c1)]; simp only [List.map_cons, List.map_nil, one_mod]
  rw [if_neg c1, if_neg (fun h => c1 (c1i.1 h))]
  by_cases c2 : n < 2048
  · rw [if_pos c2, if_pos (c2i.2 c2)]; simp only [List.map_cons, List.map_nil, one_mod]
  rw [if_neg c2, if_neg (fun h => c2 (c2i.1 h))]
  by_cases c3 : n < 65536
  · rw [if_pos c3, if_pos (c3i.2 c3)]; simp only [List.map_cons, List.map_nil, one_mod]
  · rw [if_neg c3, if_neg (fun h => c3 (c3i.1 h))]; simp only [List.map_cons, List.map_nil, one_mod]
/-! ### one -/
def at' (l : List UInt8) (i : Nat) : Nat := (l.getD i 0).toNat
theorem at_lt (l : List UInt8) (i : Nat) : at' l i < 256 := (l.getD i 0).toNat_lt
def brace (l : List UInt8) : Nat → Nat → Nat → List UInt8 × Nat
  | 0, _, _ => ([], 0)
  | f + 1, i, n => if i < l.length ∧ i < 9 then (if at' l i = 125 ∧ 2 < i ∧ n ≤ 1114111 then (bytesL n, i + 1) else if valI (at' l i) < 0 then ([], 0) else brace l f (i + 1) (16 * n + (valI (at' l i)).toNat)) else ([], 0)
def oneL (l : List UInt8) : List UInt8 × Nat :=
  if at' l 0 ≠ 92 then ([l.getD 0 0], 1) else if 2 ≤ l.length ∧ at' l 1 = 92 then ([92], 2)
  else if 4 ≤ l.length ∧ at' l 1 = 33 ∧ 0 ≤ valI (at' l 2) ∧ 0 ≤ valI (at' l 3) then ([UInt8.ofNat (16 * (valI (at' l 2)).toNat + (valI (at' l 3)).toNat)], 4)
  else if l.length < 4 ∨ at' l 1 ≠ 123 then ([], 0) else brace l 8 2 0
theorem valI_le (c : Nat) : -1 ≤ valI c ∧ valI c ≤ 15 := by
  unfold valI
  repeat' split
  all_goals omega
theorem brace_facts (l : List UInt8) : ∀ f i n, (brace l f i n).2 ≤ l.length ∧ (brace l f i n).1.length ≤ 4
  | 0, i, n => ⟨Nat.zero_le _, Nat.zero_le _⟩
  | f + 1, i, n => by
    unfold brace
    split
    · rename_i h
      split
      · exact ⟨by simp only; omega, (bytesL_len n).2⟩
      · split
        · exact ⟨Nat.zero_le _, Nat.zero_le _⟩
        · exact brace_facts l f _ _
    · exact ⟨Nat.zero_le _, Nat.zero_le _⟩
theorem oneL_facts (l : List UInt8) (hl : l ≠ []) : (oneL l).2 ≤ l.length ∧ (oneL l).1.length ≤ 4 := by
  have := lenp l hl
  unfold oneL
  split
  · exact ⟨this, by simp⟩
  · split
    · rename_i h; exact ⟨h.1, by simp⟩
    · split
      · rename_i h; exact ⟨h.1, by simp⟩
      · split
        · exact ⟨Nat.zero_le _, Nat.zero_le _⟩
        · exact brace_facts l _ _ _
def out1 (x : List UInt8 × Nat) : List Int × Int := (ints x.1, (x.2 : Int))
theorem bt_at' (l : List UInt8) (i : Nat) : bt (ba l) (i : Int) = (at' l i : Int) := bt_all l i
theorem ev_val (l : List UInt8) (i : Nat) : Ev (fun k => rootcellarref1_value.f k (at' l i : Int)) (valI (at' l i)) := ref_val (l.getD i 0)
theorem ev_if {α : Type} {c : Prop} [Decidable c] {A B : Nat → Option α} {r : α} (ha : c → Ev A r) (hb : ¬ c → Ev B r) : Ev (fun k => if c then A k else B k) r := by
  by_cases h : c
  · exact Ev.congr (fun _ => if_pos h) (ha h)
  · exact Ev.congr (fun _ => if_neg h) (hb h)
theorem brace_ev (l : List UInt8) (hl : l.length ≤ 1000000) : ∀ f i n : Nat, 2 ≤ i → i + f = 10 → n < 16 ^ (i - 2) → Ev (fun k => rootcellarref1_one.l0 k (ba l) (n : Int) (i : Int)) (out1 (brace l f i n))
  | 0, i, n, h2, hf, _ => by
    have f1 : ¬ (i : Int) < 9 := by omega
    have no : Ev (fun k => rootcellarref1_one.j4 k (ba l) (n : Int) (i : Int) false) (out1 ([], 0)) := Ev.step (f := fun _ => some _) (fun _ => rfl) (Ev.now _)
    refine Ev.step (f := fun k => if (i : Int) < ((ba l).size : Int) then (rootcellarref1_one.j4 k (ba l) (n : Int) (i : Int) (decide ((i : Int) < 9))) else (rootcellarref1_one.j4 k (ba l) (n : Int) (i : Int) false)) (fun _ => rfl) (ev_if (fun _ => ?_) (fun _ => no))
    rw [decide_eq_false f1]
    exact no
  | f + 1, i, n, h2, hf, hn => by
    have no : Ev (fun k => rootcellarref1_one.j4 k (ba l) (n : Int) (i : Int) false) (out1 ([], 0)) := Ev.step (f := fun _ => some _) (fun _ => rfl) (Ev.now _)
    refine Ev.step (f := fun k => if (i : Int) < ((ba l).size : Int) then (rootcellarref1_one.j4 k (ba l) (n : Int) (i : Int) (decide ((i : Int) < 9))) else (rootcellarref1_one.j4 k (ba l) (n : Int) (i : Int) false)) (fun _ => rfl) ?_
    unfold brace
    rw [ba_size]
    by_cases c1 : i < l.length
    · have c1i : (i : Int) < (l.length : Int) := by omega
      refine Ev.congr (fun _ => if_pos c1i) ?_
      by_cases c2 : i < 9
      · have c2i : (i : Int) < 9 := by omega
        rw [decide_eq_true c2i, if_pos ⟨c1, c2⟩]
        have hp : (16 : Nat) ^ (i - 2) ≤ 16 ^ 6 := Nat.pow_le_pow_right (by decide) (by omega)
        have hn2 : n < 16777216 := Nat.lt_of_lt_of_le hn hp
        have ih : ∀ d, d ≤ 15 → Ev (fun k => rootcellarref1_one.l0 k (ba l) ((16 * n + d : Nat) : Int) ((i + 1 : Nat) : Int)) (out1 (brace l f (i + 1) (16 * n + d))) := fun d hd => brace_ev l hl f (i + 1) (16 * n + d) (by omega) (by omega) (by
          rw [show i + 1 - 2 = (i - 2) + 1 by omega, Nat.pow_succ]
          clear hp hn2
          omega)
        clear hp hn
        have f1 : (0 : Int) ≤ (i : Int) := by omega
        have hv := valI_le (at' l i)
        have c3i : ((at' l i : Nat) : Int) = 125 ↔ at' l i = 125 := by omega
        have c4i : (i : Int) > 2 ↔ 2 < i := by omega
        have c5i : (n : Int) ≤ 1114111 ↔ n ≤ 1114111 := by omega
        have j5no : ¬ (at' l i = 125 ∧ 2 < i ∧ n ≤ 1114111) → Ev (fun k => rootcellarref1_one.j5 k (ba l) (n : Int) (i : Int) false) (out1 (if at' l i = 125 ∧ 2 < i ∧ n ≤ 1114111 then (bytesL n, i + 1) else if valI (at' l i) < 0 then ([], 0) else brace l f (i + 1) (16 * n + (valI (at' l i)).toNat))) := by
          intro hno
          rw [if_neg hno]
          have key : Ev (fun k => (rootcellarref1_value.f k (at' l i : Int)).bind fun t145 => (if t145 < 0 then (some (([] : List Int), 0)) else ((rootcellarref1_value.f k (at' l i : Int)).bind fun t146 => (rootcellarref1_one.l0 k (ba l) (wrap64 ((wrap64 (16 * (n : Int))) + t146)) (wrap64 ((i : Int) + 1)))))) (out1 (if valI (at' l i) < 0 then ([], 0) else brace l f (i + 1) (16 * n + (valI (at' l i)).toNat))) := by
            refine Ev.bind (ev_val l i) ?_
            by_cases cv : valI (at' l i) < 0
            · rw [if_pos cv]
              exact Ev.congr (f := fun _ => some _) (fun _ => if_pos cv) (Ev.now _)
            · rw [if_neg cv]
              refine Ev.congr (fun _ => if_neg cv) (Ev.bind (ev_val l i) ?_)
              obtain ⟨d, hd⟩ := Int.eq_ofNat_of_zero_le (show 0 ≤ valI (at' l i) by omega)
              have hd15 : d ≤ 15 := by omega
              have b1 : (16 * (n : Int)) < 9223372036854775808 := by omega
              have b2 : -9223372036854775808 ≤ (16 * (n : Int)) := by omega
              have b3 : 16 * (n : Int) + (d : Int) < 9223372036854775808 := by omega
              have b4 : -9223372036854775808 ≤ 16 * (n : Int) + (d : Int) := by omega
              have b5 : (i : Int) + 1 < 9223372036854775808 := by omega
              have b6 : -9223372036854775808 ≤ (i : Int) + 1 := by omega
              have b7 : 16 * (n : Int) + (d : Int) = ((16 * n + d : Nat) : Int) := by omega
              have e1 : wrap64 (16 * (n : Int)) = 16 * (n : Int) := w64 _ b2 b1
              have e2 : wrap64 (16 * (n : Int) + (d : Int)) = ((16 * n + d : Nat) : Int) := by rw [w64 _ b4 b3, b7]
              have e3 : wrap64 ((i : Int) + 1) = ((i + 1 : Nat) : Int) := w64 _ b6 b5
              have h2 := ih d hd15
              rw [hd, Int.toNat_natCast]
              exact Ev.congr (fun _ => by rw [e1, e2, e3]) h2
          refine Ev.step (fun k => ?_) key
          simp only [rootcellarref1_one.j5, Bool.false_eq_true, ite_false]
          rw [if_pos f1, ba_size, if_pos c1i, bt_at']
        have j5yes : (at' l i = 125 ∧ 2 < i ∧ n ≤ 1114111) → Ev (fun k => rootcellarref1_one.j5 k (ba l) (n : Int) (i : Int) true) (out1 (if at' l i = 125 ∧ 2 < i ∧ n ≤ 1114111 then (bytesL n, i + 1) else if valI (at' l i) < 0 then ([], 0) else brace l f (i + 1) (16 * n + (valI (at' l i)).toNat))) := by
          intro hyes
          rw [if_pos hyes]
          have b5 : (i : Int) + 1 < 9223372036854775808 := by omega
          have b6 : -9223372036854775808 ≤ (i : Int) + 1 := by omega
          have hb := ref_bytes n hyes.2.2
          have e3 : wrap64 ((i : Int) + 1) = ((i + 1 : Nat) : Int) := w64 _ b6 b5
          refine Ev.step (f := fun _ => some (out1 (bytesL n, i + 1))) (fun k => ?_) (Ev.now _)
          simp only [rootcellarref1_one.j5, ite_true]
          rw [hb]
          simp only [Option.bind_some]
          rw [e3]
          rfl
        refine Ev.step (fun k => by simp only [rootcellarref1_one.j4, ite_true]; rw [if_pos f1, ba_size, if_pos c1i, bt_at']) ?_
        by_cases d1 : at' l i = 125
        · refine Ev.congr (fun _ => if_pos (c3i.2 d1)) ?_
          by_cases d2 : 2 < i
          · refine Ev.congr (fun _ => if_pos (c4i.2 d2)) ?_
            by_cases d3 : n ≤ 1114111
            · rw [decide_eq_true (c5i.2 d3)]
              exact j5yes ⟨d1, d2, d3⟩
            · rw [decide_eq_false (fun h => d3 (c5i.1 h))]
              exact j5no (fun h => d3 h.2.2)
          · exact Ev.congr (fun _ => if_neg (fun h => d2 (c4i.1 h))) (j5no (fun h => d2 h.2.1))
        · exact Ev.congr (fun _ => if_neg (fun h => d1 (c3i.1 h))) (j5no (fun h => d1 h.1))
      · have c2i : ¬ (i : Int) < 9 := by omega
        rw [decide_eq_false c2i, if_neg (fun h => c2 h.2)]
        exact no
    · have c1i : ¬ (i : Int) < (l.length : Int) := by omega
      rw [if_neg (fun h => c1 h.1)]
      exact Ev.congr (fun _ => if_neg c1i) no
set_option maxHeartbeats 1000000 in
theorem one_ev (l : List UInt8) (hl : l ≠ []) (hz : l.length ≤ 1000000) : Ev (fun k => rootcellarref1_one.f k (ba l)) (out1 (oneL l)) := by
  have hp := lenp l hl
  have g0 : (0 : Int) < (l.length : Int) := by omega
  have b0 : bt (ba l) 0 = (at' l 0 : Int) := bt_at' l 0
  have b1 : bt (ba l) 1 = (at' l 1 : Int) := bt_at' l 1
  have b2 : bt (ba l) 2 = (at' l 2 : Int) := bt_at' l 2
  have b3 : bt (ba l) 3 = (at' l 3 : Int) := bt_at' l 3
  have i0 : (at' l 0 : Int) = 92 ↔ at' l 0 = 92 := by omega
  have i1 : (at' l 1 : Int) = 92 ↔ at' l 1 = 92 := by omega
  have i33 : (at' l 1 : Int) = 33 ↔ at' l 1 = 33 := by omega
  have i123 : (at' l 1 : Int) = 123 ↔ at' l 1 = 123 := by omega
  have v2 := valI_le (at' l 2)
  have v3 := valI_le (at' l 3)
  -- the brace
  have rest : Ev (fun k => rootcellarref1_one.j1 k (ba l) false) (out1 (if l.length < 4 ∨ at' l 1 ≠ 123 then ([], 0) else brace l 8 2 0)) := by
    have j2yes : Ev (fun k => rootcellarref1_one.j2 k (ba l) true) (out1 ([], 0)) := Ev.step (f := fun _ => some _) (fun _ => rfl) (Ev.now _)
    by_cases d1 : l.length < 4
    · rw [if_pos (Or.inl d1)]
      have d1i : (l.length : Int) < 4 := by omega
      exact Ev.step (fun k => by simp only [rootcellarref1_one.j1, Bool.false_eq_true, ite_false]; rw [ba_size, if_pos d1i]) j2yes
    · have d1i : ¬ (l.length : Int) < 4 := by omega
      have g1 : (1 : Int) < (l.length : Int) := by omega
      by_cases d2 : at' l 1 = 123
      · rw [if_neg (by rintro (h | h); exact d1 h; exact h d2)]
        have hb := brace_ev l hz 8 2 0 (by omega) (by omega) (by decide)
        have j2no : Ev (fun k => rootcellarref1_one.j2 k (ba l) false) (out1 (brace l 8 2 0)) := Ev.step (fun _ => rfl) hb
        have hne : ((at' l 1 : Int) != 123) = false := by rw [d2]; rfl
        exact Ev.step (fun k => by simp only [rootcellarref1_one.j1, Bool.false_eq_true, ite_false]; rw [ba_size, if_neg d1i, if_pos g1, b1, hne]) j2no
      · rw [if_pos (Or.inr d2)]
        have hne : ((at' l 1 : Int) != 123) = true := by simpa using fun h => d2 (i123.1 h)
        exact Ev.step (fun k => by simp only [rootcellarref1_one.j1, Bool.false_eq_true, ite_false]; rw [ba_size, if_neg d1i, if_pos g1, b1, hne]) j2yes
  have mid : Ev (fun k => rootcellarref1_one.j0 k (ba l) false) (out1 (if 4 ≤ l.length ∧ at' l 1 = 33 ∧ 0 ≤ valI (at' l 2) ∧ 0 ≤ valI (at' l 3) then ([UInt8.ofNat (16 * (valI (at' l 2)).toNat + (valI (at' l 3)).toNat)], 4) else if l.length < 4 ∨ at' l 1 ≠ 123 then ([], 0) else brace l 8 2 0)) := by
    by_cases d1 : 4 ≤ l.length
    · have d1i : (l.length : Int) ≥ 4 := by omega
      have g1 : (1 : Int) < (l.length : Int) := by omega
      have g2 : (2 : Int) < (l.length : Int) := by omega
      have g3 : (3 : Int) < (l.length : Int) := by omega
      by_cases d2 : at' l 1 = 33
      · refine Ev.step (fun k => by simp only [rootcellarref1_one.j0, Bool.false_eq_true, ite_false]; rw [ba_size, if_pos d1i, if_pos g1, b1, if_pos (i33.2 d2), if_pos g2, b2, b3]) (Ev.bind (ev_val l 2) ?_)
        by_cases d3 : valI (at' l 2) ≥ 0
        · refine Ev.congr (fun _ => by rw [if_pos d3, if_pos g3]) (Ev.bind (ev_val l 3) ?_)
          by_cases d4 : valI (at' l 3) ≥ 0
          · rw [if_pos ⟨d1, d2, d3, d4⟩, decide_eq_true d4]
            obtain ⟨a, ha⟩ := Int.eq_ofNat_of_zero_le d3
            obtain ⟨b, hb⟩ := Int.eq_ofNat_of_zero_le d4
            have ea := ev_val l 2
            have eb := ev_val l 3
            rw [ha] at ea v2 ⊢
            rw [hb] at eb v3 ⊢
            have c1 : 16 * (a : Int) < 9223372036854775808 := by omega
            have c2 : -9223372036854775808 ≤ 16 * (a : Int) := by omega
            have c3 : 16 * (a : Int) + (b : Int) < 9223372036854775808 := by omega
            have c4 : -9223372036854775808 ≤ 16 * (a : Int) + (b : Int) := by omega
            have c5 : 16 * (a : Int) + (b : Int) = ((16 * a + b : Nat) : Int) := by omega
            have w1 : wrap64 (16 * (a : Int)) = 16 * (a : Int) := w64 _ c2 c1
            have w2 : wrap64 (16 * (a : Int) + (b : Int)) = ((16 * a + b : Nat) : Int) := by rw [w64 _ c4 c3, c5]
            refine Ev.step (fun k => by simp only [rootcellarref1_one.j1, ite_true, ba_size, if_pos g2, if_pos g3, b2, b3]; rfl) (Ev.bind ea (Ev.bind eb ?_))
            refine Ev.congr (f := fun _ => some _) (fun _ => ?_) (Ev.now _)
            rw [w1, w2, Int.toNat_natCast, Int.toNat_natCast]
            unfold out1 ints
            simp only [List.map_cons, List.map_nil, one_mod]
            rfl
          · rw [if_neg (fun h => d4 h.2.2.2), decide_eq_false d4]
            exact rest
        · rw [if_neg (fun h => d3 h.2.2.1)]
          exact Ev.congr (fun _ => if_neg d3) rest
      · rw [if_neg (fun h => d2 h.2.1)]
        exact Ev.step (fun k => by simp only [rootcellarref1_one.j0, Bool.false_eq_true, ite_false]; rw [ba_size, if_pos d1i, if_pos g1, b1, if_neg (fun h => d2 (i33.1 h))]) rest
    · have d1i : ¬ (l.length : Int) ≥ 4 := by omega
      rw [if_neg (fun h => d1 h.1)]
      exact Ev.step (fun k => by simp only [rootcellarref1_one.j0, Bool.false_eq_true, ite_false]; rw [ba_size, if_neg d1i]) rest
  unfold oneL
  by_cases c0 : at' l 0 = 92
  · rw [if_neg (fun h => h c0)]
    by_cases c1 : 2 ≤ l.length
    · have c1i : (l.length : Int) ≥ 2 := by omega
      have g1 : (1 : Int) < (l.length : Int) := by omega
      refine Ev.congr (f := fun k => rootcellarref1_one.j0 k (ba l) ((at' l 1 : Int) == 92)) (fun k => by unfold rootcellarref1_one.f; rw [ba_size, if_pos g0, b0, if_pos (i0.2 c0), if_pos c1i, if_pos g1, b1]) ?_
      by_cases c2 : at' l 1 = 92
      · have hq : ((at' l 1 : Int) == 92) = true := by rw [c2]; rfl
        rw [hq, if_pos ⟨c1, c2⟩]
        exact Ev.step (f := fun _ => some (out1 ([92], 2))) (fun _ => rfl) (Ev.now _)
      · have hq : ((at' l 1 : Int) == 92) = false := by simpa using fun h => c2 (i1.1 h)
        rw [hq, if_neg (fun h => c2 h.2)]
        exact mid
    · have c1i : ¬ (l.length : Int) ≥ 2 := by omega
      rw [if_neg (fun h => c1 h.1)]
      exact Ev.congr (fun k => by unfold rootcellarref1_one.f; rw [ba_size, if_pos g0, b0, if_pos (i0.2 c0), if_neg c1i]) mid
  · rw [if_pos c0]
    refine Ev.congr (f := fun _ => some _) (fun k => ?_) (Ev.now _)
    unfold rootcellarref1_one.f
    rw [ba_size, if_pos g0, b0, if_neg (fun h => c0 (i0.1 h))]
    rfl
/-! ### Unquote -/
def refGo : Nat → List UInt8 → List UInt8 → Option (List UInt8)
  | 0, _, acc => some acc
  | f + 1, l, acc => if l = [] then some acc else if (oneL l).2 = 0 then none else refGo f (l.drop (oneL l).2) (acc ++ (oneL l).1)
def refUV (l : List UInt8) : List UInt8 × Int := if l = [92, 95] then ([], 0) else unqF l (refGo l.length l [])
def outU (x : List UInt8 × Int) : ByteArray × Int := (ba x.1, x.2)
theorem unq_end (l0 acc : List UInt8) (h : acc.length ≤ 8000) (k0 : Nat → Option (ByteArray × Int)) (hk : ∀ k, k0 k = if ((ints acc).length : Int) = 0 then (some ((⟨#[]⟩ : ByteArray), 2)) else ((rootcellarref1_Quote.f k (strOfNums (ints acc))).bind fun t147 => (if t147.toList = (ba l0).toList then (some (strOfNums (ints acc), 0)) else (some ((⟨#[]⟩ : ByteArray), 2))))) : Ev k0 (outU (unqF l0 (some acc))) := by
  refine Ev.congr hk ?_
  show Ev _ (outU (if acc = [] then (([] : List UInt8), (2 : Int)) else if quoteL acc = l0 then (acc, 0) else ([], 2)))
  have hl : (ints acc).length = acc.length := by unfold ints; rw [List.length_map]
  rw [hl, ints_str]
  by_cases c : acc = []
  · rw [if_pos c]
    exact Ev.congr (f := fun _ => some _) (fun _ => by rw [if_pos (by rw [c]; rfl)]; rfl) (Ev.now _)
  · have hp := lenp acc c
    rw [if_neg c]
    refine Ev.congr (fun _ => if_neg (by omega)) (Ev.bind (ref_quote acc h) ?_)
    rw [ba_toList, ba_toList]
    by_cases q : quoteL acc = l0
    · rw [if_pos q]
      exact Ev.congr (f := fun _ => some _) (fun _ => by rw [if_pos q]; rfl) (Ev.now _)
    · rw [if_neg q]
      exact Ev.congr (f := fun _ => some _) (fun _ => by rw [if_neg q]; rfl) (Ev.now _)
theorem unq_l0 (k : Nat) (x0 x5 : ByteArray) (x4 : List Int) : rootcellarref1_Unquote.l0 (k + 1) x0 x4 x5 = if x5.toList = ([] : List UInt8) then (if (x4.length : Int) = 0 then (some ((⟨#[]⟩ : ByteArray), 2)) else ((rootcellarref1_Quote.f k (strOfNums x4)).bind fun t147 => (if t147.toList = x0.toList then (some (strOfNums x4, 0)) else (some ((⟨#[]⟩ : ByteArray), 2))))) else ((rootcellarref1_one.f k x5).bind fun bt148 => (if bt148.2 = 0 then (some ((⟨#[]⟩ : ByteArray), 2)) else (if x4.length + bt148.1.length < 140737488355328 then (if 0 ≤ bt148.2 then (if bt148.2 ≤ (x5.size : Int) then (rootcellarref1_Unquote.l0 k x0 (x4 ++ bt148.1) (x5.extract (bt148.2 : Int).toNat x5.size)) else (none)) else (none)) else (none)))) := rfl
theorem unq_ev (l0 : List UInt8) : ∀ (m : Nat) (l acc : List UInt8), l.length ≤ m → acc.length + 4 * l.length ≤ 8000 → Ev (fun k => rootcellarref1_Unquote.l0 k (ba l0) (ints acc) (ba l)) (outU (unqF l0 (refGo m l acc)))
  | m, [], acc, _, hb => by
    have e : refGo m [] acc = some acc := by cases m <;> simp [refGo]
    rw [e]
    refine Ev.step (fun k => by rw [unq_l0]; rw [if_pos (by rw [ba_toList])]) (unq_end l0 acc (by simpa using hb) _ (fun _ => rfl))
  | 0, c :: r, acc, h, _ => by simp at h
  | m + 1, c :: r, acc, h, hb => by
    have hne : c :: r ≠ [] := by simp
    generalize c :: r = l at h hb hne
    have hp := lenp l hne
    obtain ⟨o1, o2⟩ := oneL_facts l hne
    have hev := one_ev l hne (by omega)
    rw [refGo, if_neg hne]
    refine Ev.step (fun k => by rw [unq_l0]; rw [if_neg (by rw [ba_toList]; exact hne)]) (Ev.bind hev ?_)
    have li : ∀ L : List UInt8, (ints L).length = L.length := fun L => by unfold ints; rw [List.length_map]
    have IH := unq_ev l0 m (l.drop (oneL l).2) (acc ++ (oneL l).1)
    have hx : ∀ n, (ba l).extract n (ba l).size = ba (l.drop n) := fun n => ba_drop l n
    generalize oneL l = O at o1 o2 IH
    by_cases z : O.2 = 0
    · rw [if_pos z]
      exact Ev.congr (f := fun _ => some _) (fun _ => by unfold out1; rw [if_pos (by simp only; omega)]; rfl) (Ev.now _)
    · rw [if_neg z]
      have IH := IH (by rw [List.length_drop]; omega) (by rw [List.length_append, List.length_drop]; omega)
      rw [ints_app] at IH
      have f1 : ¬ ((O.2 : Nat) : Int) = 0 := by omega
      have f2 : acc.length + O.1.length < 140737488355328 := by omega
      have f3 : (0 : Int) ≤ ((O.2 : Nat) : Int) := by omega
      have f4 : ((O.2 : Nat) : Int) ≤ ((ba l).size : Int) := by rw [ba_size]; omega
      refine Ev.congr (fun _ => ?_) IH
      unfold out1
      simp only
      rw [if_neg f1, li, li, if_pos f2, if_pos f3, if_pos f4, Int.toNat_natCast, hx]
theorem ref_unquote (l : List UInt8) (h : l.length ≤ 1000) : Ev (fun k => rootcellarref1_Unquote.f k (ba l)) (outU (refUV l)) := by
  unfold refUV
  by_cases c : l = [92, 95]
  · rw [if_pos c]
    exact Ev.congr (f := fun _ => some _) (fun k => by unfold rootcellarref1_Unquote.f; rw [if_pos (by rw [ba_toList]; exact c)]; rfl) (Ev.now _)
  · rw [if_neg c]
    exact Ev.congr (fun k => by unfold rootcellarref1_Unquote.f; rw [if_neg (by rw [ba_toList]; exact c)]; rfl) (unq_ev l l.length l [] (Nat.le_refl _) (by simp; omega))
/-! ### a quoted text, unquoted by the reference -/
theorem valI_hd : ∀ n : Fin 16, valI (hd n.val).toNat = n.val := by decide +kernel
theorem val_hd (n : Nat) (h : n < 16) : valI (hd n).toNat = n := valI_hd ⟨n, h⟩
theorem hd125 (n : Nat) (h : n < 16) : (hd n).toNat ≠ 125 := fun e => (hd_ne n h).1 (UInt8.toNat_inj.1 e)
theorem at_app (P Q : List UInt8) (i : Nat) (h : i = P.length) : at' (P ++ Q) i = (Q.headD 0).toNat := by
  subst h
  unfold at'
  rw [List.getD_eq_getElem?_getD, List.getElem?_append_right (Nat.le_refl _), Nat.sub_self]
  cases Q <;> rfl
/-- The digits of a number in base 16, the highest first. -/
def hexD (n : Nat) : List Nat := if _h : n < 16 then [n] else hexD (n / 16) ++ [n % 16]
termination_by n
decreasing_by omega
theorem hexD_lt {n : Nat} (h : n < 16) : hexD n = [n] := by rw [hexD, dif_pos h]
theorem hexD_ge {n : Nat} (h : ¬ n < 16) : hexD n = hexD (n / 16) ++ [n % 16] := by rw [hexD, dif_neg h]
theorem hexD_facts (n : Nat) : hexL n = (hexD n).map hd ∧ (∀ d ∈ hexD n, d < 16) ∧ (hexD n).foldl (fun a d => 16 * a + d) 0 = n := by
  induction n using Nat.strongRecOn with
  | _ n ih =>
    by_cases h : n < 16
    · rw [hexL_lt h, hexD_lt h]
      exact ⟨rfl, by simpa using h, by simp⟩
    · obtain ⟨i1, i2, i3⟩ := ih (n / 16) (by omega)
      have hm : n % 16 < 16 := Nat.mod_lt _ (by decide)
      rw [hexL_ge h, hexD_ge h]
      refine ⟨by rw [i1, List.map_append]; rfl, ?_, ?_⟩
      · intro d hd
        rcases List.mem_append.1 hd with hd | hd
        · exact i2 d hd
        · rw [List.mem_singleton.1 hd]; exact hm
      · rw [List.foldl_append, i3]
        show 16 * (n / 16) + n % 16 = n
        omega
theorem brace_hex (r : List UInt8) : ∀ (ds : List Nat) (P : List UInt8) (f n : Nat), (∀ d ∈ ds, d < 16) → ds.length < f → P.length + ds.length < 9 → 2 < P.length + ds.length → ds.foldl (fun a d => 16 * a + d) n ≤ 1114111 →
    brace (P ++ (ds.map hd ++ 125 :: r)) f P.length n = (bytesL (ds.foldl (fun a d => 16 * a + d) n), P.length + ds.length + 1)
  | [], P, f, n, _, hf, h9, h2, hn => by
    obtain ⟨f, rfl⟩ : ∃ g, f = g + 1 := ⟨f - 1, by simp at hf; omega⟩
    have ha := at_app P (125 :: r) P.length rfl
    simp only [List.map_nil, List.nil_append, List.foldl_nil, List.length_nil, Nat.add_zero] at *
    rw [brace, if_pos ⟨by rw [List.length_append, List.length_cons]; omega, h9⟩, if_pos ⟨ha, h2, hn⟩]
  | d :: ds, P, f, n, hd16, hf, h9, h2, hn => by
    obtain ⟨f, rfl⟩ : ∃ g, f = g + 1 := ⟨f - 1, by simp at hf; omega⟩
    have h16 : d < 16 := hd16 d (by simp)
    have ha : at' (P ++ ((d :: ds).map hd ++ 125 :: r)) P.length = (hd d).toNat := at_app P _ P.length rfl
    simp only [List.length_cons] at hf h9 h2
    have ih := brace_hex r ds (P ++ [hd d]) f (16 * n + d) (fun x hx => hd16 x (by simp [hx])) (by omega) (by rw [List.length_append, List.length_singleton]; omega) (by rw [List.length_append, List.length_singleton]; omega) hn
    rw [brace, if_pos ⟨by rw [List.length_append, List.length_append, List.length_cons]; omega, by omega⟩, if_neg (fun h => hd125 d h16 (by rw [← ha]; exact h.1)), ha, val_hd d h16, if_neg (by omega), Int.toNat_natCast]
    rw [List.length_append, List.length_singleton] at ih
    rw [show P ++ ((d :: ds).map hd ++ 125 :: r) = (P ++ [hd d]) ++ (ds.map hd ++ 125 :: r) by simp, ih]
    simp only [List.foldl_cons, List.length_cons]
    congr 1
    omega
theorem one_piece (l : List UInt8) (hl : l ≠ []) (r : List UInt8) : oneL (piece l ++ r) = (l.take (decodeL l).2, (piece l).length) := by
  by_cases c1 : (decodeL l).1 = 65533 ∧ (decodeL l).2 = 1
  · have h128 := bad_high l hl c1
    have hp : piece l = [92, 33] ++ hexL (l.headD 0).toNat := by unfold piece; rw [if_pos c1]
    rw [c1.2]
    cases l with
    | nil => exact absurd rfl hl
    | cons b t =>
      have hb := b.toNat_lt
      have h128 : 128 ≤ b.toNat := h128
      rw [hp, show (b :: t).headD 0 = b from rfl, hex_two b.toNat (by omega) hb]
      have q1 : b.toNat / 16 < 16 := by omega
      have q2 : b.toNat % 16 < 16 := Nat.mod_lt _ (by decide)
      have w1 := val_hd _ q1
      have w2 := val_hd _ q2
      have e : [92, 33] ++ [hd (b.toNat / 16), hd (b.toNat % 16)] ++ r = 92 :: 33 :: hd (b.toNat / 16) :: hd (b.toNat % 16) :: r := rfl
      rw [e]
      unfold oneL
      have a0 : at' (92 :: 33 :: hd (b.toNat / 16) :: hd (b.toNat % 16) :: r) 0 = 92 := rfl
      have a1 : at' (92 :: 33 :: hd (b.toNat / 16) :: hd (b.toNat % 16) :: r) 1 = 33 := rfl
      have a2 : at' (92 :: 33 :: hd (b.toNat / 16) :: hd (b.toNat % 16) :: r) 2 = (hd (b.toNat / 16)).toNat := rfl
      have a3 : at' (92 :: 33 :: hd (b.toNat / 16) :: hd (b.toNat % 16) :: r) 3 = (hd (b.toNat % 16)).toNat := rfl
      rw [a0, a1, a2, a3, w1, w2, if_neg (by decide), if_neg (by simp), if_pos ⟨by simp, rfl, by omega, by omega⟩, Int.toNat_natCast, Int.toNat_natCast, show 16 * (b.toNat / 16) + b.toNat % 16 = b.toNat by omega]
      simp
  have hgood := bytesL_good l hl c1
  have hlt := decL_lt l
  have henc := encode_decode l hl c1
  by_cases c2 : (decodeL l).1 = 92
  · have hp : piece l = [92, 92] := by unfold piece; rw [if_neg c1, if_pos c2]
    rw [hp, ← hgood, c2]
    have a0 : at' ([92, 92] ++ r) 0 = 92 := rfl
    have a1 : at' ([92, 92] ++ r) 1 = 92 := rfl
    unfold oneL
    rw [a0, a1, if_neg (by decide), if_pos ⟨by simp, rfl⟩]
    rfl
  by_cases c3 : 32 < (decodeL l).1 ∧ (decodeL l).1 < 127
  · have hp : piece l = encodeRune ((decodeL l).1 : Int) := by unfold piece; rw [if_neg c1, if_neg c2, if_pos c3]
    have he : encodeRune ((decodeL l).1 : Int) = [UInt8.ofNat (decodeL l).1] := by
      unfold encodeRune
      rw [encodeRuneZ_one (by omega) (by omega)]
      simp
    have hn : (UInt8.ofNat (decodeL l).1).toNat = (decodeL l).1 := by rw [UInt8.toNat_ofNat']; omega
    rw [hp, ← henc, he]
    unfold oneL
    have a0 : at' ([UInt8.ofNat (decodeL l).1] ++ r) 0 = (decodeL l).1 := hn
    rw [a0, if_pos c2]
    rfl
  · have hp : piece l = [92, 123] ++ hexL (decodeL l).1 ++ [125] := by unfold piece; rw [if_neg c1, if_neg c2, if_neg c3]
    rw [hp, ← hgood]
    obtain ⟨f1, f2, f3⟩ := hexD_facts (decodeL l).1
    have hlen := hexL_len 5 (decodeL l).1 (by omega)
    have hpos := hexL_pos (decodeL l).1
    have hll : (hexL (decodeL l).1).length = (hexD (decodeL l).1).length := by rw [f1, List.length_map]
    rw [f1]
    generalize (decodeL l).1 = R at *
    have e : [92, 123] ++ (hexD R).map hd ++ [125] ++ r = ([92, 123] : List UInt8) ++ ((hexD R).map hd ++ 125 :: r) := by simp
    rw [e]
    have hb := brace_hex r (hexD R) [92, 123] 8 0 f2 (by omega) (by simp; omega) (by simp; omega) (by rw [f3]; exact hlt)
    have a0 : at' (([92, 123] : List UInt8) ++ ((hexD R).map hd ++ 125 :: r)) 0 = 92 := rfl
    have a1 : at' (([92, 123] : List UInt8) ++ ((hexD R).map hd ++ 125 :: r)) 1 = 123 := rfl
    unfold oneL
    rw [a0, a1, if_neg (by decide), if_neg (by simp), if_neg (by simp), if_neg (by
      rintro (h | h)
      · simp only [List.length_append, List.length_cons, List.length_map, List.length_nil] at h; omega
      · exact h rfl)]
    rw [show ([92, 123] : List UInt8).length = 2 from rfl, f3] at hb
    rw [hb]
    simp only [List.length_append, List.length_cons, List.length_map, List.length_nil]
theorem refGo_quote : ∀ (m : Nat) (l acc : List UInt8) (n : Nat), l.length ≤ m → (quoteR l).length ≤ n → refGo n (quoteR l) acc = some (acc ++ l)
  | _, [], acc, n, _, _ => by
    rw [quoteR_nil, List.append_nil]
    cases n <;> simp [refGo]
  | 0, c :: r, acc, n, h, _ => by simp at h
  | m + 1, c :: r, acc, n, h, hn => by
    have hne : c :: r ≠ [] := by simp
    generalize c :: r = l at h hn hne
    have hs := drop_short l hne
    have htd := List.take_append_drop (decodeL l).2 l
    have hq := quoteR_cons l hne
    have hpp : 1 ≤ (piece l).length := by
      rcases kinds l hne with ⟨c, h1, h2, h3, hp, ht⟩ | ⟨q, hp, hm⟩
      · rw [hp]; simp
      · rw [hp]; simp
    have hqn : quoteR l ≠ [] := fun e => by
      rw [hq] at e
      have := congrArg List.length e
      rw [List.length_append, List.length_nil] at this
      omega
    have h1 := one_piece l hne (quoteR (l.drop (decodeL l).2))
    rw [← hq] at h1
    have hlq : (quoteR l).length = (piece l).length + (quoteR (l.drop (decodeL l).2)).length := by rw [hq, List.length_append]
    cases n with
    | zero => omega
    | succ n =>
      rw [refGo, if_neg hqn, h1, if_neg (by simp only; omega)]
      simp only
      have hd : (quoteR l).drop (piece l).length = quoteR (l.drop (decodeL l).2) := by rw [hq, List.drop_left]
      rw [hd, refGo_quote m (l.drop (decodeL l).2) (acc ++ l.take (decodeL l).2) n (by omega) (by omega), List.append_assoc, htd]
theorem refUV_quote (l : List UInt8) : refUV (quoteL l) = (l, 0) := by
  unfold refUV quoteL
  by_cases e : l = []
  · rw [if_pos e, if_pos rfl, e]
  · have h := refGo_quote l.length l [] (quoteR l).length (Nat.le_refl _) (Nat.le_refl _)
    rw [List.nil_append] at h
    rw [if_neg e, if_neg (quoteR_odd l), h]
    show (if l = [] then (([] : List UInt8), (2 : Int)) else if quoteL l = quoteR l then (l, 0) else ([], 2)) = (l, 0)
    rw [if_neg e, if_pos (by unfold quoteL; rw [if_neg e])]
theorem refUV_form (l : List UInt8) : refUV l = ([], 2) ∨ ∃ T, quoteL T = l ∧ refUV l = (T, 0) := by
  unfold refUV
  by_cases e : l = [92, 95]
  · rw [if_pos e]; exact Or.inr ⟨[], by rw [e]; rfl, rfl⟩
  · rw [if_neg e]; exact unqF_form l _
theorem unquote_eq (l : List UInt8) : unqV l = refUV l := by
  rcases unqV_form l with h1 | ⟨T, hT, h1⟩
  · rcases refUV_form l with h2 | ⟨T, hT, h2⟩
    · rw [h1, h2]
    · rw [← hT, unqV_quote, refUV_quote]
  · rw [← hT, unqV_quote, refUV_quote]
theorem LabelQuotes (a0 : ByteArray) (_h0 : a0.size ≤ maxLen) : ∃ k, rootcellarlaw1_LabelQuotes.f k a0 = some true := by
  apply Ev.rounds
  obtain ⟨l, rfl⟩ := ex_ba a0
  refine Ev.congr (f := fun k => rootcellarlaw1_LabelQuotes.j0 k (ba l) true (decide (((ba l).size : Int) > 600))) (fun k => by unfold rootcellarlaw1_LabelQuotes.f; rw [shown1]; rfl) ?_
  by_cases c : ((ba l).size : Int) > 600
  · rw [decide_eq_true c]
    exact Ev.step (f := fun _ => some true) (fun _ => rfl) (Ev.now _)
  · rw [decide_eq_false c]
    rw [ba_size] at c
    have hu := unq_f l (by omega)
    have hq := quote_eq l (by omega)
    refine Ev.step (fun k => by simp only [rootcellarlaw1_LabelQuotes.j0, Bool.false_eq_true, ite_false, hu, hq, Option.bind_some]; rfl) (Ev.bind (ref_unquote l (by omega)) (Ev.bind (ref_quote l (by omega)) ?_))
    rw [unquote_eq]
    exact Ev.congr (f := fun _ => some true) (fun _ => by unfold outU; rw [if_pos rfl, if_pos rfl]; simp) (Ev.now _)
end Go.Proofs.YtcgpaopbcclbiaaDoor.Pu
end
section
/- What rows of this list of laid variables share: what is laid, and the witness' world. -/






















namespace Go.Proofs.YtcgpaopbcclbiaaDoor.RowB0
open Go.Shelf Go.ChangeShapes Go.WideShapes Go.ChangeAt Go.RowKit Go.Lib Go.Deep
theorem own : ownKnob Tryd.prog.godebug = none := by kernel_rfl
theorem laidOut : laidOutB Tryd.prog = true := by kernel_rfl
def litOf : DataW Unit → Value
  | .lit (.int k z) => .int k z
  | _ => .bool false
/-- The cells that an array of numbers, or of pairs of numbers, takes. -/
def cellsOf : DataW Unit → List Value
  | .agg l => l.flatMap fun | .agg m => m.map litOf | x => [litOf x]
  | x => [litOf x]
theorem tabIs_of_reads {P : Program} {W : World} {name : String} {k : IntKind} {zs : List Int} {g : Nat} {t e : TypeId} {n : Nat}
    (hg : P.globalNamed name = some g) (hty : (P.globals[g]?).map (·.type) = some t) (ht : P.underlying t = some (.array n e)) (he : P.underlying e = some (.int k)) (hce : P.cellsOf e = 1) (hct : P.cellsOf t = n)
    (h : VarReads P W name (tabData k zs)) : TabIs P W name k zs := by
  obtain ⟨g', t', cs, fuel, p, hg', ht', hvar, hd⟩ := h
  obtain rfl := Option.some.inj (hg.symm.trans hg')
  obtain rfl := Option.some.inj (hty.symm.trans ht')
  unfold TabIs
  rw [hvar, ← cells_of_tab ht he hce hct hd]
theorem accept_eq : (Rows.laid_unicode_utf8_acceptRanges : DataW Unit) = acceptData := by kernel_rfl
theorem first_eq : Rows.laid_unicode_utf8_first = firstData := by unfold Rows.laid_unicode_utf8_first; exact Pinned.utf8First_eq
def dbZ : List Int := Lib.deBruijn64tab.map fun (n : Nat) => (n : Int)
theorem db_eq : (Rows.laid_math_bits_deBruijn64tab : DataW Unit) = tabData .u8 dbZ := by kernel_rfl
theorem db_at {W : World} (h : TabIs Tryd.prog W "math/bits.deBruijn64tab" .u8 dbZ) : W.cell? ⟨7, 15, none⟩ = some (.int .u8 4) := by
  have c := h.cell (g := 7) (by kernel_rfl) 15 (by decide +kernel)
  have e : dbZ.getD 15 0 = 4 := by decide +kernel
  rw [e] at c
  exact c
abbrev laids : List (String × DataW Unit) := [("math/bits.deBruijn32tab", Rows.laid_math_bits_deBruijn32tab), ("math/bits.deBruijn64tab", Rows.laid_math_bits_deBruijn64tab), ("internal/strconv.uint64pow10", Rows.laid_internal_strconv_uint64pow10), ("unicode/utf8.acceptRanges", Rows.laid_unicode_utf8_acceptRanges), ("strconv.ErrRange", Rows.laid_strconv_ErrRange), ("strconv.ErrSyntax", Rows.laid_strconv_ErrSyntax), ("unicode/utf8.first", Rows.laid_unicode_utf8_first)]
theorem star : "*" ++ "errors.errorString" = "*errors.errorString" := by decide
theorem row_err (u : TypeId) (h : Tryd.prog.typeName? 3 u = some "*errors.errorString") : u = 96 :=
  typeName_ptr_named (nm := "errors.errorString") (by rw [star]; kernel_rfl) (by kernel_rfl) (by decide) u (by rw [star]; exact h)
theorem max_len {W : World} (h : W.ShapedOpen Tryd.prog) : ∃ m, W.cell? ⟨2, 0, none⟩ = some (.int .i64 m) :=
  cell_of_shapedOpen_int (zero := #[.int .i64 0]) (t := 3) h (of_decide_eq_true (by kernel_rfl)) (by kernel_rfl) rfl (by kernel_rfl) (by kernel_rfl) Tryd.underlying3
theorem err_at {W : World} {n : String} {g : Nat} {text : List UInt8} {r : List (String × DataW Unit)} (h : laidMet Tryd.prog ((n, .iface "*errors.errorString" (.ptr (.agg [.lit (.string text)]))) :: r) W)
    (hg : Tryd.prog.globalNamed n = some g) (ht : (Tryd.prog.globals[g]?).map (·.type) = some 38) : ∃ te pe, W.cell? ⟨g, 0, none⟩ = some (.iface te pe) := by
  obtain ⟨a, s, hv, _⟩ := laid_sentinel h hg ht Tryd.underlying38 row_err Tryd.underlying96 Tryd.underlying98 rfl rfl Tryd.underlying9 (by kernel_rfl) (by kernel_rfl)
  exact ⟨_, _, by simpa using World.var?_cell hg hv 0⟩
theorem tabs {W : World} (h : laidMetH Tryd.prog laids W) (hS : W.ShapedOpen Tryd.prog) : Lf.Tabs W := by
  have h' : laidMet Tryd.prog laids W := h
  have h1 := Lib.laidMet.reads h' (n := "unicode/utf8.acceptRanges") (.tail _ (.tail _ (.tail _ (.head _))))
  have h2 := Lib.laidMet.reads h' (n := "unicode/utf8.first") (.tail _ (.tail _ (.tail _ (.tail _ (.tail _ (.tail _ (.head _)))))))
  rw [accept_eq] at h1
  rw [first_eq] at h2
  have h3 := Lib.laidMet.reads h' (n := "math/bits.deBruijn64tab") (.tail _ (.head _))
  rw [db_eq] at h3
  have hes := err_at h'.tail.tail.tail.tail.tail (g := 3) (by kernel_rfl) (by kernel_rfl)
  have her := err_at h'.tail.tail.tail.tail (g := 4) (by kernel_rfl) (by kernel_rfl)
  exact ⟨utf8Tabs_of_readsT (U8Types.of196 Lf.laysValid) ⟨by kernel_rfl, by kernel_rfl, by kernel_rfl, by kernel_rfl, by kernel_rfl, by kernel_rfl, by kernel_rfl⟩ h2 h1, db_at (tabIs_of_reads (g := 7) (t := 101) (e := 5) (n := 64) (by kernel_rfl) (by kernel_rfl) Tryd.underlying101 Tryd.underlying5 (by kernel_rfl) (by kernel_rfl) h3), ⟨max_len hS, hes, her⟩⟩
/-- A world for the witness: the settled one, the laid variables holding what their initialisers lay. -/
noncomputable def low : Nat := (World.holding Tryd.prog default ⟨#[], #[], []⟩).heap.size
noncomputable def laidWorld (os : Os) : World :=
  let w0 := World.holding Tryd.prog os ⟨#[.cells #[.string ⟨#[118, 97, 108, 117, 101, 32, 111, 117, 116, 32, 111, 102, 32, 114, 97, 110, 103, 101]⟩] 98, .cells #[.string ⟨#[105, 110, 118, 97, 108, 105, 100, 32, 115, 121, 110, 116, 97, 120]⟩] 98], #[], []⟩
  let put (h : Array Obj) (g : Nat) (cs : Array Value) : Array Obj := h.modify g fun
    | .cells _ t frozen => .cells cs t frozen
    | o => o
  let h0 := put w0.heap 6 (cellsOf Rows.laid_math_bits_deBruijn32tab).toArray
  let h1 := put h0 7 (cellsOf Rows.laid_math_bits_deBruijn64tab).toArray
  let h2 := put h1 5 (cellsOf Rows.laid_internal_strconv_uint64pow10).toArray
  let h3 := put h2 1 (cellsOf Rows.laid_unicode_utf8_acceptRanges).toArray
  let h4 := put h3 4 #[.iface 96 (.pointer (some ⟨low + 0, 0, none⟩))]
  let h5 := put h4 3 #[.iface 96 (.pointer (some ⟨low + 1, 0, none⟩))]
  let h6 := put h5 0 (Lib.firstTab.map fun z => Value.int .u8 z).toArray
  { w0 with heap := h6 }
theorem laid_met (os : Os) (args : Array Value) : laidMet Tryd.prog laids ((laidWorld os).forCall (fun _ _ => 0) ⟨#[], args, []⟩).memory := by
  unfold laids
  rw [first_eq]
  exact laidMet_of_run' 8 (by kernel_rfl) (by kernel_rfl)
end Go.Proofs.YtcgpaopbcclbiaaDoor.RowB0
end
section
/- Arguments of the rows, opened: a number, a truth value, a text. -/














namespace Go.Proofs.YtcgpaopbcclbiaaDoor.RowN
open Go.Shelf Go.ChangeShapes Go.WideShapes Go.ChangeAt Go.RowKit Go.Lib Go.Deep
open Go.ChangeMaps (open_string shut_string)
set_option maxRecDepth 100000
section
variable {H : Type} {enc : TypeId × Value → H} {W : World} {base b0 : Nat} {sp : Nat → Bool} {held : Bool}
theorem open_num {t : TypeId} {k : IntKind} (ht : Tryd.prog.underlying t = some (.int k)) {r : Reach} {v : Value} {d : DataW H} {p : List MemPlace} (hv : Value.okWide Tryd.prog W r b0 t v)
    (h : DataW.Trod enc Tryd.prog W base sp held t v d p) : ∃ a : Int, v = .int k a ∧ (Lit.int k a).wf = true := by
  obtain ⟨a, rfl, _, _, w⟩ := open_int ht hv h
  exact ⟨a, rfl, w⟩
theorem open_truth {t : TypeId} (ht : Tryd.prog.underlying t = some .bool) {r : Reach} {v : Value} {d : DataW H} {p : List MemPlace} (hv : Value.okWide Tryd.prog W r b0 t v)
    (h : DataW.Trod enc Tryd.prog W base sp held t v d p) : ∃ a : Bool, v = .bool a := by
  obtain ⟨a, rfl, _⟩ := open_bool ht hv h
  exact ⟨a, rfl⟩
theorem open_text {t : TypeId} (ht : Tryd.prog.underlying t = some .string) {r : Reach} {v : Value} {d : DataW H} {p : List MemPlace} (hv : Value.okWide Tryd.prog W r b0 t v)
    (h : DataW.Trod enc Tryd.prog W base sp held t v d p) : ∃ s : ByteArray, v = .string s ∧ s.size ≤ maxLen := by
  obtain ⟨s, rfl, _, _, w⟩ := open_string ht hv h
  exact ⟨s, rfl, w⟩
theorem int_b {a : Int} (w : (Lit.int .i64 a).wf = true) : -9223372036854775808 ≤ a ∧ a ≤ 9223372036854775807 := bounds_i64 w
theorem u64_b {a : Int} (w : (Lit.int .u64 a).wf = true) : 0 ≤ a ∧ a < 18446744073709551616 := by have := bounds_u64 w; omega
theorem u32_b {a : Int} (w : (Lit.int .u32 a).wf = true) : 0 ≤ a ∧ a < 4294967296 := by have := bounds_u32 w; omega
theorem u8_b {a : Int} (w : (Lit.int .u8 a).wf = true) : 0 ≤ a ∧ a < 256 := by have := bounds_u8 w; omega
end
end Go.Proofs.YtcgpaopbcclbiaaDoor.RowN
end
