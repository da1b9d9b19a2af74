-- Packed by pack.py, a program of this session, out of texts of this claim.
import Derived.Test.YtapkghkcaflkmaaDoorPlBytes
import Derived.Test.YtapkghkcaflkmaaDoorLfRight
import Derived.Test.YtapkghkcaflkmaaDoorClLabelPlain1
import Derived.Test.YtapkghkcaflkmaaDoorClLabelPlain0
import Derived.Test.YtapkghkcaflkmaaDoorPlRunes
import Derived.Test.YtapkghkcaflkmaaDoorPlRunes2
import Derived.Test.YtapkghkcaflkmaaDoorClLabelPlain2
import Derived.Test.YtapkghkcaflkmaaDoorRows
import Derived.Test.YtapkghkcaflkmaaDoorLfQuote
import Derived.Lib.LaidU8T
import Derived.Lib.LaidTab
import Derived.Lib.LaidU8
import Derived.PinnedBridge
import Derived.WalkKit
import Derived.ProofKit
import Derived.OpenShut
import Derived.ChangeOld
import Derived.Below
import Derived.SizedLaws
import Derived.Carry
import Derived.Deep.DeepHandedRow
import Derived.Deep.DeepWitnessRowRef
import Derived.Deep.Fields
import Derived.Deep.DeepLaidRun
import Derived.Lib.TrailingZeros
import Derived.ChangeShapes
import Derived.Lib.SmallJoins
section
/- Small words: a byte of a text, a sum that does not overflow. -/





namespace Go.Proofs.YtapkghkcaflkmaaDoor.Pu
open Go Go.RowKit Go.Proofs.YtapkghkcaflkmaaDoor.Pl Go.Proofs.YtapkghkcaflkmaaDoorW.PrintWords
theorem w64 (x : Int) (h0 : -9223372036854775808 ≤ x) (h1 : x < 9223372036854775808) : wrap64 x = x := by unfold wrap64; omega
theorem bt_ba (l : List UInt8) (i : Nat) (h : i < l.length) : bt (ba l) (i : Int) = ((l[i]'h).toNat : Int) := by
  unfold bt
  have h2 : (i : Int).toNat < (ba l).size := by rw [ba_size]; simpa using h
  rw [dif_pos h2]
  have : (ba l)[(i : Int).toNat]'h2 = l[i]'h := by
    show (ba l).data[(i : Int).toNat]'h2 = _
    simp [ba]
  rw [this]
end Go.Proofs.YtapkghkcaflkmaaDoor.Pu
end
section
/- What the printed reference to label tells: its runes are the decoder's own. -/



namespace Go.Proofs.YtapkghkcaflkmaaDoor.Pu
open Go Go.Lib Go.RowKit Go.Proofs.YtapkghkcaflkmaaDoor.Pl Go.Proofs.YtapkghkcaflkmaaDoor.Lf Go.Proofs.YtapkghkcaflkmaaDoor.Fn Go.Proofs.YtapkghkcaflkmaaDoorW.PrintWords
theorem bt_all (l : List UInt8) (i : Nat) : bt (ba l) (i : Int) = ((l.getD i 0).toNat : Int) := by
  by_cases h : i < l.length
  · rw [bt_ba l i h, List.getD_eq_getElem?_getD, List.getElem?_eq_getElem h]; rfl
  · unfold bt
    rw [dif_neg (by rw [ba_size]; simpa using h), List.getD_eq_getElem?_getD, List.getElem?_eq_none (by omega)]
    rfl
theorem more_eq (l : List UInt8) (i : Nat) : rootcellarref1_more.f (ba l) (i : Int) = some (decide (i < l.length ∧ 128 ≤ (l.getD i 0).toNat ∧ (l.getD i 0).toNat ≤ 191)) := by
  unfold rootcellarref1_more.f
  rw [ba_size, bt_all]
  generalize (l.getD i 0).toNat = b
  by_cases h1 : i < l.length
  · rw [if_pos (by omega), if_pos (by omega)]
    by_cases h2 : 128 ≤ b
    · rw [if_pos (by omega)]
      by_cases h3 : b ≤ 191
      · rw [decide_eq_true (by omega), decide_eq_true ⟨h1, h2, h3⟩]
      · rw [decide_eq_false (by omega), decide_eq_false (by omega)]
    · rw [if_neg (by omega), decide_eq_false (by omega)]
  · rw [if_neg (by omega), decide_eq_false (by omega)]
def refN (n b0 b1 b2 b3 : Nat) : Int × Int :=
  if b0 < 128 then ((b0 : Int), 1)
  else if (194 ≤ b0 ∧ b0 ≤ 223) ∧ (1 < n ∧ 128 ≤ b1 ∧ b1 ≤ 191) then (((b0 : Int) - 192) * 64 + b1 - 128, 2)
  else if (224 ≤ b0 ∧ b0 ≤ 239) ∧ (1 < n ∧ 128 ≤ b1 ∧ b1 ≤ 191) ∧ (2 < n ∧ 128 ≤ b2 ∧ b2 ≤ 191) ∧ (2048 ≤ ((b0 : Int) - 224) * 4096 + ((b1 : Int) - 128) * 64 + b2 - 128 ∧ ¬ (55296 ≤ ((b0 : Int) - 224) * 4096 + ((b1 : Int) - 128) * 64 + b2 - 128 ∧ ((b0 : Int) - 224) * 4096 + ((b1 : Int) - 128) * 64 + b2 - 128 ≤ 57343)) then (((b0 : Int) - 224) * 4096 + ((b1 : Int) - 128) * 64 + b2 - 128, 3)
  else if (240 ≤ b0 ∧ b0 ≤ 244) ∧ (1 < n ∧ 128 ≤ b1 ∧ b1 ≤ 191) ∧ (2 < n ∧ 128 ≤ b2 ∧ b2 ≤ 191) ∧ (3 < n ∧ 128 ≤ b3 ∧ b3 ≤ 191) ∧ (65536 ≤ ((b0 : Int) - 240) * 262144 + ((b1 : Int) - 128) * 4096 + ((b2 : Int) - 128) * 64 + b3 - 128 ∧ ((b0 : Int) - 240) * 262144 + ((b1 : Int) - 128) * 4096 + ((b2 : Int) - 128) * 64 + b3 - 128 ≤ 1114111) then (((b0 : Int) - 240) * 262144 + ((b1 : Int) - 128) * 4096 + ((b2 : Int) - 128) * 64 + b3 - 128, 4)
  else (-1, 1)
theorem refN_eq (n b0 b1 b2 b3 : Nat) (h0 : b0 < 256) (h1 : b1 < 256) (h2 : b2 < 256) (h3 : b3 < 256) :
    refN n b0 b1 b2 b3 = if (decodeN n b0 b1 b2 b3).1 = 65533 ∧ (decodeN n b0 b1 b2 b3).2 = 1 then ((-1 : Int), (1 : Int)) else (((decodeN n b0 b1 b2 b3).1 : Int), ((decodeN n b0 b1 b2 b3).2 : Int)) := by
  unfold refN decodeN
  repeat' split
  all_goals first | rfl | (exfalso; omega) | (apply Prod.ext <;> simp only <;> omega) | skip
theorem wb (b : Nat) (h : b < 256) : wrap64 (b : Int) = b := by unfold wrap64; omega
theorem wa2 (b0 b1 : Nat) (h0 : b0 < 256) (h1 : b1 < 256) : wrap64 (wrap64 (wrap64 (wrap64 ((b0 : Int) - 192) * 64) + b1) - 128) = ((b0 : Int) - 192) * 64 + b1 - 128 := by unfold wrap64; omega
theorem wa3 (b0 b1 b2 : Nat) (h0 : b0 < 256) (h1 : b1 < 256) (h2 : b2 < 256) : wrap64 (wrap64 (wrap64 (wrap64 (wrap64 ((b0 : Int) - 224) * 4096) + wrap64 (wrap64 ((b1 : Int) - 128) * 64)) + b2) - 128) = ((b0 : Int) - 224) * 4096 + ((b1 : Int) - 128) * 64 + b2 - 128 := by unfold wrap64; omega
theorem wa4 (b0 b1 b2 b3 : Nat) (h0 : b0 < 256) (h1 : b1 < 256) (h2 : b2 < 256) (h3 : b3 < 256) : wrap64 (wrap64 (wrap64 (wrap64 (wrap64 (wrap64 ((b0 : Int) - 240) * 262144) + wrap64 (wrap64 ((b1 : Int) - 128) * 4096)) + wrap64 (wrap64 ((b2 : Int) - 128) * 64)) + b3) - 128) = ((b0 : Int) - 240) * 262144 + ((b1 : Int) - 128) * 4096 + ((b2 : Int) - 128) * 64 + b3 - 128 := by unfold wrap64; omega
def c3 (b0 b1 b2 : Nat) : Int := ((b0 : Int) - 224) * 4096 + ((b1 : Int) - 128) * 64 + b2 - 128
def c4 (b0 b1 b2 b3 : Nat) : Int := ((b0 : Int) - 240) * 262144 + ((b1 : Int) - 128) * 4096 + ((b2 : Int) - 128) * 64 + b3 - 128
section
variable (s : ByteArray) (n b0 b1 b2 b3 : Nat) (h0 : b0 < 256) (h1 : b1 < 256) (h2 : b2 < 256) (h3 : b3 < 256) (S : (s.size : Int) = n)
    (B0 : bt s 0 = b0) (B1 : bt s 1 = b1) (B2 : bt s 2 = b2) (B3 : bt s 3 = b3)
include h0 h1 h2 h3 S B1 B2 B3
theorem rj3 (k : Nat) (q : Bool) (hq : q = true → 3 < n) : rootcellarref1_Rune.j3 (k + 1) s b0 q = some (if q = true ∧ (65536 ≤ c4 b0 b1 b2 b3 ∧ c4 b0 b1 b2 b3 ≤ 1114111) then (c4 b0 b1 b2 b3, 4) else (-1, 1)) := by
  cases q
  · rfl
  · have hn := hq rfl
    have g1 : (1 : Int) < n := by omega
    have g2 : (2 : Int) < n := by omega
    have g3 : (3 : Int) < n := by omega
    simp only [rootcellarref1_Rune.j3, S, if_pos g1, if_pos g2, if_pos g3, if_true, B1, B2, B3, wb b1 h1, wb b2 h2, wb b3 h3, wa4 b0 b1 b2 b3 h0 h1 h2 h3]
    show (if c4 b0 b1 b2 b3 ≥ 65536 then _ else _) = _
    by_cases x : c4 b0 b1 b2 b3 ≥ 65536
    · rw [if_pos x]
      by_cases y : c4 b0 b1 b2 b3 ≤ 1114111
      · rw [if_pos (show ((b0 : Int) - 240) * 262144 + ((b1 : Int) - 128) * 4096 + ((b2 : Int) - 128) * 64 + b3 - 128 ≤ 1114111 from y), if_pos ⟨trivial, x, y⟩]; rfl
      · rw [if_neg (show ¬ ((b0 : Int) - 240) * 262144 + ((b1 : Int) - 128) * 4096 + ((b2 : Int) - 128) * 64 + b3 - 128 ≤ 1114111 from y), if_neg (fun h => y h.2.2)]
    · rw [if_neg x, if_neg (fun h => x h.2.1)]
variable (m1 m2 m3 : Bool) (M1 : rootcellarref1_more.f s 1 = some m1) (M2 : rootcellarref1_more.f s 2 = some m2) (M3 : rootcellarref1_more.f s 3 = some m3) (q1 : m1 = true → 1 < n) (q2 : m2 = true → 2 < n) (q3 : m3 = true → 3 < n)
include M1 M2 M3 q3
theorem rj2 (k : Nat) : rootcellarref1_Rune.j2 (k + 2) s b0 = some (if (240 ≤ b0 ∧ b0 ≤ 244) ∧ m1 = true ∧ m2 = true ∧ m3 = true ∧ (65536 ≤ c4 b0 b1 b2 b3 ∧ c4 b0 b1 b2 b3 ≤ 1114111) then (c4 b0 b1 b2 b3, 4) else (-1, 1)) := by
  have J := fun q hq => rj3 s n b0 b1 b2 b3 h0 h1 h2 h3 S B1 B2 B3 k q hq
  have Jf := J false (fun h => by cases h)
  have J3 := J m3 q3
  rw [if_neg (by simp)] at Jf
  simp only [rootcellarref1_Rune.j2, M1, M2, M3, Option.bind_some]
  by_cases x : 240 ≤ b0
  · rw [if_pos (show (b0 : Int) ≥ 240 by omega)]
    by_cases y : b0 ≤ 244
    · rw [if_pos (show (b0 : Int) ≤ 244 by omega)]
      cases m1
      · rw [if_neg (by decide), Jf, if_neg (by simp)]
      · cases m2
        · rw [if_pos rfl, if_neg (by decide), Jf, if_neg (by simp)]
        · rw [if_pos rfl, if_pos rfl, J3]
          congr 1
          by_cases z : m3 = true ∧ (65536 ≤ c4 b0 b1 b2 b3 ∧ c4 b0 b1 b2 b3 ≤ 1114111)
          · rw [if_pos z, if_pos ⟨⟨x, y⟩, rfl, rfl, z⟩]
          · rw [if_neg z, if_neg (fun h => z h.2.2.2)]
    · rw [if_neg (show ¬ (b0 : Int) ≤ 244 by omega), Jf, if_neg (fun h => y h.1.2)]
  · rw [if_neg (show ¬ (b0 : Int) ≥ 240 by omega), Jf, if_neg (fun h => x h.1.1)]
include q2
theorem rj1 (k : Nat) (q : Bool) (hq : q = true → m2 = true) : rootcellarref1_Rune.j1 (k + 3) s b0 q = some (if q = true ∧ (2048 ≤ c3 b0 b1 b2 ∧ ¬ (55296 ≤ c3 b0 b1 b2 ∧ c3 b0 b1 b2 ≤ 57343)) then (c3 b0 b1 b2, 3) else if (240 ≤ b0 ∧ b0 ≤ 244) ∧ m1 = true ∧ m2 = true ∧ m3 = true ∧ (65536 ≤ c4 b0 b1 b2 b3 ∧ c4 b0 b1 b2 b3 ≤ 1114111) then (c4 b0 b1 b2 b3, 4) else (-1, 1)) := by
  have J2 := rj2 s n b0 b1 b2 b3 h0 h1 h2 h3 S B1 B2 B3 m1 m2 m3 M1 M2 M3 q3 k
  cases q
  · rw [if_neg (by simp), ← J2]
    simp only [rootcellarref1_Rune.j1]
    rw [if_neg (by decide)]
  · have hn := q2 (hq rfl)
    have g1 : (1 : Int) < n := by omega
    have g2 : (2 : Int) < n := by omega
    simp only [rootcellarref1_Rune.j1, S, if_pos g1, if_pos g2, if_true, B1, B2, wb b1 h1, wb b2 h2, wa3 b0 b1 b2 h0 h1 h2]
    show (if c3 b0 b1 b2 ≥ 2048 then (if c3 b0 b1 b2 ≥ 55296 then (if c3 b0 b1 b2 ≤ 57343 then _ else some (c3 b0 b1 b2, 3)) else some (c3 b0 b1 b2, 3)) else _) = _
    by_cases x : c3 b0 b1 b2 ≥ 2048
    · rw [if_pos x]
      by_cases y : c3 b0 b1 b2 ≥ 55296
      · rw [if_pos y]
        by_cases z : c3 b0 b1 b2 ≤ 57343
        · rw [if_pos z, if_neg (fun h => h.2.2 ⟨y, z⟩)]; exact J2
        · rw [if_neg z, if_pos ⟨trivial, x, fun h => z h.2⟩]
      · rw [if_neg y, if_pos ⟨trivial, x, fun h => y h.1⟩]
    · rw [if_neg x, if_neg (fun h => x h.2.1)]; exact J2
include q1
theorem rj0 (k : Nat) (q : Bool) (hq : q = true → m1 = true) : rootcellarref1_Rune.j0 (k + 4) s b0 q = some (if q = true then (((b0 : Int) - 192) * 64 + b1 - 128, 2) else if ((224 ≤ b0 ∧ b0 ≤ 239) ∧ m1 = true ∧ m2 = true) ∧ (2048 ≤ c3 b0 b1 b2 ∧ ¬ (55296 ≤ c3 b0 b1 b2 ∧ c3 b0 b1 b2 ≤ 57343)) then (c3 b0 b1 b2, 3) else if (240 ≤ b0 ∧ b0 ≤ 244) ∧ m1 = true ∧ m2 = true ∧ m3 = true ∧ (65536 ≤ c4 b0 b1 b2 b3 ∧ c4 b0 b1 b2 b3 ≤ 1114111) then (c4 b0 b1 b2 b3, 4) else (-1, 1)) := by
  have J := fun q hq => rj1 s n b0 b1 b2 b3 h0 h1 h2 h3 S B1 B2 B3 m1 m2 m3 M1 M2 M3 q2 q3 k q hq
  revert J
  generalize (if (240 ≤ b0 ∧ b0 ≤ 244) ∧ m1 = true ∧ m2 = true ∧ m3 = true ∧ (65536 ≤ c4 b0 b1 b2 b3 ∧ c4 b0 b1 b2 b3 ≤ 1114111) then (c4 b0 b1 b2 b3, 4) else ((-1 : Int), (1 : Int))) = E
  intro J
  have Jf := J false (fun h => by cases h)
  rw [if_neg (by simp)] at Jf
  have J2 := J m2 (fun h => h)
  cases q
  · rw [if_neg (by decide)]
    simp only [rootcellarref1_Rune.j0, M1, M2, Option.bind_some]
    rw [if_neg (by decide)]
    by_cases x : 224 ≤ b0
    · rw [if_pos (show (b0 : Int) ≥ 224 by omega)]
      by_cases y : b0 ≤ 239
      · rw [if_pos (show (b0 : Int) ≤ 239 by omega)]
        cases m1
        · rw [if_neg (by decide), Jf, if_neg (by simp)]
        · rw [if_pos rfl, J2]
          congr 1
          by_cases z : m2 = true ∧ (2048 ≤ c3 b0 b1 b2 ∧ ¬ (55296 ≤ c3 b0 b1 b2 ∧ c3 b0 b1 b2 ≤ 57343))
          · rw [if_pos z, if_pos ⟨⟨⟨x, y⟩, rfl, z.1⟩, z.2⟩]
          · rw [if_neg z, if_neg (fun h => z ⟨h.1.2.2, h.2⟩)]
      · rw [if_neg (show ¬ (b0 : Int) ≤ 239 by omega), Jf, if_neg (fun h => y h.1.1.2)]
    · rw [if_neg (show ¬ (b0 : Int) ≥ 224 by omega), Jf, if_neg (fun h => x h.1.1.1)]
  · have hn := q1 (hq rfl)
    have g1 : (1 : Int) < n := by omega
    simp only [rootcellarref1_Rune.j0, S, if_pos g1, if_true, B1, wb b1 h1, wa2 b0 b1 h0 h1]
include B0
theorem rune_N (hn : 1 ≤ n) (k : Nat) : rootcellarref1_Rune.f (k + 4) s = some (if b0 < 128 then ((b0 : Int), 1) else if (194 ≤ b0 ∧ b0 ≤ 223) ∧ m1 = true then (((b0 : Int) - 192) * 64 + b1 - 128, 2) else if ((224 ≤ b0 ∧ b0 ≤ 239) ∧ m1 = true ∧ m2 = true) ∧ (2048 ≤ c3 b0 b1 b2 ∧ ¬ (55296 ≤ c3 b0 b1 b2 ∧ c3 b0 b1 b2 ≤ 57343)) then (c3 b0 b1 b2, 3) else if (240 ≤ b0 ∧ b0 ≤ 244) ∧ m1 = true ∧ m2 = true ∧ m3 = true ∧ (65536 ≤ c4 b0 b1 b2 b3 ∧ c4 b0 b1 b2 b3 ≤ 1114111) then (c4 b0 b1 b2 b3, 4) else (-1, 1)) := by
  have J := fun q hq => rj0 s n b0 b1 b2 b3 h0 h1 h2 h3 S B1 B2 B3 m1 m2 m3 M1 M2 M3 q1 q2 q3 k q hq
  revert J
  generalize (if ((224 ≤ b0 ∧ b0 ≤ 239) ∧ m1 = true ∧ m2 = true) ∧ (2048 ≤ c3 b0 b1 b2 ∧ ¬ (55296 ≤ c3 b0 b1 b2 ∧ c3 b0 b1 b2 ≤ 57343)) then (c3 b0 b1 b2, (3 : Int)) else (if (240 ≤ b0 ∧ b0 ≤ 244) ∧ m1 = true ∧ m2 = true ∧ m3 = true ∧ (65536 ≤ c4 b0 b1 b2 b3 ∧ c4 b0 b1 b2 b3 ≤ 1114111) then (c4 b0 b1 b2 b3, 4) else ((-1 : Int), (1 : Int)))) = E
  intro J
  have Jf := J false (fun h => by cases h)
  rw [if_neg (by simp)] at Jf
  have J1 := J m1 (fun h => h)
  have g0 : (0 : Int) < n := by omega
  simp only [rootcellarref1_Rune.f, S, if_pos g0, B0, wb b0 h0, M1, Option.bind_some]
  by_cases w : b0 < 128
  · rw [if_pos (show (b0 : Int) < 128 by omega), if_pos w]
  · rw [if_neg (show ¬ (b0 : Int) < 128 by omega), if_neg w]
    by_cases x : 194 ≤ b0
    · rw [if_pos (show (b0 : Int) ≥ 194 by omega)]
      by_cases y : b0 ≤ 223
      · rw [if_pos (show (b0 : Int) ≤ 223 by omega), J1]
        congr 1
        by_cases z : m1 = true
        · rw [if_pos z, if_pos ⟨⟨x, y⟩, z⟩]
        · rw [if_neg z, if_neg (fun h => z h.2)]
      · rw [if_neg (show ¬ (b0 : Int) ≤ 223 by omega), Jf, if_neg (fun h => y h.1.2)]
    · rw [if_neg (show ¬ (b0 : Int) ≥ 194 by omega), Jf, if_neg (fun h => x h.1.1)]
end
/-- The rune in front, as the reference tells it. -/
def rr (l : List UInt8) : Int × Int := if (decodeL l).1 = 65533 ∧ (decodeL l).2 = 1 then (-1, 1) else (((decodeL l).1 : Int), ((decodeL l).2 : Int))
theorem rune_eq (l : List UInt8) (hl : l ≠ []) (k : Nat) : rootcellarref1_Rune.f (k + 4) (ba l) = some (rr l) := by
  have hn : 1 ≤ l.length := List.length_pos_iff.2 hl
  have e := refN_eq l.length _ _ _ _ (l.getD 0 0).toNat_lt (l.getD 1 0).toNat_lt (l.getD 2 0).toNat_lt (l.getD 3 0).toNat_lt
  rw [← decodeL_N] at e
  unfold rr
  rw [← e, rune_N (ba l) l.length _ _ _ _ (l.getD 0 0).toNat_lt (l.getD 1 0).toNat_lt (l.getD 2 0).toNat_lt (l.getD 3 0).toNat_lt (by rw [ba_size]) (bt_all l 0) (bt_all l 1) (bt_all l 2) (bt_all l 3) _ _ _ (more_eq l 1) (more_eq l 2) (more_eq l 3)
    (fun h => (of_decide_eq_true h).1) (fun h => (of_decide_eq_true h).1) (fun h => (of_decide_eq_true h).1) hn k]
  unfold refN c3 c4
  simp only [decide_eq_true_eq, and_assoc]
theorem ev_rune (l : List UInt8) (hl : l ≠ []) : Ev (fun k => rootcellarref1_Rune.f k (ba l)) (rr l) :=
  ⟨4, fun k hk => by obtain ⟨k, rfl⟩ : ∃ m, k = m + 4 := ⟨k - 4, by omega⟩; exact rune_eq l hl k⟩
theorem rr_width (l : List UInt8) (_hl : l ≠ []) : (rr l).2 = (((decodeL l).2 : Nat) : Int) := by
  unfold rr
  by_cases h : (decodeL l).1 = 65533 ∧ (decodeL l).2 = 1
  · rw [if_pos h, h.2]; rfl
  · rw [if_neg h]
theorem rr_bad (l : List UInt8) : ((rr l).1 < 0) = ((decodeL l).1 = 65533 ∧ (decodeL l).2 = 1) := by
  unfold rr
  by_cases h : (decodeL l).1 = 65533 ∧ (decodeL l).2 = 1
  · rw [if_pos h]; simp [h]
  · rw [if_neg h]; simp [h]
theorem ref_valid_l (l : List UInt8) : Ev (fun k => rootcellarref1_Valid.l0 k (ba l)) (validD l) := by
  induction hn : l.length using Nat.strongRecOn generalizing l with
  | _ n ih =>
    by_cases e : l = []
    · subst e
      refine Ev.step (f := fun _ => some true) (fun k => ?_) (Ev.now _)
      simp only [rootcellarref1_Valid.l0]
      rw [ba_toList, if_pos rfl]
    · have hw := decodeL_le l e
      have hs := drop_short l e
      refine Ev.step (f := fun k => (rootcellarref1_Rune.f k (ba l)).bind fun bt => (if bt.1 < 0 then (some false) else (if 0 ≤ bt.2 then (if bt.2 ≤ ((ba l).size : Int) then (rootcellarref1_Valid.l0 k ((ba l).extract (bt.2 : Int).toNat (ba l).size)) else (none)) else (none)))) (fun k => ?_) (Ev.bind (ev_rune l e) ?_)
      · simp only [rootcellarref1_Valid.l0]
        rw [ba_toList, if_neg e]
      · rw [validD_step l e]
        by_cases hb : (decodeL l).1 = 65533 ∧ (decodeL l).2 = 1
        · refine Ev.congr (f := fun _ => some false) (fun k => ?_) (by rw [if_pos hb]; exact Ev.now _)
          rw [if_pos (by rw [rr_bad]; exact hb)]
        · rw [if_neg hb]
          refine Ev.congr (fun k => ?_) (ih _ (by omega) (l.drop (decodeL l).2) rfl)
          rw [if_neg (by rw [rr_bad]; exact hb), rr_width l e, if_pos (by omega), if_pos (by rw [ba_size]; omega), Int.toNat_natCast, ba_drop]
theorem ref_count_l (l : List UInt8) : ∀ c : Nat, c + l.length ≤ 1000000000 → Ev (fun k => rootcellarref1_Count.l0 k (ba l) (c : Int)) (((c + (runes l).length : Nat)) : Int) := by
  induction hn : l.length using Nat.strongRecOn generalizing l with
  | _ n ih =>
    intro c hc
    by_cases e : l = []
    · subst e
      refine Ev.step (f := fun _ => some _) (fun k => ?_) (Ev.now _)
      simp only [rootcellarref1_Count.l0]
      rw [ba_toList, if_pos rfl, runes_nil]; rfl
    · have hw := decodeL_le l e
      have hs := drop_short l e
      refine Ev.step (f := fun k => (rootcellarref1_Rune.f k (ba l)).bind fun bt => (if 0 ≤ bt.2 then (if bt.2 ≤ ((ba l).size : Int) then (rootcellarref1_Count.l0 k ((ba l).extract (bt.2 : Int).toNat (ba l).size) (wrap64 ((c : Int) + 1))) else (none)) else (none))) (fun k => ?_) (Ev.bind (ev_rune l e) ?_)
      · simp only [rootcellarref1_Count.l0]
        rw [ba_toList, if_neg e]
      · have h := ih _ (by omega) (l.drop (decodeL l).2) rfl (c + 1) (by omega)
        rw [show c + (runes l).length = c + 1 + (runes (l.drop (decodeL l).2)).length by rw [runes_cons l e, List.length_cons]; omega]
        refine Ev.congr (fun k => ?_) h
        rw [rr_width l e, if_pos (by omega), if_pos (by rw [ba_size]; omega), Int.toNat_natCast, ba_drop, w64 _ (by omega) (by omega)]
        rfl
theorem ref_valid (l : List UInt8) : Ev (fun k => rootcellarref1_Valid.f k (ba l)) (validD l) := ref_valid_l l
theorem ref_count (l : List UInt8) (h : l.length ≤ 1000000000) : Ev (fun k => rootcellarref1_Count.f k (ba l)) (((runes l).length : Nat) : Int) := by
  have := ref_count_l l 0 (by omega)
  rw [Nat.zero_add] at this
  exact this
/-- Is a byte one that a name may have? -/
def fineB (b : UInt8) : Bool := decide (32 ≤ b.toNat) && !(b.toNat == 127)
theorem ref_right_l (l : List UInt8) (h : l.length ≤ 1000000000) : ∀ (d i : Nat), i + d = l.length → Ev (fun k => rootcellarref1_Right.l0 k (ba l) (i : Int)) ((l.drop i).all fineB) := by
  intro d
  induction d with
  | zero =>
    intro i hi
    refine Ev.step (f := fun _ => some _) (fun k => ?_) (Ev.now _)
    simp only [rootcellarref1_Right.l0]
    rw [ba_size, if_neg (by omega), List.drop_eq_nil_of_le (by omega)]; rfl
  | succ d ih =>
    intro i hi
    have hlt : i < l.length := by omega
    have hd := List.drop_eq_getElem_cons hlt
    have hb := bt_ba l i hlt
    by_cases h1 : (l[i]'hlt).toNat < 32
    · refine Ev.step (f := fun _ => some _) (fun k => ?_) (Ev.now _)
      simp only [rootcellarref1_Right.l0]
      rw [ba_size, if_pos (by omega), if_pos (by omega), hb, if_pos (by omega), hd, List.all_cons, show fineB (l[i]'hlt) = false by unfold fineB; rw [decide_eq_false (by omega)]; rfl]; rfl
    · by_cases h2 : (l[i]'hlt).toNat = 127
      · refine Ev.step (f := fun _ => some _) (fun k => ?_) (Ev.now _)
        simp only [rootcellarref1_Right.l0]
        rw [ba_size, if_pos (by omega), if_pos (by omega), hb, if_neg (by omega), if_pos (by omega), hd, List.all_cons, show fineB (l[i]'hlt) = false by unfold fineB; rw [h2]; rfl]; rfl
      · have e : (l.drop i).all fineB = (l.drop (i + 1)).all fineB := by
          rw [hd, List.all_cons, show fineB (l[i]'hlt) = true by unfold fineB; rw [decide_eq_true (by omega)]; simpa using h2]; rfl
        rw [e]
        refine Ev.step (fun k => ?_) (ih (i + 1) (by omega))
        simp only [rootcellarref1_Right.l0]
        rw [ba_size, if_pos (by omega), if_pos (by omega), hb, if_neg (by omega), if_neg (by omega), w64 _ (by omega) (by omega)]
        rfl
theorem shape (l : List UInt8) (hl : l ≠ []) (hv : ¬ ((decodeL l).1 = 65533 ∧ (decodeL l).2 = 1)) :
    (∃ (b : UInt8) (r : List UInt8), l = b :: r ∧ b.toNat < 128 ∧ decodeL l = (b.toNat, 1)) ∨ ((∀ b ∈ l.take (decodeL l).2, 128 ≤ b.toNat) ∧ 128 ≤ (decodeL l).1) := by
  have h0 := (l.getD 0 0).toNat_lt
  have h1 := (l.getD 1 0).toNat_lt
  have h2 := (l.getD 2 0).toNat_lt
  have h3 := (l.getD 3 0).toNat_lt
  have hlen : 0 < l.length := List.length_pos_iff.2 hl
  rw [decodeL_N] at hv ⊢
  have at_ : ∀ i, i < l.length → l[i]? = some (l.getD i 0) := fun i hi => by
    rw [List.getD_eq_getElem?_getD, List.getElem?_eq_getElem hi]; rfl
  have tk : ∀ w, w ≤ 4 → (∀ i, i < w → 128 ≤ (l.getD i 0).toNat) → ∀ b ∈ l.take w, 128 ≤ b.toNat := by
    intro w _ hw b hb
    obtain ⟨i, hi, e⟩ := List.mem_take_iff_getElem.1 hb
    have hi1 : i < w := by omega
    have := hw i hi1
    rw [List.getD_eq_getElem?_getD, List.getElem?_eq_getElem (by omega)] at this
    rw [← e]
    exact this
  rcases decodeN_shape l.length (l.getD 0 0).toNat (l.getD 1 0).toNat (l.getD 2 0).toNat (l.getD 3 0).toNat with ⟨c, e⟩ | ⟨c1, c2, c3, cv, e⟩ | ⟨c1, c2, c3, c4, cv, cs, e⟩ | ⟨c1, c2, c3, c4, c5, cv, cw, e⟩ | e
  · left
    cases l with
    | nil => exact absurd rfl hl
    | cons b r => exact ⟨b, r, rfl, c, e⟩
  · right
    rw [e]
    refine ⟨tk 2 (by omega) (fun i hi => ?_), cv⟩
    have : i = 0 ∨ i = 1 := by omega
    rcases this with rfl | rfl <;> omega
  · right
    rw [e]
    refine ⟨tk 3 (by omega) (fun i hi => ?_), by simp only; omega⟩
    have : i = 0 ∨ i = 1 ∨ i = 2 := by omega
    rcases this with rfl | rfl | rfl <;> omega
  · right
    rw [e]
    refine ⟨tk 4 (by omega) (fun i hi => ?_), by simp only; omega⟩
    have : i = 0 ∨ i = 1 ∨ i = 2 ∨ i = 3 := by omega
    rcases this with rfl | rfl | rfl | rfl <;> omega
  · exact absurd (by rw [e]; exact ⟨rfl, rfl⟩) hv
theorem bytes_fine (l : List UInt8) (hv : validD l = true) : (runes l).all fine = l.all fineB := by
  induction hn : l.length using Nat.strongRecOn generalizing l with
  | _ n ih =>
    by_cases e : l = []
    · subst e; rfl
    · have hs := drop_short l e
      rw [validD_step l e] at hv
      by_cases hb : (decodeL l).1 = 65533 ∧ (decodeL l).2 = 1
      · rw [if_pos hb] at hv; exact absurd hv (by decide)
      · rw [if_neg hb] at hv
        have h := ih _ (by omega) (l.drop (decodeL l).2) hv rfl
        rw [runes_cons l e, List.all_cons, h]
        conv => rhs; rw [← List.take_append_drop (decodeL l).2 l, List.all_append]
        congr 1
        rcases shape l e hb with ⟨b, r, rfl, hb1, hd⟩ | ⟨h1, h2⟩
        · rw [hd]
          simp only [List.take_succ_cons, List.take_zero, List.all_cons, List.all_nil, Bool.and_true]
          rfl
        · have : fine (decodeL l) = true := by unfold fine; rw [decide_eq_true (by omega)]; simp; omega
          rw [this]
          symm
          rw [List.all_eq_true]
          intro b hb
          have := h1 b hb
          unfold fineB; rw [decide_eq_true (by omega)]; simp; omega
theorem rightB_bytes (l : List UInt8) : rightB l = (validD l && (!l.isEmpty && (decide ((runes l).length ≤ 24) && (!(l.headD 0).toNat == 32 && (!(l.getLastD 0).toNat == 32 && l.all fineB))))) := by
  unfold rightB
  cases hv : validD l
  · simp
  · rw [bytes_fine l hv]
    cases l.all fineB <;> simp
theorem ref_right_j (l : List UInt8) (h : l.length ≤ 1000000000) (q : Bool) : Ev (fun k => rootcellarref1_Right.j0 k (ba l) q) (!q && l.all fineB) := by
  cases q
  · refine Ev.step (fun k => ?_) (ref_right_l l h l.length 0 (by omega))
    simp only [rootcellarref1_Right.j0]
    rw [if_neg (by decide)]
    rfl
  · refine Ev.step (f := fun _ => some false) (fun k => ?_) (Ev.now _)
    simp only [rootcellarref1_Right.j0]
    exact if_pos trivial
theorem ref_right (l : List UInt8) (h : l.length ≤ 1000000000) : Ev (fun k => rootcellarref1_Right.f k (ba l)) (rightB l) := by
  rw [rightB_bytes]
  refine Ev.bind (ref_valid l) ?_
  cases hv : validD l
  · refine Ev.congr (fun k => ?_) (ref_right_j l h true)
    rw [if_neg (by decide)]
  · by_cases e : l = []
    · subst e
      refine Ev.congr (fun k => ?_) (ref_right_j [] h true)
      rw [if_pos rfl, ba_toList, if_pos rfl]
    · have hlen : 0 < l.length := List.length_pos_iff.2 e
      have hie : l.isEmpty = false := by simpa using e
      rw [hie, Bool.not_false, Bool.true_and, Bool.true_and]
      refine Ev.congr (fun k => by rw [if_pos rfl, ba_toList, if_neg e]) (Ev.bind (ref_count l h) ?_)
      by_cases hc : (runes l).length ≤ 24
      · rw [decide_eq_true hc, Bool.true_and]
        have hw : wrap64 ((l.length : Int) - 1) = ((l.length - 1 : Nat) : Int) := by rw [w64 _ (by omega) (by omega)]; omega
        have hf : l.headD 0 = l.getD 0 0 := by cases l <;> rfl
        have hl : l.getLastD 0 = l.getD (l.length - 1) 0 := by
          rw [List.getLastD_eq_getLast?, List.getLast?_eq_getElem?, List.getD_eq_getElem?_getD]
        rw [hf, hl]
        have b0 := bt_all l 0
        have b1 := bt_all l (l.length - 1)
        by_cases hs : (l.getD 0 0).toNat = 32
        · rw [show ((l.getD 0 0).toNat == 32) = true by simpa using hs]
          refine Ev.congr (fun k => ?_) (ref_right_j l h true)
          rw [if_neg (by omega), ba_size, if_pos (by omega), if_pos (by rw [show (0 : Int) = ((0 : Nat) : Int) from rfl, b0]; omega)]
        · rw [show ((l.getD 0 0).toNat == 32) = false by simpa using hs, Bool.not_false, Bool.true_and]
          refine Ev.congr (fun k => ?_) (ref_right_j l h ((l.getD (l.length - 1) 0).toNat == 32))
          rw [if_neg (by omega), ba_size, if_pos (by omega), if_neg (by rw [show (0 : Int) = ((0 : Nat) : Int) from rfl, b0]; omega), hw, if_pos (by omega), if_pos (by omega), b1]
          congr 1
          by_cases z : (l.getD (l.length - 1) 0).toNat = 32
          · rw [z]; rfl
          · rw [show ((l.getD (l.length - 1) 0).toNat == 32) = false by simpa using z]
            simpa using (by omega : ¬ ((l.getD (l.length - 1) 0).toNat : Int) = 32)
      · rw [decide_eq_false hc]
        refine Ev.congr (fun k => ?_) (ref_right_j l h true)
        rw [if_pos (by omega)]
theorem right_eq (l : List UInt8) (h : l.length ≤ 1000000000) : label_Right.f (ba l) = some (rightB l) := by
  unfold label_Right.f
  rw [ba_size, if_pos (by omega), ba_list]
end Go.Proofs.YtapkghkcaflkmaaDoor.Pu
end
section
/- LabelRunes, LabelCuts, LabelFirst, LabelNames, LabelJoins, LabelPlain, in plain words: true of every input. -/








namespace Go.Proofs.YtapkghkcaflkmaaDoor.Pu
open Go Go.Lib Go.RowKit Go.Proofs.YtapkghkcaflkmaaDoor.Pl Go.Proofs.YtapkghkcaflkmaaDoor.Lf Go.Proofs.YtapkghkcaflkmaaDoor.Fn Go.Proofs.YtapkghkcaflkmaaDoorW.PrintWords
theorem ev_pos {α : Type} {c : Prop} [Decidable c] {A B : Nat → Option α} {r : α} (h : c) (e : Ev A r) : Ev (fun k => if c then A k else B k) r := Ev.congr (fun _ => if_pos h) e
theorem ev_neg {α : Type} {c : Prop} [Decidable c] {A B : Nat → Option α} {r : α} (h : ¬ c) (e : Ev B r) : Ev (fun k => if c then A k else B k) r := Ev.congr (fun _ => if_neg h) e
theorem count_eq (l : List UInt8) (h : l.length ≤ 1000000000) : label_Count.f (ba l) = some (((runes l).length : Nat) : Int) := by
  unfold label_Count.f
  rw [ba_size, if_pos (by omega), ba_list]
theorem valid_eq (l : List UInt8) (h : l.length ≤ 1000000000) : label_Valid.f (ba l) = some (validD l) := by
  unfold label_Valid.f
  rw [ba_size, if_pos (by omega), ba_list]
theorem first_eq (l : List UInt8) (n : Int) (h : l.length ≤ 1000000000) (hn : -9223372036854775808 ≤ n ∧ n ≤ 9223372036854775807) : label_First.f (ba l) n = some (ba (firstL l n)) := by
  unfold label_First.f
  rw [ba_size, if_pos ⟨by omega, hn⟩, ba_list]; rfl
theorem fold_eq (l : List UInt8) (h : l.length ≤ 1000000000) : label_Fold.f (ba l) = some (ba (foldL l)) := by
  unfold label_Fold.f
  rw [ba_size, if_pos (by omega), ba_list]; rfl
theorem quote_eq (l : List UInt8) (h : l.length ≤ 1000000000) : label_Quote.f (ba l) = some (ba (quoteL l)) := by
  unfold label_Quote.f
  rw [ba_size, if_pos (by omega), ba_list]; rfl
theorem hex2 (n : Nat) (h : 16 ≤ n) (h2 : n < 256) : hexL n = [hd (n / 16), hd (n % 16)] := by
  rw [hexL_ge (by omega), hexL_lt (by omega)]; rfl
theorem piece_plain (l : List UInt8) (c : UInt8) (r : List UInt8) (e : l = c :: r) (h : 33 ≤ c.toNat ∧ c.toNat ≤ 126 ∧ c.toNat ≠ 92) : piece l = [c] := by
  subst e
  have hd := dec_plain c r (by omega)
  unfold piece
  rw [hd, if_neg (by simp only; omega), if_neg (by simp only; omega), if_pos (by simp only; omega)]
  unfold encodeRune
  rw [encodeRuneZ_one (by omega) (by omega)]
  simp
theorem piece_hex (l : List UInt8) (r k : Nat) (hd : decodeL l = (r, k)) (h1 : ¬ (r = 65533 ∧ k = 1)) (h2 : r ≠ 92) (h3 : ¬ (32 < r ∧ r < 127)) : piece l = [92, 123] ++ hexL r ++ [125] := by
  unfold piece
  rw [hd, if_neg h1, if_neg h2, if_neg h3]
theorem quote_shown : quoteL [97, 32, 195, 169, 92] = [97, 92, 123, 50, 48, 125, 92, 123, 101, 57, 125, 92, 92] := by
  unfold quoteL
  rw [if_neg (by simp)]
  have d1 : decodeL [97, 32, 195, 169, 92] = (97, 1) := by decide +kernel
  have d2 : decodeL [32, 195, 169, 92] = (32, 1) := by decide +kernel
  have d3 : decodeL [195, 169, 92] = (233, 2) := by decide +kernel
  have d4 : decodeL [92] = (92, 1) := by decide +kernel
  have p4 : piece [92] = [92, 92] := by unfold piece; rw [d4, if_neg (by simp), if_pos rfl]
  rw [quoteR_cons _ (by simp), d1, piece_plain _ 97 _ rfl (by decide)]
  simp only [List.drop_succ_cons, List.drop_zero]
  rw [quoteR_cons _ (by simp), d2, piece_hex _ 32 1 d2 (by simp) (by simp) (by simp), hex2 32 (by omega) (by omega)]
  simp only [List.drop_succ_cons, List.drop_zero]
  rw [quoteR_cons _ (by simp), d3, piece_hex _ 233 2 d3 (by simp) (by simp) (by simp), hex2 233 (by omega) (by omega)]
  simp only [List.drop_succ_cons, List.drop_zero]
  rw [quoteR_cons _ (by simp), d4, p4]
  simp only [List.drop_succ_cons, List.drop_zero, quoteR_nil]
  decide +kernel
theorem quote_shown2 : quoteL [255] = [92, 33, 102, 102] := by
  unfold quoteL
  rw [if_neg (by simp)]
  have d1 : decodeL [255] = (65533, 1) := by decide +kernel
  have p1 : piece [255] = [92, 33] ++ hexL 255 := by unfold piece; rw [d1, if_pos (by simp)]; rfl
  rw [quoteR_cons _ (by simp), d1, p1, hex2 255 (by omega) (by omega)]
  simp only [List.drop_succ_cons, List.drop_zero, quoteR_nil]
  decide +kernel
theorem shown1 : rootcellarlaw1_shown.f = some true := by
  unfold rootcellarlaw1_shown.f
  have c1 : label_Count.f (⟨#[97, 195, 169]⟩ : ByteArray) = some 2 := by
    rw [show (⟨#[97, 195, 169]⟩ : ByteArray) = ba [97, 195, 169] from rfl, count_eq _ (by simp), show (runes [97, 195, 169]).length = 2 from by decide +kernel]; rfl
  have c2 : label_First.f (⟨#[195, 169, 97]⟩ : ByteArray) 1 = some (ba [195, 169]) := by
    rw [show (⟨#[195, 169, 97]⟩ : ByteArray) = ba [195, 169, 97] from rfl, first_eq _ _ (by simp) (by omega), show firstL [195, 169, 97] 1 = [195, 169] from by decide +kernel]
  have c3 : label_Quote.f (⟨#[97, 32, 195, 169, 92]⟩ : ByteArray) = some (ba [97, 92, 123, 50, 48, 125, 92, 123, 101, 57, 125, 92, 92]) := by
    rw [show (⟨#[97, 32, 195, 169, 92]⟩ : ByteArray) = ba [97, 32, 195, 169, 92] from rfl, quote_eq _ (by simp), quote_shown]
  have c4 : label_Quote.f (⟨#[255]⟩ : ByteArray) = some (ba [92, 33, 102, 102]) := by
    rw [show (⟨#[255]⟩ : ByteArray) = ba [255] from rfl, quote_eq _ (by simp), quote_shown2]
  have c5 : label_Right.f (⟨#[98, 101, 102, 111, 114, 101, 32, 108, 117, 110, 99, 104]⟩ : ByteArray) = some true := by
    rw [show (⟨#[98, 101, 102, 111, 114, 101, 32, 108, 117, 110, 99, 104]⟩ : ByteArray) = ba [98, 101, 102, 111, 114, 101, 32, 108, 117, 110, 99, 104] from rfl, right_eq _ (by simp)]
    congr 1
  have c6 : label_Right.f (⟨#[32, 120]⟩ : ByteArray) = some false := by
    rw [show (⟨#[32, 120]⟩ : ByteArray) = ba [32, 120] from rfl, right_eq _ (by simp)]
    congr 1
  rw [c1, c2, c3, c4, c5, c6]
  simp only [Option.bind_some, ba_toList]
  rfl
/-- The reference's first runes. -/
theorem ref_first_l (n : Int) (hn : n ≤ 9223372036854775807) : ∀ (l acc : List UInt8) (i : Nat), l.length + acc.length ≤ 1000000000 → (i : Int) + l.length ≤ 2000000000 →
    Ev (fun k => rootcellarref1_First.l0 k (ba l) n (ba acc) (i : Int)) (ba (acc ++ l.take (cutN (n.toNat - i) l))) := by
  intro l
  induction hl : l.length using Nat.strongRecOn generalizing l with
  | _ m ih =>
    intro acc i hb hi
    by_cases hlt : (i : Int) < n
    · obtain ⟨d, hd⟩ : ∃ d, n.toNat - i = d + 1 := ⟨n.toNat - i - 1, by omega⟩
      by_cases e : l = []
      · subst e
        rw [cutN_nil, List.take_zero, List.append_nil]
        refine Ev.step (f := fun _ => some (ba acc)) (fun k => ?_) (Ev.now _)
        simp only [rootcellarref1_First.l0]
        rw [if_pos hlt, ba_toList, if_pos rfl]
      · have hw := decodeL_le l e
        have hw1 := decodeL_width l
        have hs := drop_short l e
        have h := ih _ (by omega) (l.drop (decodeL l).2) rfl (acc ++ l.take (decodeL l).2) (i + 1) (by rw [List.length_append, List.length_take, List.length_drop]; omega) (by rw [List.length_drop]; omega)
        have e2 : acc ++ l.take (cutN (n.toNat - i) l) = acc ++ l.take (decodeL l).2 ++ (l.drop (decodeL l).2).take (cutN (n.toNat - (i + 1)) (l.drop (decodeL l).2)) := by
          rw [hd, cutN, if_neg e, show n.toNat - (i + 1) = d by omega, List.append_assoc, List.take_add]
        rw [e2]
        refine Ev.step (fun k => by simp only [rootcellarref1_First.l0]; rw [if_pos hlt, ba_toList, if_neg e]) (Ev.bind (ev_rune l e) ?_)
        refine Ev.congr (fun k => ?_) h
        rw [rr_width l e, if_pos (by omega), if_pos (by rw [ba_size]; omega), Int.toNat_natCast, ba_take, ba_size, ba_size, if_pos (by rw [List.length_take]; omega), ba_drop, ba_append, w64 _ (by omega) (by omega)]
        rfl
    · rw [show n.toNat - i = 0 by omega]
      simp only [cutN, List.take_zero, List.append_nil]
      refine Ev.step (f := fun _ => some (ba acc)) (fun k => ?_) (Ev.now _)
      simp only [rootcellarref1_First.l0]
      rw [if_neg hlt]
theorem ref_first (l : List UInt8) (n : Int) (h : l.length ≤ 1000000) (hn : n ≤ 9223372036854775807) : Ev (fun k => rootcellarref1_First.f k (ba l) n) (ba (firstL l n)) := by
  have := ref_first_l n hn l [] 0 (by simp; omega) (by omega)
  rw [List.nil_append, Nat.sub_zero] at this
  exact this
theorem runes_j0 (k : Nat) (x0 : ByteArray) (x1 : Int) (x5 : Bool) : rootcellarlaw1_LabelRunes.j0 (k + 1) x0 x1 x5 false = ((label_Valid.f x0).bind fun t120 => ((rootcellarref1_Valid.f k x0).bind fun t121 => (if (t120 == t121) = true then ((label_Count.f x0).bind fun t122 => ((rootcellarref1_Count.f k x0).bind fun t123 => (if t122 = t123 then ((label_First.f x0 x1).bind fun t124 => ((rootcellarref1_First.f k x0 x1).bind fun t125 => (some (t124.toList == t125.toList)))) else (some false)))) else (some false)))) := rfl
theorem names_j0 (k : Nat) (x0 : ByteArray) (x3 : Bool) : rootcellarlaw1_LabelNames.j0 (k + 1) x0 x3 false = ((label_Right.f x0).bind fun t155 => ((rootcellarref1_Right.f k x0).bind fun t156 => (if (t155 == t156) = true then ((label_Fold.f x0).bind fun t157 => ((rootcellarref1_Fold.f k x0).bind fun t158 => (some (t157.toList == t158.toList)))) else (some false)))) := rfl
theorem cuts_j0 (k : Nat) (x0 : ByteArray) (x1 : Int) (x5 : Bool) : rootcellarlaw1_LabelCuts.j0 (k + 1) x0 x1 x5 false = ((label_First.f x0 x1).bind fun t127 => (if (t127.size : Int) > (x0.size : Int) then (rootcellarlaw1_LabelCuts.j1 k x0 x1 t127 true) else (if 0 ≤ (t127.size : Int) then (if (t127.size : Int) ≤ (x0.size : Int) then (rootcellarlaw1_LabelCuts.j1 k x0 x1 t127 ((x0.extract 0 ((t127.size : Int) : Int).toNat).toList != t127.toList)) else (none)) else (none)))) := rfl
theorem cuts_j1 (k : Nat) (x0 : ByteArray) (x1 : Int) (x6 : ByteArray) : rootcellarlaw1_LabelCuts.j1 (k + 1) x0 x1 x6 false = (if 0 ≤ (x6.size : Int) then (if (x6.size : Int) ≤ (x0.size : Int) then ((label_Count.f x6).bind fun t128 => ((label_Count.f x0).bind fun t129 => (if t128 = (mx 0 (mn x1 t129)) then ((label_Count.f x6).bind fun t130 => ((label_Count.f (x0.extract ((x6.size : Int) : Int).toNat x0.size)).bind fun t131 => ((label_Count.f x0).bind fun t132 => (if (wrap64 (t130 + t131)) = t132 then ((label_Valid.f x0).bind fun t133 => (if t133 = true then ((label_Valid.f x6).bind fun t134 => (if t134 = true then ((label_Valid.f (x0.extract ((x6.size : Int) : Int).toNat x0.size)).bind fun t135 => (some t135)) else (some false))) else (some true))) else (some false))))) else (some false)))) else (none)) else (none)) := rfl
theorem LabelRunes (a0 : ByteArray) (a1 : Int) (_hs : a0.size ≤ maxLen) (hn : -9223372036854775808 ≤ a1 ∧ a1 ≤ 9223372036854775807) : ∃ k, rootcellarlaw1_LabelRunes.f k a0 a1 = some true := by
  obtain ⟨l, rfl⟩ := ex_ba a0
  refine Ev.rounds (Ev.congr (f := fun k => rootcellarlaw1_LabelRunes.j0 k (ba l) a1 true (decide (((ba l).size : Int) > 1000))) (fun k => by unfold rootcellarlaw1_LabelRunes.f; rw [shown1]; rfl) ?_)
  rw [ba_size]
  by_cases hl : (l.length : Int) > 1000
  · rw [decide_eq_true hl]
    exact Ev.step (f := fun _ => some true) (fun k => rfl) (Ev.now _)
  · rw [decide_eq_false hl]
    refine Ev.step (fun k => runes_j0 k _ _ _) ?_
    simp only [valid_eq l (show l.length ≤ 1000000000 by omega), count_eq l (show l.length ≤ 1000000000 by omega), first_eq l a1 (show l.length ≤ 1000000000 by omega) hn, Option.bind_some]
    refine Ev.bind (ref_valid l) (ev_pos (beq_self_eq_true _) ?_)
    refine Ev.bind (ref_count l (by omega)) (ev_pos rfl ?_)
    refine Ev.bind (ref_first l a1 (by omega) hn.2) ?_
    exact Ev.congr (f := fun _ => some true) (fun k => by rw [beq_self_eq_true]) (Ev.now _)
theorem cuts_1 (l : List UInt8) (a1 : Int) (hl : l.length ≤ 800) : Ev (fun k => rootcellarlaw1_LabelCuts.j1 k (ba l) a1 (ba (firstL l a1)) false) true := by
  have hc := cutN_le a1.toNat l
  have hfl : (firstL l a1).length = cutN a1.toNat l := by unfold firstL; rw [List.length_take]; omega
  have hrt : (runes (firstL l a1)).length = min a1.toNat (runes l).length := by unfold firstL; rw [runes_take, List.length_take]
  have hrd : (runes (l.drop (cutN a1.toNat l))).length = (runes l).length - a1.toNat := by rw [runes_drop, List.length_drop]
  have hrl := runes_le l
  have c1 := count_eq l (show l.length ≤ 1000000000 by omega)
  have c2 := count_eq (firstL l a1) (show _ ≤ 1000000000 by omega)
  have c3 := count_eq (l.drop (cutN a1.toNat l)) (show _ ≤ 1000000000 by rw [List.length_drop]; omega)
  have c4 := valid_eq l (show l.length ≤ 1000000000 by omega)
  have c5 := valid_eq (firstL l a1) (show _ ≤ 1000000000 by omega)
  have c6 := valid_eq (l.drop (cutN a1.toNat l)) (show _ ≤ 1000000000 by rw [List.length_drop]; omega)
  have hv : validD l = true → validD (firstL l a1) = true ∧ validD (l.drop (cutN a1.toNat l)) = true := valid_take a1.toNat l
  have hz : (ba (firstL l a1)).size = cutN a1.toNat l := by rw [ba_size, hfl]
  have hd : (ba l).extract (cutN a1.toNat l) (ba l).size = ba (l.drop (cutN a1.toNat l)) := ba_drop l _
  have hz2 : (ba l).size = l.length := ba_size l
  rw [hrt] at c2
  rw [hrd] at c3
  have s1 : (((min a1.toNat (runes l).length : Nat)) : Int) = mx 0 (mn a1 (((runes l).length : Nat) : Int)) := by unfold mx mn; omega
  have s2 : wrap64 ((((min a1.toNat (runes l).length : Nat)) : Int) + ((((runes l).length - a1.toNat : Nat)) : Int)) = (((runes l).length : Nat) : Int) := by rw [w64 _ (by omega) (by omega)]; omega
  have hle : (cutN a1.toNat l : Int) ≤ (l.length : Int) := by omega
  clear hrt hrd hfl
  have h0 : (0 : Int) ≤ ((cutN a1.toNat l : Nat) : Int) := by omega
  have hd2 : (ba l).extract (cutN a1.toNat l) l.length = ba (l.drop (cutN a1.toNat l)) := by rw [← hz2]; exact hd
  refine Ev.step (fun k => cuts_j1 k _ _ _) (Ev.congr (f := fun _ => some true) (fun k => ?_) (Ev.now _))
  rw [hz, hz2, if_pos h0, if_pos hle, Int.toNat_natCast, hd2, c2, Option.bind_some, c1, Option.bind_some, if_pos s1, Option.bind_some, c3, Option.bind_some, Option.bind_some, if_pos s2, c4, Option.bind_some, c5, c6]
  cases hv0 : validD l
  · rfl
  · obtain ⟨e1, e2⟩ := hv hv0
    rw [e1, e2]
    rfl
theorem LabelCuts (a0 : ByteArray) (a1 : Int) (_hs : a0.size ≤ maxLen) (hn : -9223372036854775808 ≤ a1 ∧ a1 ≤ 9223372036854775807) : ∃ k, rootcellarlaw1_LabelCuts.f k a0 a1 = some true := by
  obtain ⟨l, rfl⟩ := ex_ba a0
  refine Ev.rounds (Ev.congr (f := fun k => rootcellarlaw1_LabelCuts.j0 k (ba l) a1 true (decide (((ba l).size : Int) > 800))) (fun k => by unfold rootcellarlaw1_LabelCuts.f; rw [shown1]; rfl) ?_)
  rw [ba_size]
  by_cases hl : (l.length : Int) > 800
  · rw [decide_eq_true hl]
    exact Ev.step (f := fun _ => some true) (fun k => rfl) (Ev.now _)
  · rw [decide_eq_false hl]
    have hc := cutN_le a1.toNat l
    have hfl : (firstL l a1).length = cutN a1.toNat l := by unfold firstL; rw [List.length_take]; omega
    have hrt : (runes (firstL l a1)).length = min a1.toNat (runes l).length := by unfold firstL; rw [runes_take, List.length_take]
    have hrd : (runes (l.drop (cutN a1.toNat l))).length = (runes l).length - a1.toNat := by rw [runes_drop, List.length_drop]
    have hrl := runes_le l
    have htk : (ba l).extract 0 (cutN a1.toNat l) = ba (firstL l a1) := ba_take l _
    have hj1 := cuts_1 l a1 (by omega)
    refine Ev.step (fun k => cuts_j0 k _ _ _) ?_
    simp only [first_eq l a1 (show l.length ≤ 1000000000 by omega) hn, Option.bind_some, ba_size, hfl]
    refine ev_neg (by omega) (ev_pos (by omega) (ev_pos (by omega) ?_))
    refine Ev.congr (fun k => ?_) hj1
    rw [Int.toNat_natCast, htk, bne_self_eq_false]
theorem cutN_one (l : List UInt8) (e : l ≠ []) : cutN 1 l = (decodeL l).2 := by
  rw [cutN, if_neg e]; rfl
theorem first_loop (s : List UInt8) (hs : s.length ≤ 1000) : ∀ (l : List UInt8) (n : Nat), l.length ≤ 1000 → n + (runes l).length = (runes s).length →
    Ev (fun k => rootcellarlaw1_LabelFirst.l0 k (ba s) (ba l) (n : Int)) true := by
  intro l
  induction hl : l.length using Nat.strongRecOn generalizing l with
  | _ m ih =>
    intro n hb hc
    have hrl := runes_le s
    by_cases e : l = []
    · subst e
      refine Ev.step (f := fun _ => some true) (fun k => ?_) (Ev.now _)
      simp only [rootcellarlaw1_LabelFirst.l0]
      rw [ba_toList, if_pos rfl, count_eq s (by omega)]
      simp only [Option.bind_some]
      rw [runes_nil, List.length_nil] at hc
      rw [show (n : Int) = ((runes s).length : Int) by omega, beq_self_eq_true]
    · have hw := decodeL_le l e
      have hw1 := decodeL_width l
      have hs2 := drop_short l e
      have h4 : (decodeL l).2 ≤ 4 := by rw [decodeL_N]; exact (dN_width _ _ _ _ _ (by omega)).1
      have hf : firstL l 1 = l.take (decodeL l).2 := by unfold firstL; rw [show (1 : Int).toNat = 1 from rfl, cutN_one l e]
      have hfl : (firstL l 1).length = (decodeL l).2 := by rw [hf, List.length_take]; omega
      have hcnt : (runes (firstL l 1)).length = 1 := by
        unfold firstL
        rw [runes_take, show (1 : Int).toNat = 1 from rfl, runes_cons l e, List.take_succ_cons, List.take_zero]; rfl
      rw [runes_cons l e, List.length_cons] at hc
      have h := ih _ (by omega) (l.drop (decodeL l).2) rfl (n + 1) (by omega) (by omega)
      refine Ev.step (fun k => ?_) h
      simp only [rootcellarlaw1_LabelFirst.l0]
      rw [ba_toList, if_neg e, first_eq l 1 (by omega) (by omega)]
      simp only [Option.bind_some]
      rw [ba_toList, if_neg (by intro h0; rw [h0] at hfl; simp at hfl; omega), ba_size, hfl, if_neg (by omega), count_eq _ (by omega)]
      simp only [Option.bind_some]
      rw [hcnt, if_pos (show ((1 : Nat) : Int) = 1 from rfl), if_pos (by omega), if_pos (by rw [ba_size]; omega), Int.toNat_natCast, ba_drop, w64 _ (by omega) (by omega)]
      rfl
theorem LabelFirst (a0 : ByteArray) (a1 a2 : Int) (_hs : a0.size ≤ maxLen) (hn : -9223372036854775808 ≤ a1 ∧ a1 ≤ 9223372036854775807) (hm : -9223372036854775808 ≤ a2 ∧ a2 ≤ 9223372036854775807) : ∃ k, rootcellarlaw1_LabelFirst.f k a0 a1 a2 = some true := by
  obtain ⟨l, rfl⟩ := ex_ba a0
  refine Ev.rounds (Ev.congr (f := fun k => rootcellarlaw1_LabelFirst.j0 k (ba l) a1 a2 true (decide (((ba l).size : Int) > 400))) (fun k => by unfold rootcellarlaw1_LabelFirst.f; rw [shown1]; rfl) ?_)
  rw [ba_size]
  by_cases hl : (l.length : Int) > 400
  · rw [decide_eq_true hl]
    exact Ev.step (f := fun _ => some true) (fun k => rfl) (Ev.now _)
  · rw [decide_eq_false hl]
    have hfl : (firstL l a1).length ≤ l.length := by unfold firstL; rw [List.length_take]; omega
    have hmn : mn a1 a2 = min a1 a2 := by unfold mn; omega
    refine Ev.step (fun k => ?_) (first_loop l (by omega) l 0 (by omega) (by omega))
    simp only [rootcellarlaw1_LabelFirst.j0]
    rw [if_neg (by decide), first_eq l a1 (by omega) hn]
    simp only [Option.bind_some]
    rw [first_eq (firstL l a1) a2 (by omega) hm]
    simp only [Option.bind_some]
    rw [hmn, first_eq l (min a1 a2) (by omega) (by omega)]
    simp only [Option.bind_some]
    rw [first_first, if_pos rfl]
    rfl
theorem ref_fold_l (l : List UInt8) (h : l.length ≤ 1000000) : ∀ (d i : Nat), i + d = l.length → Ev (fun k => rootcellarref1_Fold.l0 k (ba l) ((l.take i).map fun c => ((foldB c).toNat : Int)) (i : Int)) (ba (foldL l)) := by
  intro d
  induction d with
  | zero =>
    intro i hi
    refine Ev.step (f := fun _ => some (ba (foldL l))) (fun k => ?_) (Ev.now _)
    simp only [rootcellarref1_Fold.l0]
    rw [ba_size, if_neg (by omega), List.take_of_length_le (by omega)]
    unfold strOfNums foldL ba
    simp [List.map_map, Function.comp_def]
  | succ d ih =>
    intro i hi
    have hlt : i < l.length := by omega
    have hb := bt_ba l i hlt
    have hr := ih (i + 1) (by omega)
    have e : (l.take (i + 1)).map (fun c => ((foldB c).toNat : Int)) = (l.take i).map (fun c => ((foldB c).toNat : Int)) ++ [((foldB (l[i]'hlt)).toNat : Int)] := by
      rw [List.take_succ_eq_append_getElem hlt, List.map_append]; rfl
    have hf := foldB_toNat (l[i]'hlt)
    have hc := (l[i]'hlt).toNat_lt
    rw [e] at hr
    refine Ev.step (fun k => ?_) hr
    simp only [rootcellarref1_Fold.l0]
    rw [ba_size, if_pos (by omega), if_pos (by omega), hb, w64 _ (by omega) (by omega)]
    have hlen : ((l.take i).map fun c => ((foldB c).toNat : Int)).length < 140737488355328 := by rw [List.length_map, List.length_take]; omega
    by_cases h1 : 65 ≤ (l[i]'hlt).toNat
    · rw [if_pos (by omega)]
      by_cases h2 : (l[i]'hlt).toNat ≤ 90
      · rw [if_pos (by omega), if_pos hlen, hf, if_pos ⟨h1, h2⟩]
        rw [show (((l[i]'hlt).toNat : Int) + 32) % 256 = (((l[i]'hlt).toNat + 32 : Nat) : Int) by omega]
        rfl
      · rw [if_neg (by omega), if_pos hlen, hf, if_neg (by omega)]
        rfl
    · rw [if_neg (by omega), if_pos hlen, hf, if_neg (by omega)]
      rfl
theorem ref_fold (l : List UInt8) (h : l.length ≤ 1000000) : Ev (fun k => rootcellarref1_Fold.f k (ba l)) (ba (foldL l)) := ref_fold_l l h l.length 0 (by omega)
theorem LabelNames (a0 : ByteArray) (_hs : a0.size ≤ maxLen) : ∃ k, rootcellarlaw1_LabelNames.f k a0 = some true := by
  obtain ⟨l, rfl⟩ := ex_ba a0
  refine Ev.rounds (Ev.congr (f := fun k => rootcellarlaw1_LabelNames.j0 k (ba l) true (decide (((ba l).size : Int) > 1000))) (fun k => by unfold rootcellarlaw1_LabelNames.f; rw [shown1]; rfl) ?_)
  rw [ba_size]
  by_cases hl : (l.length : Int) > 1000
  · rw [decide_eq_true hl]
    exact Ev.step (f := fun _ => some true) (fun k => rfl) (Ev.now _)
  · rw [decide_eq_false hl]
    refine Ev.step (fun k => names_j0 k _ _) ?_
    simp only [right_eq l (show l.length ≤ 1000000000 by omega), fold_eq l (show l.length ≤ 1000000000 by omega), Option.bind_some]
    refine Ev.bind (ref_right l (by omega)) (ev_pos (beq_self_eq_true _) ?_)
    refine Ev.bind (ref_fold l (by omega)) ?_
    exact Ev.congr (f := fun _ => some true) (fun k => by rw [beq_self_eq_true]) (Ev.now _)
theorem joins_j1 (l : List UInt8) (h : l.length ≤ 1000) : Ev (fun k => rootcellarlaw1_LabelJoins.j1 k (ba l) false) true := by
  refine Ev.step (f := fun _ => some true) (fun k => ?_) (Ev.now _)
  simp only [rootcellarlaw1_LabelJoins.j1]
  have hl := foldL_length l
  rw [if_neg (by decide), fold_eq l (by omega)]
  simp only [Option.bind_some]
  rw [fold_eq _ (by omega)]
  simp only [Option.bind_some]
  rw [foldL_idem, if_pos rfl, ba_size, ba_size, hl, if_pos rfl, right_eq _ (by omega), right_eq _ (by omega)]
  simp only [Option.bind_some]
  rw [fold_right, if_pos (beq_self_eq_true _), count_eq _ (by omega), count_eq _ (by omega)]
  simp only [Option.bind_some]
  rw [fold_count, beq_self_eq_true]
theorem LabelJoins (a0 a1 : ByteArray) (_hs : a0.size ≤ maxLen) (_ht : a1.size ≤ maxLen) : ∃ k, rootcellarlaw1_LabelJoins.f k a0 a1 = some true := by
  obtain ⟨s, rfl⟩ := ex_ba a0
  obtain ⟨t, rfl⟩ := ex_ba a1
  have no : Ev (fun k => rootcellarlaw1_LabelJoins.j0 k (ba s) (ba t) true true) true := Ev.step (f := fun _ => some true) (fun k => rfl) (Ev.now _)
  refine Ev.rounds (Ev.congr (f := fun k => if ((ba s).size : Int) > 500 then (rootcellarlaw1_LabelJoins.j0 k (ba s) (ba t) true true) else (rootcellarlaw1_LabelJoins.j0 k (ba s) (ba t) true (decide (((ba t).size : Int) > 500)))) (fun k => by unfold rootcellarlaw1_LabelJoins.f; rw [shown1]; rfl) ?_)
  rw [ba_size, ba_size]
  by_cases h1 : (s.length : Int) > 500
  · exact ev_pos h1 no
  by_cases h2 : (t.length : Int) > 500
  · rw [decide_eq_true h2]; exact ev_neg h1 no
  rw [decide_eq_false h2]
  refine ev_neg h1 ?_
  have hj := joins_j1 s (by omega)
  have rs := runes_le s
  have rt := runes_le t
  refine Ev.step (fun k => ?_) hj
  simp only [rootcellarlaw1_LabelJoins.j0]
  rw [if_neg (by decide), valid_eq s (by omega), valid_eq t (by omega)]
  simp only [Option.bind_some]
  cases hv : validD s
  · exact if_neg (by decide)
  rw [if_pos rfl]
  cases hw : validD t
  · exact if_neg (by decide)
  have hra := runes_append s t hv
  have hva : validD (s ++ t) = true := by rw [valid_runes, hra, List.all_append, ← valid_runes, ← valid_runes, hv, hw]; rfl
  have hca : (runes (s ++ t)).length = (runes s).length + (runes t).length := by rw [hra, List.length_append]
  rw [if_pos (show true = true from rfl), ba_size, ba_size, if_pos (show s.length + t.length ≤ 9223372036854775807 by omega), ba_append, valid_eq _ (by rw [List.length_append]; omega)]
  have c1 := count_eq (s ++ t) (by rw [List.length_append]; omega)
  have c2 := count_eq s (show s.length ≤ 1000000000 by omega)
  have c3 := count_eq t (show t.length ≤ 1000000000 by omega)
  have f1 := fold_eq (s ++ t) (by rw [List.length_append]; omega)
  have f2 := fold_eq s (show s.length ≤ 1000000000 by omega)
  have f3 := fold_eq t (show t.length ≤ 1000000000 by omega)
  have s1 : (((runes (s ++ t)).length : Nat) : Int) = wrap64 ((((runes s).length : Nat) : Int) + (((runes t).length : Nat) : Int)) := by rw [hca, w64 _ (by omega) (by omega)]; omega
  have s2 : (foldL s).length + (foldL t).length ≤ 9223372036854775807 := by rw [foldL_length, foldL_length]; omega
  rw [hva, Option.bind_some, if_pos (show true = true from rfl), c1, Option.bind_some, c2, Option.bind_some, c3, Option.bind_some, if_pos s1, f1, Option.bind_some, f2, Option.bind_some, f3, Option.bind_some, ba_size, ba_size, if_pos s2, ba_append, foldL_append]
  rw [show ((ba (foldL s ++ foldL t)).toList != (ba (foldL s ++ foldL t)).toList) = false by simp]
theorem plain_end (l : List UInt8) (hl : l.length ≤ 400) (hp : ∀ c ∈ l, plainB c) : Ev (fun k => rootcellarlaw1_LabelPlain.l1 k (ba l) (ba (foldL l)) ((l.length : Nat) : Int)) true := by
  refine Ev.step (f := fun _ => some true) (fun k => ?_) (Ev.now _)
  simp only [rootcellarlaw1_LabelPlain.l1]
  rw [ba_size (foldL l), foldL_length, if_neg (by omega), ba_toList]
  have c1 := right_eq l (show l.length ≤ 1000000000 by omega)
  have c2 := valid_eq l (show l.length ≤ 1000000000 by omega)
  have c3 := count_eq l (show l.length ≤ 1000000000 by omega)
  have c4 := quote_eq l (show l.length ≤ 1000000000 by omega)
  rw [valid_plain l hp] at c2
  rw [runes_plain l hp, List.length_map] at c3
  rw [right_plain l hp] at c1
  by_cases e : l = []
  · subst e
    rw [if_pos (show ([] : List UInt8) = [] from rfl), c1, Option.bind_some, if_pos (by decide), c2, Option.bind_some, if_pos (show true = true from rfl), c3, Option.bind_some, ba_size]
    rfl
  · have hq : quoteL l = l := by unfold quoteL; rw [if_neg e, quoteR_plain l hp]
    have hie : l.isEmpty = false := by simpa using e
    rw [hie, Bool.not_false, Bool.true_and] at c1
    rw [if_neg e, c4, Option.bind_some, hq, ba_toList, if_pos (show l = l from rfl), c1, Option.bind_some, ba_size]
    have s1 : (decide (l.length ≤ 24) == decide ((l.length : Int) ≤ 24)) = true := by rw [beq_iff_eq, decide_eq_decide]; omega
    rw [if_pos s1, c2, Option.bind_some, if_pos (show true = true from rfl), c3, Option.bind_some, beq_self_eq_true]
theorem plain_l1 (l : List UInt8) (hl : l.length ≤ 400) (hp : ∀ c ∈ l, plainB c) : ∀ (d i : Nat), i + d = l.length → Ev (fun k => rootcellarlaw1_LabelPlain.l1 k (ba l) (ba (foldL l)) (i : Int)) true := by
  intro d
  induction d with
  | zero =>
    intro i hi
    obtain rfl : i = l.length := by omega
    exact plain_end l hl hp
  | succ d ih =>
    intro i hi
    have hlt : i < l.length := by omega
    have hlf : i < (foldL l).length := by rw [foldL_length]; exact hlt
    have hb := bt_ba l i hlt
    have hf := bt_ba (foldL l) i hlf
    have hfe : (foldL l)[i]'hlf = foldB (l[i]'hlt) := List.getElem_map ..
    rw [hfe, foldB_toNat] at hf
    have hpc := hp (l[i]'hlt) (List.getElem_mem hlt)
    unfold plainB at hpc
    refine Ev.step (fun k => ?_) (ih (i + 1) (by omega))
    simp only [rootcellarlaw1_LabelPlain.l1]
    have w : wrap64 ((i : Int) + 1) = ((i + 1 : Nat) : Int) := by rw [w64 _ (by omega) (by omega)]; rfl
    have z0 : (i : Int) < (((foldL l).length : Nat) : Int) := by omega
    have z1 : (0 : Int) ≤ (i : Int) := by omega
    have z2 : (i : Int) < ((l.length : Nat) : Int) := by omega
    rw [ba_size, ba_size, if_pos z0, if_pos z1, hb, hf, w]
    generalize (l[i]'hlt).toNat = c at *
    by_cases hc : 65 ≤ c ∧ c ≤ 90
    · rw [if_pos hc, if_pos (show ((c + 32 : Nat) : Int) ≥ 65 by omega), if_neg (show ¬ ((c + 32 : Nat) : Int) ≤ 90 by omega), if_pos z2, if_neg (show ¬ ((c + 32 : Nat) : Int) = (c : Int) by omega), if_pos (show ((c + 32 : Nat) : Int) = ((c : Int) + 32) % 256 by omega)]
    · rw [if_neg hc]
      by_cases h65 : 65 ≤ c
      · rw [if_pos (show (c : Int) ≥ 65 by omega), if_neg (show ¬ (c : Int) ≤ 90 by omega), if_pos z2, if_pos (show (c : Int) = (c : Int) from rfl)]
      · rw [if_neg (show ¬ (c : Int) ≥ 65 by omega), if_pos z2, if_pos (show (c : Int) = (c : Int) from rfl)]
theorem plain_l0 (l : List UInt8) (hl : l.length ≤ 400) : ∀ (d i : Nat), i + d = l.length → (∀ c ∈ l.take i, plainB c) → Ev (fun k => rootcellarlaw1_LabelPlain.l0 k (ba l) (i : Int)) true := by
  intro d
  induction d with
  | zero =>
    intro i hi hp
    rw [List.take_of_length_le (by omega)] at hp
    have h := plain_l1 l hl hp l.length 0 (by omega)
    refine Ev.step (fun k => ?_) h
    simp only [rootcellarlaw1_LabelPlain.l0]
    rw [ba_size, if_neg (by omega), fold_eq l (by omega), Option.bind_some]
    rfl
  | succ d ih =>
    intro i hi hp
    have hlt : i < l.length := by omega
    have hb := bt_ba l i hlt
    have w : wrap64 ((i : Int) + 1) = ((i + 1 : Nat) : Int) := by rw [w64 _ (by omega) (by omega)]; rfl
    have z1 : (0 : Int) ≤ (i : Int) := by omega
    have z2 : (i : Int) < ((l.length : Nat) : Int) := by omega
    have hnx : plainB (l[i]'hlt) → ∀ c ∈ l.take (i + 1), plainB c := by
      intro h c hc
      rw [List.take_succ_eq_append_getElem hlt, List.mem_append] at hc
      rcases hc with hc | hc
      · exact hp c hc
      · rw [List.mem_singleton] at hc; subst hc; exact h
    unfold plainB at hnx
    generalize hC : (l[i]'hlt).toNat = c at *
    have ev : ∀ (g : Nat → Option Bool), (∀ k, g (k + 1) = some true) → Ev g true := fun g hg => Ev.step (f := fun _ => some true) hg (Ev.now _)
    by_cases h1 : c < 33
    · refine ev _ (fun k => ?_)
      simp only [rootcellarlaw1_LabelPlain.l0]
      rw [ba_size, if_pos z2, if_pos z1, hb, if_pos (show (c : Int) < 33 by omega)]
    by_cases h2 : 126 < c
    · refine ev _ (fun k => ?_)
      simp only [rootcellarlaw1_LabelPlain.l0]
      rw [ba_size, if_pos z2, if_pos z1, hb, if_neg (show ¬ (c : Int) < 33 by omega), if_pos (show (c : Int) > 126 by omega)]
    by_cases h3 : c = 92
    · refine ev _ (fun k => ?_)
      simp only [rootcellarlaw1_LabelPlain.l0]
      rw [ba_size, if_pos z2, if_pos z1, hb, if_neg (show ¬ (c : Int) < 33 by omega), if_neg (show ¬ (c : Int) > 126 by omega), if_pos (show (c : Int) = 92 by omega)]
    refine Ev.step (fun k => ?_) (ih (i + 1) (by omega) (hnx (by omega)))
    simp only [rootcellarlaw1_LabelPlain.l0]
    rw [ba_size, if_pos z2, if_pos z1, hb, if_neg (show ¬ (c : Int) < 33 by omega), if_neg (show ¬ (c : Int) > 126 by omega), if_neg (show ¬ (c : Int) = 92 by omega), w]
theorem LabelPlain (a0 : ByteArray) (_hs : a0.size ≤ maxLen) : ∃ k, rootcellarlaw1_LabelPlain.f k a0 = some true := by
  obtain ⟨l, rfl⟩ := ex_ba a0
  refine Ev.rounds (Ev.congr (f := fun k => rootcellarlaw1_LabelPlain.j0 k (ba l) true (decide (((ba l).size : Int) > 400))) (fun k => by unfold rootcellarlaw1_LabelPlain.f; rw [shown1]; rfl) ?_)
  rw [ba_size]
  by_cases hl : (l.length : Int) > 400
  · rw [decide_eq_true hl]
    exact Ev.step (f := fun _ => some true) (fun k => rfl) (Ev.now _)
  · rw [decide_eq_false hl]
    exact Ev.step (fun k => rfl) (plain_l0 l (by omega) l.length 0 (by omega) (by simp))
end Go.Proofs.YtapkghkcaflkmaaDoor.Pu
end
section
/- What rows of this list of laid variables share: what is laid, and the witness' world. -/



















namespace Go.Proofs.YtapkghkcaflkmaaDoor.RowB0
open Go.Shelf Go.ChangeShapes Go.WideShapes Go.ChangeAt Go.RowKit Go.Lib Go.Deep
theorem own : ownKnob Tryd.prog.godebug = none := by kernel_rfl
theorem laidOut : laidOutB Tryd.prog = true := by kernel_rfl
def litOf : DataW Unit → Value
  | .lit (.int k z) => .int k z
  | _ => .bool false
/-- The cells that an array of numbers, or of pairs of numbers, takes. -/
def cellsOf : DataW Unit → List Value
  | .agg l => l.flatMap fun | .agg m => m.map litOf | x => [litOf x]
  | x => [litOf x]
theorem tabIs_of_reads {P : Program} {W : World} {name : String} {k : IntKind} {zs : List Int} {g : Nat} {t e : TypeId} {n : Nat}
    (hg : P.globalNamed name = some g) (hty : (P.globals[g]?).map (·.type) = some t) (ht : P.underlying t = some (.array n e)) (he : P.underlying e = some (.int k)) (hce : P.cellsOf e = 1) (hct : P.cellsOf t = n)
    (h : VarReads P W name (tabData k zs)) : TabIs P W name k zs := by
  obtain ⟨g', t', cs, fuel, p, hg', ht', hvar, hd⟩ := h
  obtain rfl := Option.some.inj (hg.symm.trans hg')
  obtain rfl := Option.some.inj (hty.symm.trans ht')
  unfold TabIs
  rw [hvar, ← cells_of_tab ht he hce hct hd]
theorem accept_eq : (Rows.laid_unicode_utf8_acceptRanges : DataW Unit) = acceptData := by kernel_rfl
theorem first_eq : Rows.laid_unicode_utf8_first = firstData := by unfold Rows.laid_unicode_utf8_first; exact Pinned.utf8First_eq
def dbZ : List Int := Lib.deBruijn64tab.map fun (n : Nat) => (n : Int)
theorem db_eq : (Rows.laid_math_bits_deBruijn64tab : DataW Unit) = tabData .u8 dbZ := by kernel_rfl
theorem db_at {W : World} (h : TabIs Tryd.prog W "math/bits.deBruijn64tab" .u8 dbZ) : W.cell? ⟨7, 15, none⟩ = some (.int .u8 4) := by
  have c := h.cell (g := 7) (by kernel_rfl) 15 (by decide +kernel)
  have e : dbZ.getD 15 0 = 4 := by decide +kernel
  rw [e] at c
  exact c
abbrev laids : List (String × DataW Unit) := [("math/bits.deBruijn32tab", Rows.laid_math_bits_deBruijn32tab), ("math/bits.deBruijn64tab", Rows.laid_math_bits_deBruijn64tab), ("internal/strconv.uint64pow10", Rows.laid_internal_strconv_uint64pow10), ("unicode/utf8.acceptRanges", Rows.laid_unicode_utf8_acceptRanges), ("unicode/utf8.first", Rows.laid_unicode_utf8_first)]
theorem tabs {W : World} (h : laidMetH Tryd.prog laids W) : Lf.Tabs W := by
  have h' : laidMet Tryd.prog laids W := h
  have h1 := Lib.laidMet.reads h' (n := "unicode/utf8.acceptRanges") (.tail _ (.tail _ (.tail _ (.head _))))
  have h2 := Lib.laidMet.reads h' (n := "unicode/utf8.first") (.tail _ (.tail _ (.tail _ (.tail _ (.head _)))))
  rw [accept_eq] at h1
  rw [first_eq] at h2
  have h3 := Lib.laidMet.reads h' (n := "math/bits.deBruijn64tab") (.tail _ (.head _))
  rw [db_eq] at h3
  exact ⟨utf8Tabs_of_readsT (U8Types.of196 Lf.laysValid) ⟨by kernel_rfl, by kernel_rfl, by kernel_rfl, by kernel_rfl, by kernel_rfl, by kernel_rfl, by kernel_rfl⟩ h2 h1, db_at (tabIs_of_reads (g := 7) (t := 102) (e := 5) (n := 64) (by kernel_rfl) (by kernel_rfl) Tryd.underlying102 Tryd.underlying5 (by kernel_rfl) (by kernel_rfl) h3)⟩
/-- A world for the witness: the settled one, the laid variables holding what their initialisers lay. -/
noncomputable def laidWorld (os : Os) : World :=
  let w0 := World.holding Tryd.prog os ⟨#[], #[], []⟩
  let put (h : Array Obj) (g : Nat) (cs : Array Value) : Array Obj := h.modify g fun
    | .cells _ t frozen => .cells cs t frozen
    | o => o
  let h0 := put w0.heap 6 (cellsOf Rows.laid_math_bits_deBruijn32tab).toArray
  let h1 := put h0 7 (cellsOf Rows.laid_math_bits_deBruijn64tab).toArray
  let h2 := put h1 3 (cellsOf Rows.laid_internal_strconv_uint64pow10).toArray
  let h3 := put h2 1 (cellsOf Rows.laid_unicode_utf8_acceptRanges).toArray
  let h4 := put h3 0 (Lib.firstTab.map fun z => Value.int .u8 z).toArray
  { w0 with heap := h4 }
theorem laid_met (os : Os) (args : Array Value) : laidMet Tryd.prog laids ((laidWorld os).forCall (fun _ _ => 0) ⟨#[], args, []⟩).memory := by
  unfold laids
  rw [first_eq]
  exact laidMet_of_run' 8 (by kernel_rfl) (by kernel_rfl)
end Go.Proofs.YtapkghkcaflkmaaDoor.RowB0
end
section
/- Arguments of the rows, opened: a number, a truth value, a text. -/














namespace Go.Proofs.YtapkghkcaflkmaaDoor.RowN
open Go.Shelf Go.ChangeShapes Go.WideShapes Go.ChangeAt Go.RowKit Go.Lib Go.Deep
open Go.ChangeMaps (open_string shut_string)
set_option maxRecDepth 100000
section
variable {H : Type} {enc : TypeId × Value → H} {W : World} {base b0 : Nat} {sp : Nat → Bool} {held : Bool}
theorem open_num {t : TypeId} {k : IntKind} (ht : Tryd.prog.underlying t = some (.int k)) {r : Reach} {v : Value} {d : DataW H} {p : List MemPlace} (hv : Value.okWide Tryd.prog W r b0 t v)
    (h : DataW.Trod enc Tryd.prog W base sp held t v d p) : ∃ a : Int, v = .int k a ∧ (Lit.int k a).wf = true := by
  obtain ⟨a, rfl, _, _, w⟩ := open_int ht hv h
  exact ⟨a, rfl, w⟩
theorem open_truth {t : TypeId} (ht : Tryd.prog.underlying t = some .bool) {r : Reach} {v : Value} {d : DataW H} {p : List MemPlace} (hv : Value.okWide Tryd.prog W r b0 t v)
    (h : DataW.Trod enc Tryd.prog W base sp held t v d p) : ∃ a : Bool, v = .bool a := by
  obtain ⟨a, rfl, _⟩ := open_bool ht hv h
  exact ⟨a, rfl⟩
theorem open_text {t : TypeId} (ht : Tryd.prog.underlying t = some .string) {r : Reach} {v : Value} {d : DataW H} {p : List MemPlace} (hv : Value.okWide Tryd.prog W r b0 t v)
    (h : DataW.Trod enc Tryd.prog W base sp held t v d p) : ∃ s : ByteArray, v = .string s ∧ s.size ≤ maxLen := by
  obtain ⟨s, rfl, _, _, w⟩ := open_string ht hv h
  exact ⟨s, rfl, w⟩
theorem int_b {a : Int} (w : (Lit.int .i64 a).wf = true) : -9223372036854775808 ≤ a ∧ a ≤ 9223372036854775807 := bounds_i64 w
theorem u64_b {a : Int} (w : (Lit.int .u64 a).wf = true) : 0 ≤ a ∧ a < 18446744073709551616 := by have := bounds_u64 w; omega
theorem u32_b {a : Int} (w : (Lit.int .u32 a).wf = true) : 0 ≤ a ∧ a < 4294967296 := by have := bounds_u32 w; omega
theorem u8_b {a : Int} (w : (Lit.int .u8 a).wf = true) : 0 ≤ a ∧ a < 256 := by have := bounds_u8 w; omega
end
end Go.Proofs.YtapkghkcaflkmaaDoor.RowN
end
