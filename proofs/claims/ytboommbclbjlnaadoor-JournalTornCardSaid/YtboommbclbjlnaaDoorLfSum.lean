/- seal.Sum, walked: the register, byte by byte, by the table of half bytes. -/
import Derived.Test.YtboommbclbjlnaaDoorLfMade
import Derived.Test.YtboommbclbjlnaaDoorLfLe
namespace Go.Proofs.YtboommbclbjlnaaDoor.Lf
open Go.RowKit
def nib (n : Int) : Int := bits .xor .u32 (n / 16) ((tabL.getD (bits .and .u32 n 15).toNat 0 : Nat) : Int)
def byteStep (n : Int) (c : UInt8) : Int := nib (nib (bits .xor .u32 n ((c.toNat : Int) % 4294967296)))
def sumI (l : List UInt8) : Int := l.foldl byteStep 4294967295
theorem sumI_snoc (l : List UInt8) (c : UInt8) : sumI (l ++ [c]) = byteStep (sumI l) c := by simp [sumI]
theorem xor_range (a b : Int) : 0 ≤ bits .xor .u32 a b ∧ bits .xor .u32 a b < 4294967296 := by
  have h : bits .xor .u32 a b = IntKind.u32.wrap ((BitVec.ofInt 32 a ^^^ BitVec.ofInt 32 b).toNat : Int) := rfl
  rw [h, IntKind.wrap_u32']
  omega
theorem and15 (n : Int) (h0 : 0 ≤ n) (h1 : n < 4294967296) : 0 ≤ bits .and .u32 n 15 ∧ bits .and .u32 n 15 < 16 := by
  rw [u32_and n 15 h0 h1 (by omega) (by omega)]
  have := Nat.and_lt_two_pow (n := 4) n.toNat (show (15 : Int).toNat < 2 ^ 4 by decide)
  omega
theorem byteStep_range (n : Int) (c : UInt8) : 0 ≤ byteStep n c ∧ byteStep n c < 4294967296 := xor_range _ _
theorem sumI_range (l : List UInt8) : 0 ≤ sumI l ∧ sumI l < 4294967296 := by
  rcases List.eq_nil_or_concat l with rfl | ⟨r, c, rfl⟩
  · simp [sumI]
  · rw [List.concat_eq_append, sumI_snoc]; exact byteStep_range _ _
set_option maxHeartbeats 400000 in
set_option maxRecDepth 100000 in
theorem sum_a (s : ByteArray) (w : World) (hs : s.size ≤ 9223372036854775807) :
    Calls Tryd.prog 66 #[.string s] w fun e w' => e = .returned (.int .u32 (bits .xor .u32 4294967295 (sumI s.data.toList))) ∧ Below w.heap.size w w' := by
  go_enter Tryd.func66, Tryd.ntmps66
  go_wp2_with (go_at_call 76; refine (made_any _).mono ?_; rintro e w1 ⟨he, hb1⟩; unfold tab16 at he; subst he)
  generalize hW2 : w1.alloc _ = W2
  obtain ⟨hc2, hz2, hB2⟩ : (∀ i, i < 16 → W2.cell? ⟨w1.heap.size, i, none⟩ = some (.int .u32 (tabL.getD i 0 : Nat))) ∧ w1.heap.size < W2.heap.size ∧ Below w.heap.size w W2 := by
    subst hW2
    refine ⟨fun i hi => ?_, by simp, hb1.alloc hb1.size _⟩
    have : i = 0 ∨ i = 1 ∨ i = 2 ∨ i = 3 ∨ i = 4 ∨ i = 5 ∨ i = 6 ∨ i = 7 ∨ i = 8 ∨ i = 9 ∨ i = 10 ∨ i = 11 ∨ i = 12 ∨ i = 13 ∨ i = 14 ∨ i = 15 := by omega
    rcases this with rfl | rfl | rfl | rfl | rfl | rfl | rfl | rfl | rfl | rfl | rfl | rfl | rfl | rfl | rfl | rfl <;> simp [tabL]
  clear hW2
  obtain ⟨W3, C, hcv, hc3, hb3⟩ := conv_str W2 s
  have hB3 : Below w.heap.size w W3 := hB2.trans (hb3.mono hB2.size)
  have ht3 : ∀ i, i < 16 → W3.cell? ⟨w1.heap.size, i, none⟩ = some (.int .u32 (tabL.getD i 0 : Nat)) := fun i hi => (hb3.cell (p := ⟨w1.heap.size, i, none⟩) hz2).trans (hc2 i hi)
  have HT := Lib.hid ht3
  have HC := Lib.hid hc3
  clear hc2 ht3 hc3
  go_simp
  go_wp2
  go_loop [4, 11] (fun n j => ∃ k : Nat, k ≤ s.size ∧ j = .int .i64 k ∧ n = .int .u32 (sumI (s.data.toList.take k))) (fun _ j => s.size - (intOf j).toNat)
  case atStart => exact ⟨0, Nat.zero_le _, rfl, rfl⟩
  case round =>
    obtain ⟨k, hk, rfl, rfl⟩ := hrel
    by_cases hlt : k < s.size
    · have hck := HC.out k hlt
      obtain ⟨hn0, hn1⟩ := sumI_range (s.data.toList.take k)
      have hkl : k < s.data.toList.length := by rw [Array.length_toList]; exact hlt
      have hnx : byteStep (sumI (s.data.toList.take k)) (s.data.toList.getD k 0) = sumI (s.data.toList.take (k + 1)) := by
        rw [take_snoc _ _ hkl, sumI_snoc, List.getD_eq_getElem?_getD, List.getElem?_eq_getElem hkl, Option.getD_some]
      unfold byteStep nib at hnx
      obtain ⟨n, hn⟩ : ∃ n, sumI (s.data.toList.take k) = n := ⟨_, rfl⟩
      rw [hn] at hn0 hn1 hnx ⊢
      obtain ⟨c, hc⟩ : ∃ c, s.data.toList.getD k 0 = c := ⟨_, rfl⟩
      rw [hc] at hck hnx
      obtain ⟨p0, p1⟩ := xor_range n ((c.toNat : Int) % 4294967296)
      obtain ⟨x1, hx1⟩ : ∃ x, bits .xor .u32 n ((c.toNat : Int) % 4294967296) = x := ⟨_, rfl⟩
      rw [hx1] at p0 p1 hnx
      obtain ⟨q0, q1⟩ := and15 x1 p0 p1
      obtain ⟨i1, hi1⟩ : ∃ x, bits .and .u32 x1 15 = x := ⟨_, rfl⟩
      rw [hi1] at q0 q1 hnx
      have hd1 := HT.out i1.toNat (by omega)
      obtain ⟨v1, hv1⟩ : ∃ x, ((tabL.getD i1.toNat 0 : Nat) : Int) = x := ⟨_, rfl⟩
      rw [hv1] at hd1 hnx
      obtain ⟨r0, r1⟩ := xor_range (x1 / 16) v1
      obtain ⟨x2, hx2⟩ : ∃ x, bits .xor .u32 (x1 / 16) v1 = x := ⟨_, rfl⟩
      rw [hx2] at r0 r1 hnx
      obtain ⟨s0, s1⟩ := and15 x2 r0 r1
      obtain ⟨i2, hi2⟩ : ∃ x, bits .and .u32 x2 15 = x := ⟨_, rfl⟩
      rw [hi2] at s0 s1 hnx
      have hd2 := HT.out i2.toNat (by omega)
      obtain ⟨v2, hv2⟩ : ∃ x, ((tabL.getD i2.toNat 0 : Nat) : Int) = x := ⟨_, rfl⟩
      rw [hv2] at hd2 hnx
      have Hn := Lib.hid hn
      have Hc := Lib.hid hc
      have Hx := Lib.hid hnx
      clear hn hc hnx hv1 hv2 hkl
      go_wp2
      go_round
      case rel => exact ⟨k + 1, by omega, by go_num, by rw [← Hx.out]⟩
      case measure => simp [intOf]; omega
    · obtain rfl : k = s.size := by omega
      have he : s.data.toList.take s.size = s.data.toList := by rw [List.take_of_length_le]; rw [Array.length_toList]; exact Nat.le_refl _
      rw [he]
      have hsg : IntKind.u32.signed = false := rfl
      go_wp2
      go_ret
      exact ⟨ret_int rfl, hB3⟩
def seal_Sum.f (a0 : ByteArray) : Option Int := if a0.size ≤ 9223372036854775807 then some (bits .xor .u32 4294967295 (sumI a0.data.toList)) else none
theorem seal_Sum.calls (a0 : ByteArray) (r : Int) (w : World) (h : seal_Sum.f a0 = some r) :
    Calls Tryd.prog 66 #[.string a0] w fun e w' => e = .returned (.int .u32 r) ∧ Below w.heap.size w w' := by
  unfold seal_Sum.f at h
  by_cases hs : a0.size ≤ 9223372036854775807
  · rw [if_pos hs] at h
    injection h with h
    subst h
    exact sum_a a0 w hs
  · rw [if_neg hs] at h
    exact absurd h (by simp)
end Go.Proofs.YtboommbclbjlnaaDoor.Lf
