/- internal/strconv.ParseUint at base 10, 48 bits, walked: of any text. -/
import Derived.Test.YtjoaiolacalemaaDoorLfParse
namespace Go.Proofs.YtjoaiolacalemaaDoor.Lf
open Go.RowKit
set_option maxHeartbeats 32000000 in
set_option maxRecDepth 100000 in
theorem parse10 (s : ByteArray) (w : World) (hs : s.size ≤ 9223372036854775806) :
    Calls Tryd.prog 30 #[.string s, .int .i64 10, .int .i64 48] w fun e w' => e = .returned (.tuple #[.int .u64 (puL 10 281474976710655 s.data.toList).1, errV (puL 10 281474976710655 s.data.toList).2]) ∧ Below w.heap.size w w' := by
  obtain ⟨R, hR⟩ : ∃ R, puL 10 281474976710655 s.data.toList = R := ⟨_, rfl⟩
  rw [hR]
  unfold puL at hR
  have hss : s.data.toList.length = s.size := by rw [Array.length_toList]; rfl
  by_cases he : s.data.toList = []
  · rw [if_pos he] at hR
    subst hR
    have e1 : s.toList = [] := by rw [ByteArray.toList_eq]; exact he
    clear he
    go_enter Tryd.func30, Tryd.ntmps30
    go_wp2
    go_ret2
    exact ⟨rfl, Below.refl _ _⟩
  · rw [if_neg he] at hR
    have e1 : ¬ s.toList = [] := by rw [ByteArray.toList_eq]; exact he
    have e2 : s.toList.isEmpty = false := by rw [ByteArray.toList_eq]; simpa using he
    obtain ⟨W1, C, hcv, hc1, hf1, hz1, hb1⟩ := to_bytes w s
    obtain ⟨bs, hL⟩ : ∃ bs, bs = s.data.toList := ⟨_, rfl⟩
    rw [← hL] at hc1 hR hss
    clear he hf1 hL
    have HC := Lib.hid hc1
    have HR := Lib.hid hR
    have HS := Lib.hid hss
    clear hR hc1 hss
    go_enter Tryd.func30, Tryd.ntmps30
    go_wp2
    go_loop [12, 13, 101] (fun vu vn vi => ∃ (k acc : Nat) (a : Int), vu = .bool false ∧ vn = .int .u64 a ∧ vi = .int .i64 k ∧ k ≤ s.size ∧ Hid (a = (acc : Int) ∧ acc ≤ 281474976710655 ∧ puGo 10 281474976710655 (bs.drop k) acc = R)) (fun _ _ vi => s.size - (RowKit.intOf vi).toNat)
    case atStart => exact ⟨0, 0, 0, rfl, rfl, rfl, by omega, rfl, by omega, HR.out⟩
    case round =>
      obtain ⟨k, acc, a, rfl, rfl, rfl, hk, hh⟩ := hrel
      obtain ⟨ha, hacc, hp⟩ := hh.out
      clear hh
      have a0 : 0 ≤ a := by omega
      have a1 : a ≤ 281474976710655 := by omega
      by_cases hlt : k < s.size
      · have hck := HC.out k hlt
        have hkl : k < bs.length := by rw [HS.out]; exact hlt
        have hd := List.drop_eq_getElem_cons hkl
        have hg : bs.getD k 0 = bs[k]'hkl := by rw [List.getD_eq_getElem?_getD, List.getElem?_eq_getElem hkl]; rfl
        rw [hg] at hck
        rw [hd] at hp
        clear hg hd
        generalize bs[k]'hkl = c at hck hp
        have hc256 : c.toNat < 256 := c.toNat_lt
        have hdv : digV c = if 48 ≤ c.toNat ∧ c.toNat ≤ 57 then c.toNat - 48 else if 97 ≤ c.toNat ∧ c.toNat ≤ 122 then c.toNat - 87 else if 65 ≤ c.toNat ∧ c.toNat ≤ 90 then c.toNat - 55 else 255 := rfl
        have hp' : (if 10 ≤ digV c then (0, 2) else if 281474976710655 < acc * 10 + digV c then (281474976710655, 1) else puGo 10 281474976710655 (bs.drop (k + 1)) (acc * 10 + digV c)) = R := hp
        clear hp
        by_cases hdig : 48 ≤ c.toNat ∧ c.toNat ≤ 57
        · rw [if_pos hdig] at hdv
          obtain ⟨hd0, hd1⟩ := hdig
          rw [hdv, if_neg (by omega)] at hp'
          by_cases hov : 281474976710655 < acc * 10 + (c.toNat - 48)
          · rw [if_pos hov] at hp'
            have Hp := Lib.hid hp'
            have iov : 281474976710655 < a * 10 + ((c.toNat : Int) - 48) := by omega
            clear hp' hdv hov ha hacc hkl
            go_wp2
            go_ret2
            exact ⟨by rw [← Hp.out]; rfl, hb1⟩
          · rw [if_neg hov] at hp'
            have HN : Hid (a * 10 + ((c.toNat : Int) - 48) = ((acc * 10 + (c.toNat - 48) : Nat) : Int) ∧ acc * 10 + (c.toNat - 48) ≤ 281474976710655 ∧ puGo 10 281474976710655 (bs.drop (k + 1)) (acc * 10 + (c.toNat - 48)) = R) := Lib.hid ⟨by omega, by omega, hp'⟩
            have iov : a * 10 + ((c.toNat : Int) - 48) ≤ 281474976710655 := by omega
            clear hp' hdv hov ha hacc hkl
            go_wp2
            refine ⟨⟨k + 1, acc * 10 + (c.toNat - 48), a * 10 + ((c.toNat : Int) - 48), rfl, (by first | rfl | (congr 1; omega)), (by first | rfl | (congr 1; omega)), by omega, HN⟩, by simp [RowKit.intOf]; omega⟩
        · have hF : R = (0, 2) := by
            rw [← hp', if_pos]
            rw [hdv, if_neg hdig]
            split
            · omega
            · split <;> omega
          have Hp := Lib.hid hF
          clear hp' hdv ha hacc hkl hF
          have hv0 := bits_lo_u8 .or (c.toNat : Int) 32
          have hv1 := bits_hi_u8 .or (c.toNat : Int) 32
          have hu0 := bits_lo_u8 .or 95 32
          have hu1 := bits_hi_u8 .or 95 32
          go_wp2_with (go_at_call 47; refine (lower_i _ _).mono ?_; rintro e w' ⟨rfl, rfl⟩)
          all_goals go_ret2
          all_goals exact ⟨by rw [Hp.out]; rfl, hb1⟩
      · obtain rfl : k = s.size := by omega
        rw [List.drop_eq_nil_of_le (by rw [HS.out]; exact Nat.le_refl _)] at hp
        subst ha
        have Hp := Lib.hid hp
        clear hp hacc a0 a1
        go_wp2
        go_ret2
        exact ⟨by rw [← Hp.out]; rfl, hb1⟩
end Go.Proofs.YtjoaiolacalemaaDoor.Lf
