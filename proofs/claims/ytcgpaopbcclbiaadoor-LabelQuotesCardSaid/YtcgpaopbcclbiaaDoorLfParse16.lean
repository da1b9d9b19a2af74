/- internal/strconv.ParseUint at base 16, 8 and 32 bits, walked: of any text. -/
import Derived.Test.YtcgpaopbcclbiaaDoorLfParse
namespace Go.Proofs.YtcgpaopbcclbiaaDoor.Lf
open Go.RowKit
set_option maxHeartbeats 32000000 in
set_option maxRecDepth 100000 in
theorem parse16w (s : ByteArray) (w : World) (hs : s.size ≤ 9223372036854775806) :
    Calls Tryd.prog 39 #[.string s, .int .i64 16, .int .i64 32] w fun e w' => e = .returned (.tuple #[.int .u64 (puL 16 4294967295 s.data.toList).1, errV (puL 16 4294967295 s.data.toList).2]) ∧ Below w.heap.size w w' := by
  obtain ⟨R, hR⟩ : ∃ R, puL 16 4294967295 s.data.toList = R := ⟨_, rfl⟩
  rw [hR]
  unfold puL at hR
  have hss : s.data.toList.length = s.size := by rw [Array.length_toList]; rfl
  by_cases he : s.data.toList = []
  · rw [if_pos he] at hR
    subst hR
    have e1 : s.toList = [] := by rw [ByteArray.toList_eq]; exact he
    clear he
    go_enter Tryd.func39, Tryd.ntmps39
    go_wp2
    go_ret2
    exact ⟨rfl, Below.refl _ _⟩
  · rw [if_neg he] at hR
    have e1 : ¬ s.toList = [] := by rw [ByteArray.toList_eq]; exact he
    have e2 : s.toList.isEmpty = false := by rw [ByteArray.toList_eq]; simpa using he
    obtain ⟨W1, C, hcv, hc1, hf1, hz1, hb1⟩ := to_bytes w s
    obtain ⟨bs, hL⟩ : ∃ bs, bs = s.data.toList := ⟨_, rfl⟩
    rw [← hL] at hc1 hR hss
    clear he hf1 hL
    have HC := Lib.hid hc1
    have HR := Lib.hid hR
    have HS := Lib.hid hss
    clear hR hc1 hss
    go_enter Tryd.func39, Tryd.ntmps39
    go_wp2
    go_loop [12, 13, 101] (fun vu vn vi => ∃ (k acc : Nat) (a : Int), vu = .bool false ∧ vn = .int .u64 a ∧ vi = .int .i64 k ∧ k ≤ s.size ∧ Hid (a = (acc : Int) ∧ acc ≤ 4294967295 ∧ puGo 16 4294967295 (bs.drop k) acc = R)) (fun _ _ vi => s.size - (RowKit.intOf vi).toNat)
    case atStart => exact ⟨0, 0, 0, rfl, rfl, rfl, by omega, rfl, by omega, HR.out⟩
    case round =>
      obtain ⟨k, acc, a, rfl, rfl, rfl, hk, hh⟩ := hrel
      obtain ⟨ha, hacc, hp⟩ := hh.out
      clear hh
      have a0 : 0 ≤ a := by omega
      have a1 : a ≤ 4294967295 := by omega
      by_cases hlt : k < s.size
      · have hck := HC.out k hlt
        have hkl : k < bs.length := by rw [HS.out]; exact hlt
        have hd := List.drop_eq_getElem_cons hkl
        have hg : bs.getD k 0 = bs[k]'hkl := by rw [List.getD_eq_getElem?_getD, List.getElem?_eq_getElem hkl]; rfl
        rw [hg] at hck
        rw [hd] at hp
        clear hg hd
        generalize bs[k]'hkl = c at hck hp
        have hc256 : c.toNat < 256 := c.toNat_lt
        have hdv : digV c = if 48 ≤ c.toNat ∧ c.toNat ≤ 57 then c.toNat - 48 else if 97 ≤ c.toNat ∧ c.toNat ≤ 122 then c.toNat - 87 else if 65 ≤ c.toNat ∧ c.toNat ≤ 90 then c.toNat - 55 else 255 := rfl
        have hp' : (if 16 ≤ digV c then (0, 2) else if 4294967295 < acc * 16 + digV c then (4294967295, 1) else puGo 16 4294967295 (bs.drop (k + 1)) (acc * 16 + digV c)) = R := hp
        clear hp
        by_cases hdig : 48 ≤ c.toNat ∧ c.toNat ≤ 57
        · rw [if_pos hdig] at hdv
          obtain ⟨hd0, hd1⟩ := hdig
          rw [hdv, if_neg (by omega)] at hp'
          by_cases hov : 4294967295 < acc * 16 + (c.toNat - 48)
          · rw [if_pos hov] at hp'
            have Hp := Lib.hid hp'
            have iov : 4294967295 < a * 16 + ((c.toNat : Int) - 48) := by omega
            clear hp' hdv hov ha hacc hkl
            go_wp2
            go_ret2
            exact ⟨by rw [← Hp.out]; rfl, hb1⟩
          · rw [if_neg hov] at hp'
            have HN : Hid (a * 16 + ((c.toNat : Int) - 48) = ((acc * 16 + (c.toNat - 48) : Nat) : Int) ∧ acc * 16 + (c.toNat - 48) ≤ 4294967295 ∧ puGo 16 4294967295 (bs.drop (k + 1)) (acc * 16 + (c.toNat - 48)) = R) := Lib.hid ⟨by omega, by omega, hp'⟩
            have iov : a * 16 + ((c.toNat : Int) - 48) ≤ 4294967295 := by omega
            clear hp' hdv hov ha hacc hkl
            go_wp2
            refine ⟨⟨k + 1, acc * 16 + (c.toNat - 48), a * 16 + ((c.toNat : Int) - 48), rfl, (by first | rfl | (congr 1; omega)), (by first | rfl | (congr 1; omega)), by omega, HN⟩, by simp [RowKit.intOf]; omega⟩
        · have hor := lower_bits ⟨c.toNat, hc256⟩
          have hlet := lower_let ⟨c.toNat, hc256⟩
          have hval := lower_val ⟨c.toNat, hc256⟩
          simp only at hor hlet hval
          obtain ⟨L, hL⟩ : ∃ L, c.toNat ||| 32 = L := ⟨_, rfl⟩
          rw [hL] at hor hlet hval
          rw [if_neg hdig] at hdv
          have hne : ((c.toNat : Int) == 95) = false ∨ c.toNat = 95 := by
            by_cases h : c.toNat = 95
            · exact Or.inr h
            · left; simp; omega
          by_cases hx : (97 ≤ L ∧ L ≤ 102)
          · -- a digit from ten to fifteen
            have hL2 : digV c = L - 87 := by
              have := hlet.1 (by omega)
              rw [hdv]
              rcases this with h | h
              · rw [if_pos h, (hval.1 h)]
              · rw [if_neg (by omega), if_pos h, (hval.2 h)]; omega
            rw [hL2, if_neg (by omega)] at hp'
            have e95 : ((c.toNat : Int) == 95) = false := by
              rcases hne with h | h
              · exact h
              · rw [h] at hL; simp at hL; omega
            have gg : ¬ (48 : Int) ≤ (c.toNat : Int) ∨ ((48 : Int) ≤ (c.toNat : Int) ∧ ¬ (c.toNat : Int) ≤ 57) := by omega
            have b0 : (97 : Int) ≤ (L : Int) := by omega
            have b1 : (L : Int) ≤ 102 := by omega
            by_cases hov : 4294967295 < acc * 16 + (L - 87)
            · rw [if_pos hov] at hp'
              have Hp := Lib.hid hp'
              have iov : 4294967295 < a * 16 + ((L : Int) - 97 + 10) := by omega
              clear hp' hov ha hacc hkl hL2 hlet hval hL hdv hx hdig hne hc256
              rcases gg with g | ⟨g, g'⟩
              all_goals
                go_wp2_with (go_at_call 50; refine (lower_i _ _).mono ?_; rintro e w' ⟨rfl, rfl⟩; rw [hor])
                go_ret2
                exact ⟨by rw [← Hp.out]; rfl, hb1⟩
            · rw [if_neg hov] at hp'
              have HN : Hid (a * 16 + ((L : Int) - 97 + 10) = ((acc * 16 + (L - 87) : Nat) : Int) ∧ acc * 16 + (L - 87) ≤ 4294967295 ∧ puGo 16 4294967295 (bs.drop (k + 1)) (acc * 16 + (L - 87)) = R) := Lib.hid ⟨by omega, by omega, hp'⟩
              have iov : a * 16 + ((L : Int) - 97 + 10) ≤ 4294967295 := by omega
              clear hp' hov ha hacc hkl hL2 hlet hval hL hdv hx hdig hne hc256
              rcases gg with g | ⟨g, g'⟩
              all_goals
                go_wp2_with (go_at_call 50; refine (lower_i _ _).mono ?_; rintro e w' ⟨rfl, rfl⟩; rw [hor])
                refine ⟨⟨k + 1, acc * 16 + (L - 87), a * 16 + ((L : Int) - 97 + 10), rfl, (by first | rfl | (congr 1; omega)), (by first | rfl | (congr 1; omega)), by omega, HN⟩, by simp [RowKit.intOf]; omega⟩
          · have hF : R = (0, 2) := by
              rw [← hp', if_pos]
              rw [hdv]
              by_cases h1 : 97 ≤ c.toNat ∧ c.toNat ≤ 122
              · have := hval.1 h1
                rw [if_pos h1]; omega
              · rw [if_neg h1]
                by_cases h2 : 65 ≤ c.toNat ∧ c.toNat ≤ 90
                · have := hval.2 h2
                  rw [if_pos h2]; omega
                · rw [if_neg h2]; omega
            have Hp := Lib.hid hF
            have hu0 := bits_lo_u8 .or 95 32
            have hu1 := bits_hi_u8 .or 95 32
            have h95 : (c.toNat : Int) = 95 → bits .or .u8 95 32 = (L : Int) := fun h => by rw [← h]; exact hor
            have cs : (L : Int) < 97 ∨ (97 ≤ (L : Int) ∧ 122 < (L : Int)) ∨ (97 ≤ (L : Int) ∧ (L : Int) ≤ 122 ∧ 103 ≤ (L : Int)) := by omega
            have gg : ¬ (48 : Int) ≤ (c.toNat : Int) ∨ ((48 : Int) ≤ (c.toNat : Int) ∧ ¬ (c.toNat : Int) ≤ 57) := by omega
            clear hp' ha hacc hkl hF hlet hval hL hdv hx hdig
            have l0 : 0 ≤ (L : Int) := by omega
            rcases hne with h | h
            · rcases cs with b | ⟨b, b'⟩ | ⟨b, b', b''⟩
              all_goals
                rcases gg with g | ⟨g, g'⟩
                all_goals
                  clear h95
                  go_wp2_with (go_at_call 50; refine (lower_i _ _).mono ?_; rintro e w' ⟨rfl, rfl⟩; rw [hor])
                  go_ret2
                  exact ⟨by rw [Hp.out]; rfl, hb1⟩
            · have hc' : (c.toNat : Int) = 95 := by omega
              have h95' := h95 hc'
              rw [hc'] at hck
              clear h95 hor gg h hc' hc256
              have L127 : (L : Int) = 127 := by rw [← h95']; decide +kernel
              clear cs
              go_wp2_with (go_at_call 50; refine (lower_i _ _).mono ?_; rintro e w' ⟨rfl, rfl⟩; rw [h95', L127])
              go_ret2
              exact ⟨by rw [Hp.out]; rfl, hb1⟩
      · obtain rfl : k = s.size := by omega
        rw [List.drop_eq_nil_of_le (by rw [HS.out]; exact Nat.le_refl _)] at hp
        subst ha
        have Hp := Lib.hid hp
        clear hp hacc a0 a1
        go_wp2
        go_ret2
        exact ⟨by rw [← Hp.out]; rfl, hb1⟩
end Go.Proofs.YtcgpaopbcclbiaaDoor.Lf
