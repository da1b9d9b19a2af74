/- label.Right, walked: whether a text may be a name, by its runes. -/
import Derived.Test.YtboommbclbjlnaaDoorLfLabel
namespace Go.Proofs.YtboommbclbjlnaaDoor.Lf
open Go.RowKit Go.Lib Go.Proofs.YtboommbclbjlnaaDoor.Pl
theorem ret_bool {a b : Bool} (h : a = b) : Ending.returned (.bool a) = .returned (.bool b) := by rw [h]
theorem fine_lt (r : Nat × Nat) (h : (r.1 : Int) < 32) : fine r = false := by unfold fine; rw [decide_eq_false (by omega)]; rfl
theorem fine_del (r : Nat × Nat) (h : (r.1 : Int) = 127) : fine r = false := by unfold fine; rw [show r.1 = 127 by omega]; rfl
theorem fine_yes (r : Nat × Nat) (h : 32 ≤ (r.1 : Int)) (h' : ¬ (r.1 : Int) = 127) : fine r = true := by
  unfold fine; rw [decide_eq_true (by omega)]; simp; omega
set_option maxHeartbeats 800000 in
set_option maxRecDepth 100000 in
theorem right_any (s : ByteArray) (w : World) (hs : s.size ≤ 9223372036854775807) (hT : Tabs w) :
    Calls Tryd.prog 50 #[.string s] w fun e w' => e = .returned (.bool (rightB s.data.toList)) ∧ Below w.heap.size w w' := by
  obtain ⟨R, hR⟩ : ∃ R, rightB s.data.toList = R := ⟨_, rfl⟩
  rw [hR]
  unfold rightB at hR
  obtain ⟨A, hA⟩ : ∃ A, (runes s.data.toList).all fine = A := ⟨_, rfl⟩
  rw [hA] at hR
  have HA := Lib.hid hA
  have HR := Lib.hid hR
  clear hA hR
  go_enter Tryd.func50, Tryd.ntmps50
  go_wp2
  go_loopw [] (fun w' => ∃ pos : Nat, w' = w.iter s pos ∧ (runes (s.data.toList.drop pos)).all fine = A) (fun w' => s.size - w'.iterPos w.heap.size)
  case atStart => exact ⟨0, rfl, by rw [← HA.out]; rfl⟩
  case round =>
    obtain ⟨pos, rfl, hp'⟩ := hrel
    by_cases hp : pos < s.size
    · have hnx : ∀ ty, (Instr.next (.pointer (some ⟨w.heap.size, 0, none⟩)) true ty).run Tryd.prog (w.iter s pos) = _ := fun ty => run_next_any w s pos ty hp
      have hwd := decode_width_pos s pos hp
      rw [runes_at s pos hp, List.all_cons] at hp'
      have Hp := Lib.hid hp'
      clear hp'
      by_cases h1 : ((Utf8.decode s pos).1 : Int) < 32
      · go_wp2
        go_ret
        have := Hp.out
        rw [fine_lt _ h1, Bool.false_and] at this
        subst this
        exact ⟨ret_bool (by rw [← HR.out]; rfl), iter_below _ _ _⟩
      · by_cases h2 : ((Utf8.decode s pos).1 : Int) = 127
        · have h2b : (((Utf8.decode s pos).1 : Int) == 127) = true := by simpa using h2
          have H2 := Lib.hid h2
          have h1' : ¬ ((Utf8.decode s pos).1 : Int) < 32 := h1
          clear h2
          go_wp2
          go_ret
          have := Hp.out
          rw [fine_del _ H2.out, Bool.false_and] at this
          subst this
          exact ⟨ret_bool (by rw [← HR.out]; rfl), iter_below _ _ _⟩
        · have h2b : (((Utf8.decode s pos).1 : Int) == 127) = false := by simpa using h2
          go_wp2
          go_roundw
          case rel =>
            refine ⟨pos + (Utf8.decode s pos).2, rfl, ?_⟩
            have := Hp.out
            rw [fine_yes _ (by omega) h2, Bool.true_and] at this
            exact this
          case measure => simp; omega
    · have hnx : ∀ ty, (Instr.next (.pointer (some ⟨w.heap.size, 0, none⟩)) true ty).run Tryd.prog (w.iter s pos) = _ := fun ty => run_next_end w s pos ty hp
      rw [runes_end s pos hp] at hp'
      obtain rfl : true = A := hp'
      have hTi : Tabs (w.iter s pos) := hT.below (iter_below _ _ _)
      have cV := lvalid_any s (w.iter s pos) hs hTi
      obtain ⟨V, hV⟩ : ∃ V, Lib.validD s.data.toList = V := ⟨_, rfl⟩
      rw [hV] at cV
      have hR := HR.out
      rw [hV, Bool.true_and] at hR
      clear HR hV HA
      cases V with
      | false =>
        have HR := Lib.hid hR
        clear hR
        go_wp2_with (go_at_call 68; refine cV.mono ?_; rintro e w1 ⟨rfl, hb1⟩)
        go_ret
        exact ⟨ret_bool (by rw [← HR.out]; rfl), (iter_below _ _ _).trans (hb1.mono (by simp [World.iter]))⟩
      | true =>
        rw [Bool.true_and] at hR
        by_cases he : s.data.toList = []
        · have e1 : s.toList = [] := by rw [toList_data]; exact he
          have HR := Lib.hid hR
          have He := Lib.hid he
          clear hR he
          go_wp2_with (go_at_call 68; refine cV.mono ?_; rintro e w1 ⟨rfl, hb1⟩)
          go_ret
          exact ⟨ret_bool (by rw [← HR.out, He.out]; rfl), (iter_below _ _ _).trans (hb1.mono (by simp [World.iter]))⟩
        · have hpos : 0 < s.size := by
            have : s.data.toList.length = s.size := by rw [Array.length_toList]; rfl
            have := List.length_pos_iff.2 he
            omega
          have e1 : ¬ (s.toList = []) := by rw [toList_data]; exact he
          have hie : s.data.toList.isEmpty = false := by simpa using he
          have hfirst : s.data.toList.headD 0 = s[0]'hpos := by
            rw [List.headD_eq_head?_getD, List.head?_eq_getElem?, List.getElem?_eq_getElem (by rw [Array.length_toList]; exact hpos)]
            rfl
          have hlast : s.data.toList.getLastD 0 = s[s.size - 1]'(by omega) := by
            rw [List.getLastD_eq_getLast?, List.getLast?_eq_getElem?, Array.length_toList, List.getElem?_eq_getElem (by rw [Array.length_toList]; show s.data.size - 1 < s.data.size; have : s.data.size = s.size := rfl; omega)]
            rfl
          rw [hie, hfirst, hlast] at hR
          have cC := fun W => count_any s W hs
          obtain ⟨T, hTT⟩ : ∃ T, (runes s.data.toList).length = T := ⟨_, rfl⟩
          rw [hTT] at hR
          simp only [hTT] at cC
          have HC := Lib.hid cC
          clear hie hfirst hlast cC hTT
          by_cases hc : T ≤ 24
          · rw [decide_eq_true hc] at hR
            have hcz : (T : Int) ≤ 24 := by omega
            have e2 : s.toList.isEmpty = false := by rw [toList_data]; simpa using he
            have HR := Lib.hid hR
            clear hR hc
            go_wp2_with (first | (go_at_call 68; refine cV.mono ?_; rintro e w1 ⟨rfl, hb1⟩) | (go_at_call 69; refine (HC.out _).mono ?_; rintro e w2 ⟨rfl, hb2⟩))
            · go_ret
              refine ⟨ret_bool ?_, ((iter_below _ _ _).trans (hb1.mono (by simp [World.iter]))).trans (hb2.mono (by have := hb1.size; simp [World.iter] at this; omega))⟩
              rw [← HR.out]
              have h32 : ((s[0]'hpos).toNat : Int) = 32 := by assumption
              have h32n : (s[0]'hpos).toNat = 32 := by omega
              simp [h32n]
            · go_ret
              refine ⟨ret_bool ?_, ((iter_below _ _ _).trans (hb1.mono (by simp [World.iter]))).trans (hb2.mono (by have := hb1.size; simp [World.iter] at this; omega))⟩
              rw [← HR.out]
              have h32 : ¬ ((s[0]'hpos).toNat : Int) = 32 := by assumption
              have h32n : ¬ (s[0]'hpos).toNat = 32 := by omega
              have k1 : ∀ n : Nat, ((n : Int) != 32) = !(n == 32) := fun n => by
                by_cases h : n = 32
                · subst h; rfl
                · rw [show (n == 32) = false by simpa using h, bne_iff_ne.2 (by omega)]; rfl
              simp [k1]
          · rw [decide_eq_false hc] at hR
            have hRf : R = false := by rw [← hR]; rfl
            subst hRf
            have hcz : ¬ (T : Int) ≤ 24 := by omega
            clear hR hc
            go_wp2_with (first | (go_at_call 68; refine cV.mono ?_; rintro e w1 ⟨rfl, hb1⟩) | (go_at_call 69; refine (HC.out _).mono ?_; rintro e w2 ⟨rfl, hb2⟩))
            go_ret
            exact ⟨rfl, ((iter_below _ _ _).trans (hb1.mono (by simp [World.iter]))).trans (hb2.mono (by have := hb1.size; simp [World.iter] at this; omega))⟩
def label_Right.f (a0 : ByteArray) : Option Bool := if a0.size ≤ 9223372036854775807 then some (rightB a0.data.toList) else none
theorem label_Right.calls (a0 : ByteArray) (r : Bool) (w : World) (h : label_Right.f a0 = some r) (HT : Tabs w) :
    Calls Tryd.prog 50 #[.string a0] w fun e w' => e = .returned (.bool r) ∧ Below w.heap.size w w' := by
  unfold label_Right.f at h
  by_cases hs : a0.size ≤ 9223372036854775807
  · rw [if_pos hs] at h
    injection h with h
    subst h
    exact right_any a0 w hs HT
  · rw [if_neg hs] at h
    exact absurd h (by simp)
end Go.Proofs.YtboommbclbjlnaaDoor.Lf
