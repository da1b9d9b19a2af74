/- label.Count and label.Valid, walked: by the runes of the text. -/
import Derived.Test.YtboommbclbjlnaaDoorLfValid
import Derived.Test.YtboommbclbjlnaaDoorPlRunes
import Derived.Laws.Runes
import Derived.Laws.RangeAny
import Derived.Lib.RuneCount
import Derived.Deep.LoopGhost
import Derived.Lib.Hide
namespace Go.Proofs.YtboommbclbjlnaaDoor.Lf
open Go.RowKit Go.Lib Go.Proofs.YtboommbclbjlnaaDoor.Pl
theorem dec_drop (s : ByteArray) (pos : Nat) : decodeL (s.data.toList.drop pos) = Utf8.decode s pos := decodeL_drop s pos
theorem runes_at (s : ByteArray) (pos : Nat) (h : pos < s.size) : runes (s.data.toList.drop pos) = Utf8.decode s pos :: runes (s.data.toList.drop (pos + (Utf8.decode s pos).2)) := by
  rw [runes_cons _ (by rw [ne_eq, List.drop_eq_nil_iff, Array.length_toList]; have : s.data.size = s.size := rfl; omega), dec_drop, List.drop_drop]
theorem runes_end (s : ByteArray) (pos : Nat) (h : ¬ pos < s.size) : runes (s.data.toList.drop pos) = [] := by
  rw [List.drop_eq_nil_of_le (by rw [Array.length_toList]; have : s.data.size = s.size := rfl; omega)]; rfl
theorem iter_below (w : World) (s : ByteArray) (pos : Nat) : Below w.heap.size w (w.iter s pos) := (Below.refl _ _).alloc (Nat.le_refl _) _
set_option maxHeartbeats 400000 in
set_option maxRecDepth 100000 in
theorem count_any (s : ByteArray) (w : World) (hs : s.size ≤ 9223372036854775807) :
    Calls Tryd.prog 69 #[.string s] w fun e w' => e = .returned (.int .i64 ((runes s.data.toList).length : Nat)) ∧ Below w.heap.size w w' := by
  have hle := runes_le s.data.toList
  have hss : s.data.toList.length = s.size := by rw [Array.length_toList]; rfl
  rw [hss] at hle
  clear hss
  obtain ⟨T, hT⟩ : ∃ T, (runes s.data.toList).length = T := ⟨_, rfl⟩
  rw [hT] at hle ⊢
  have HT := Lib.hid hT
  clear hT
  go_enter Tryd.func69, Tryd.ntmps69
  go_wp2
  go_loopw [3] (fun n w' => ∃ pos k : Nat, w' = w.iter s pos ∧ n = .int .i64 k ∧ k + (runes (s.data.toList.drop pos)).length = T) (fun _ w' => s.size - w'.iterPos w.heap.size)
  case atStart => exact ⟨0, 0, rfl, rfl, by rw [← HT.out]; simp⟩
  case round =>
    obtain ⟨pos, k, rfl, rfl, hc⟩ := hrel
    by_cases hp : pos < s.size
    · have hnx : ∀ ty, (Instr.next (.pointer (some ⟨w.heap.size, 0, none⟩)) true ty).run Tryd.prog (w.iter s pos) = _ := fun ty => run_next_any w s pos ty hp
      have hr := runes_at s pos hp
      rw [hr, List.length_cons] at hc
      have hwd := decode_width_pos s pos hp
      have hk : k < 9223372036854775807 := by omega
      have Hc := Lib.hid hc
      clear hc hr
      go_wp2
      go_roundw
      case rel => exact ⟨pos + (Utf8.decode s pos).2, k + 1, rfl, by go_num, by have := Hc.out; omega⟩
      case measure => simp; omega
    · have hnx : ∀ ty, (Instr.next (.pointer (some ⟨w.heap.size, 0, none⟩)) true ty).run Tryd.prog (w.iter s pos) = _ := fun ty => run_next_end w s pos ty hp
      rw [runes_end s pos hp] at hc
      obtain rfl : k = T := by simpa using hc
      go_wp2
      go_ret
      exact ⟨rfl, iter_below w s pos⟩
set_option maxHeartbeats 400000 in
set_option maxRecDepth 100000 in
theorem lvalid_any (s : ByteArray) (w : World) (hs : s.size ≤ 9223372036854775807) (hT : Tabs w) :
    Calls Tryd.prog 68 #[.string s] w fun e w' => e = .returned (.bool (Lib.validD s.data.toList)) ∧ Below w.heap.size w w' := by
  have c := valid_any s w hs hT
  generalize Lib.validD s.data.toList = V at c ⊢
  go_enter Tryd.func68, Tryd.ntmps68
  go_wp2_with (go_at_call 77; refine c.mono ?_; rintro e w' ⟨rfl, hb⟩)
  go_ret
  exact ⟨rfl, hb⟩
end Go.Proofs.YtboommbclbjlnaaDoor.Lf
