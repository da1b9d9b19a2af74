/- label.First, walked: the first runes of a text. -/
import Derived.Test.YtcgpaopbcclbiaaDoorLfLabel
namespace Go.Proofs.YtcgpaopbcclbiaaDoor.Lf
open Go.RowKit Go.Lib Go.Proofs.YtcgpaopbcclbiaaDoor.Pl
/-- How many bytes the first runes have. -/
def cutN : Nat → List UInt8 → Nat
  | 0, _ => 0
  | k + 1, l => if l = [] then 0 else (decodeL l).2 + cutN k (l.drop (decodeL l).2)
theorem cutN_nil (k : Nat) : cutN k [] = 0 := by cases k <;> simp [cutN]
def firstL (l : List UInt8) (n : Int) : List UInt8 := l.take (cutN n.toNat l)
theorem ret_str {a b : ByteArray} (h : a = b) : Ending.returned (.string a) = .returned (.string b) := by rw [h]
theorem cut_at (s : ByteArray) (pos m : Nat) (h : pos < s.size) : cutN (m + 1) (s.data.toList.drop pos) = (Utf8.decode s pos).2 + cutN m (s.data.toList.drop (pos + (Utf8.decode s pos).2)) := by
  rw [cutN, if_neg (by rw [List.drop_eq_nil_iff, Array.length_toList]; have : s.data.size = s.size := rfl; omega), dec_drop, List.drop_drop]
theorem cut_end (s : ByteArray) (pos m : Nat) (h : ¬ pos < s.size) : cutN m (s.data.toList.drop pos) = 0 := by
  rw [List.drop_eq_nil_of_le (by rw [Array.length_toList]; have : s.data.size = s.size := rfl; omega), cutN_nil]
theorem take_all (s : ByteArray) (c : Nat) (h : s.size ≤ c) : s = ⟨(s.data.toList.take c).toArray⟩ := by
  rw [List.take_of_length_le (by rw [Array.length_toList]; exact h)]
theorem take_ext (s : ByteArray) (c : Nat) : s.extract 0 c = ⟨(s.data.toList.take c).toArray⟩ := by
  apply ByteArray.ext
  rw [ByteArray.data_extract]
  apply Array.toList_inj.1
  simp
set_option maxHeartbeats 400000 in
set_option maxRecDepth 100000 in
theorem first_any (s : ByteArray) (n : Int) (w : World) (hn0 : -9223372036854775808 ≤ n) (hn1 : n ≤ 9223372036854775807) :
    Calls Tryd.prog 11 #[.string s, .int .i64 n] w fun e w' => e = .returned (.string ⟨(firstL s.data.toList n).toArray⟩) ∧ Below w.heap.size w w' := by
  obtain ⟨C, hC⟩ : ∃ C, cutN n.toNat s.data.toList = C := ⟨_, rfl⟩
  unfold firstL
  rw [hC]
  have HC := Lib.hid hC
  clear hC
  go_enter Tryd.func11, Tryd.ntmps11
  go_wp2
  go_loopw [1] (fun v w' => ∃ (pos k : Nat), w' = w.iter s pos ∧ v = .int .i64 (n - k) ∧ (k : Int) ≤ max n 0 ∧ C = pos + cutN (n.toNat - k) (s.data.toList.drop pos)) (fun _ w' => s.size - w'.iterPos w.heap.size)
  case atStart => exact ⟨0, 0, rfl, by simp, by omega, by rw [← HC.out]; simp⟩
  case round =>
    obtain ⟨pos, k, rfl, rfl, hk, hc⟩ := hrel
    have Hc := Lib.hid hc
    clear hc
    by_cases hp : pos < s.size
    · have hnx : ∀ ty, (Instr.next (.pointer (some ⟨w.heap.size, 0, none⟩)) true ty).run Tryd.prog (w.iter s pos) = _ := fun ty => run_next_any w s pos ty hp
      have hwd := decode_width_pos s pos hp
      by_cases hlt : n - k ≤ 0
      · have h0 : n.toNat - k = 0 := by omega
        have e : C = pos := by have := Hc.out; rw [h0, cutN] at this; omega
        have He := Lib.hid e
        clear e h0
        have hps : pos ≤ s.size := by omega
        go_wp2
        go_ret
        exact ⟨ret_str (by rw [He.out]; exact take_ext s pos), iter_below _ _ _⟩
      · have e := cut_at s pos (n.toNat - (k + 1)) hp
        have h1 : n.toNat - k = n.toNat - (k + 1) + 1 := by omega
        have He := Lib.hid e
        have H1 := Lib.hid h1
        clear e h1
        go_wp2
        go_roundw
        case rel => exact ⟨pos + (Utf8.decode s pos).2, k + 1, rfl, by go_num, by omega, by rw [Hc.out, H1.out, He.out]; omega⟩
        case measure => simp; omega
    · have hnx : ∀ ty, (Instr.next (.pointer (some ⟨w.heap.size, 0, none⟩)) true ty).run Tryd.prog (w.iter s pos) = _ := fun ty => run_next_end w s pos ty hp
      have e : C = pos := by have := Hc.out; rw [cut_end s pos _ hp] at this; omega
      have He := Lib.hid e
      clear e
      go_wp2
      go_ret
      exact ⟨ret_str (take_all s C (by rw [He.out]; omega)), iter_below _ _ _⟩
def label_First.f (a0 : ByteArray) (a1 : Int) : Option ByteArray := if a0.size ≤ 9223372036854775807 ∧ (-9223372036854775808 ≤ a1 ∧ a1 ≤ 9223372036854775807) then some ⟨(firstL a0.data.toList a1).toArray⟩ else none
theorem label_First.calls (a0 : ByteArray) (a1 : Int) (r : ByteArray) (w : World) (h : label_First.f a0 a1 = some r) :
    Calls Tryd.prog 11 #[.string a0, .int .i64 a1] w fun e w' => e = .returned (.string r) ∧ Below w.heap.size w w' := by
  unfold label_First.f at h
  by_cases hs : a0.size ≤ 9223372036854775807 ∧ (-9223372036854775808 ≤ a1 ∧ a1 ≤ 9223372036854775807)
  · rw [if_pos hs] at h
    injection h with h
    subst h
    exact first_any a0 a1 w hs.2.1 hs.2.2
  · rw [if_neg hs] at h
    exact absurd h (by simp)
def label_Count.f (a0 : ByteArray) : Option Int := if a0.size ≤ 9223372036854775807 then some ((runes a0.data.toList).length : Nat) else none
theorem label_Count.calls (a0 : ByteArray) (r : Int) (w : World) (h : label_Count.f a0 = some r) :
    Calls Tryd.prog 10 #[.string a0] w fun e w' => e = .returned (.int .i64 r) ∧ Below w.heap.size w w' := by
  unfold label_Count.f at h
  by_cases hs : a0.size ≤ 9223372036854775807
  · rw [if_pos hs] at h
    injection h with h
    subst h
    exact count_any a0 w hs
  · rw [if_neg hs] at h
    exact absurd h (by simp)
def label_Valid.f (a0 : ByteArray) : Option Bool := if a0.size ≤ 9223372036854775807 then some (Lib.validD a0.data.toList) else none
theorem label_Valid.calls (a0 : ByteArray) (r : Bool) (w : World) (h : label_Valid.f a0 = some r) (HT : Tabs w) :
    Calls Tryd.prog 23 #[.string a0] w fun e w' => e = .returned (.bool r) ∧ Below w.heap.size w w' := by
  unfold label_Valid.f at h
  by_cases hs : a0.size ≤ 9223372036854775807
  · rw [if_pos hs] at h
    injection h with h
    subst h
    exact lvalid_any a0 w hs HT
  · rw [if_neg hs] at h
    exact absurd h (by simp)
end Go.Proofs.YtcgpaopbcclbiaaDoor.Lf
