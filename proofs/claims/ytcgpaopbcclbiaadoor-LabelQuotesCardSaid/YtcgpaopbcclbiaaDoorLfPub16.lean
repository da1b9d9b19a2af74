/- strconv.ParseUint at base 16, 32 and 8 bits: the number, or an error that is not nil. -/
import Derived.Test.YtcgpaopbcclbiaaDoorLfToErr
import Derived.Test.YtcgpaopbcclbiaaDoorLfParse16
import Derived.Test.YtcgpaopbcclbiaaDoorLfParse8
namespace Go.Proofs.YtcgpaopbcclbiaaDoor.Lf
open Go.RowKit
set_option maxHeartbeats 4000000 in
set_option maxRecDepth 100000 in
/-- strconv.ParseUint(s, 16, 32): the number, and an error that is nil just where it is one. -/
theorem public16 (s : ByteArray) (w : World) (hlim : s.size ≤ 281474976710656) (hs : ∃ te pe, w.cell? ⟨3, 0, none⟩ = some (.iface te pe)) (hr : ∃ te pe, w.cell? ⟨4, 0, none⟩ = some (.iface te pe)) :
    Calls Tryd.prog 27 #[.string s, .int .i64 16, .int .i64 32] w fun e w' => pubE (puL 16 4294967295 s.data.toList).1 (puL 16 4294967295 s.data.toList).2 e ∧ Below w.heap.size w w' := by
  obtain ⟨te, pe, hs⟩ := hs
  obtain ⟨tr, pr, hr⟩ := hr
  have hG : 3 < w.heap.size := Lib.lt_of_cell hs
  have hG' : 4 < w.heap.size := Lib.lt_of_cell hr
  have hI := parse16w s w (by omega)
  obtain ⟨v, x, hR⟩ : ∃ v x, puL 16 4294967295 s.data.toList = (v, x) := ⟨_, _, rfl⟩
  have hx : x = 0 ∨ x = 1 ∨ x = 2 := puL_le hR
  rw [hR] at hI ⊢
  have hI : Calls Tryd.prog 39 #[.string s, .int .i64 16, .int .i64 32] w fun e w' => e = .returned (.tuple #[.int .u64 v, errV x]) ∧ Below w.heap.size w w' := hI
  show Calls Tryd.prog 27 #[.string s, .int .i64 16, .int .i64 32] w fun e w' => pubE v x e ∧ Below w.heap.size w w'
  clear hR
  rcases hx with rfl | rfl | rfl
  · rw [show errV 0 = .nilIface from rfl] at hI
    go_enter Tryd.func27, Tryd.ntmps27
    go_wp2_with (go_at_call 39; refine hI.mono ?_; rintro e W1 ⟨rfl, hW⟩)
    go_ret2
    exact ⟨Or.inl ⟨rfl, rfl⟩, hW⟩
  · rw [show errV 1 = .iface 76 (.int .i64 1) from rfl] at hI
    go_enter Tryd.func27, Tryd.ntmps27
    go_wp2_with (first | (go_at_call 39; refine hI.mono ?_; rintro e W1 ⟨rfl, hW⟩) | (go_at_call 40; refine (toError_range _ s 16 32 _ hlim ⟨tr, pr, (hW.cell (show (⟨4, 0, none⟩ : Addr).block < w.heap.size from hG')).trans hr⟩).mono ?_; rintro e W2 ⟨N, rfl, h3⟩))
    go_ret2
    exact ⟨Or.inr ⟨by decide, _, N, rfl⟩, hW.trans (h3.mono hW.size)⟩
  · rw [show errV 2 = .iface 76 (.int .i64 2) from rfl] at hI
    go_enter Tryd.func27, Tryd.ntmps27
    go_wp2_with (first | (go_at_call 39; refine hI.mono ?_; rintro e W1 ⟨rfl, hW⟩) | (go_at_call 40; refine (toError_syntax _ s 16 32 _ hlim ⟨te, pe, (hW.cell (show (⟨3, 0, none⟩ : Addr).block < w.heap.size from hG)).trans hs⟩).mono ?_; rintro e W2 ⟨N, rfl, h3⟩))
    go_ret2
    exact ⟨Or.inr ⟨by decide, _, N, rfl⟩, hW.trans (h3.mono hW.size)⟩
set_option maxHeartbeats 4000000 in
set_option maxRecDepth 100000 in
/-- strconv.ParseUint(s, 16, 8): the number, and an error that is nil just where it is one. -/
theorem public8 (s : ByteArray) (w : World) (hlim : s.size ≤ 281474976710656) (hs : ∃ te pe, w.cell? ⟨3, 0, none⟩ = some (.iface te pe)) (hr : ∃ te pe, w.cell? ⟨4, 0, none⟩ = some (.iface te pe)) :
    Calls Tryd.prog 27 #[.string s, .int .i64 16, .int .i64 8] w fun e w' => pubE (puL 16 255 s.data.toList).1 (puL 16 255 s.data.toList).2 e ∧ Below w.heap.size w w' := by
  obtain ⟨te, pe, hs⟩ := hs
  obtain ⟨tr, pr, hr⟩ := hr
  have hG : 3 < w.heap.size := Lib.lt_of_cell hs
  have hG' : 4 < w.heap.size := Lib.lt_of_cell hr
  have hI := parse8w s w (by omega)
  obtain ⟨v, x, hR⟩ : ∃ v x, puL 16 255 s.data.toList = (v, x) := ⟨_, _, rfl⟩
  have hx : x = 0 ∨ x = 1 ∨ x = 2 := puL_le hR
  rw [hR] at hI ⊢
  have hI : Calls Tryd.prog 39 #[.string s, .int .i64 16, .int .i64 8] w fun e w' => e = .returned (.tuple #[.int .u64 v, errV x]) ∧ Below w.heap.size w w' := hI
  show Calls Tryd.prog 27 #[.string s, .int .i64 16, .int .i64 8] w fun e w' => pubE v x e ∧ Below w.heap.size w w'
  clear hR
  rcases hx with rfl | rfl | rfl
  · rw [show errV 0 = .nilIface from rfl] at hI
    go_enter Tryd.func27, Tryd.ntmps27
    go_wp2_with (go_at_call 39; refine hI.mono ?_; rintro e W1 ⟨rfl, hW⟩)
    go_ret2
    exact ⟨Or.inl ⟨rfl, rfl⟩, hW⟩
  · rw [show errV 1 = .iface 76 (.int .i64 1) from rfl] at hI
    go_enter Tryd.func27, Tryd.ntmps27
    go_wp2_with (first | (go_at_call 39; refine hI.mono ?_; rintro e W1 ⟨rfl, hW⟩) | (go_at_call 40; refine (toError_range _ s 16 8 _ hlim ⟨tr, pr, (hW.cell (show (⟨4, 0, none⟩ : Addr).block < w.heap.size from hG')).trans hr⟩).mono ?_; rintro e W2 ⟨N, rfl, h3⟩))
    go_ret2
    exact ⟨Or.inr ⟨by decide, _, N, rfl⟩, hW.trans (h3.mono hW.size)⟩
  · rw [show errV 2 = .iface 76 (.int .i64 2) from rfl] at hI
    go_enter Tryd.func27, Tryd.ntmps27
    go_wp2_with (first | (go_at_call 39; refine hI.mono ?_; rintro e W1 ⟨rfl, hW⟩) | (go_at_call 40; refine (toError_syntax _ s 16 8 _ hlim ⟨te, pe, (hW.cell (show (⟨3, 0, none⟩ : Addr).block < w.heap.size from hG)).trans hs⟩).mono ?_; rintro e W2 ⟨N, rfl, h3⟩))
    go_ret2
    exact ⟨Or.inr ⟨by decide, _, N, rfl⟩, hW.trans (h3.mono hW.size)⟩
end Go.Proofs.YtcgpaopbcclbiaaDoor.Lf
