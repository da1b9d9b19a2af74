/- strconv.toError at the inner package's two errors: an error that is not nil. -/
import Derived.Test.YtjoaiolacalemaaDoorLfClone
import Derived.Test.YtjoaiolacalemaaDoorLfParse10
import Derived.Lib.IfaceEq
import Derived.Lib.AtoiErrMem
import Derived.WalkKit
import Derived.BigCall
import Derived.BigGuard
import Derived.Shelf.RegionOpenPlain
import Derived.RegionTactic
import Derived.Deep.RegionWith
namespace Go.Proofs.YtjoaiolacalemaaDoor.Lf
open Go.RowKit
theorem puGo_le (base mx : Nat) : ∀ (l : List UInt8) (n : Nat), (puGo base mx l n).2 = 0 ∨ (puGo base mx l n).2 = 1 ∨ (puGo base mx l n).2 = 2
  | [], _ => Or.inl rfl
  | c :: r, n => by
    unfold puGo
    split
    · exact Or.inr (Or.inr rfl)
    · split
      · exact Or.inr (Or.inl rfl)
      · exact puGo_le base mx r _
theorem puL_le {base mx : Nat} {l : List UInt8} {v x : Nat} (h : puL base mx l = (v, x)) : x = 0 ∨ x = 1 ∨ x = 2 := by
  have : x = (puL base mx l).2 := by rw [h]
  rw [this]
  unfold puL
  split
  · exact Or.inr (Or.inr rfl)
  · exact puGo_le base mx l 0
set_option maxHeartbeats 4000000 in
set_option maxRecDepth 100000 in
theorem syntaxError (fn s : ByteArray) (ev : Value) (w : World) (hlim : s.size ≤ 281474976710656) (hv : w.cell? ⟨1, 0, none⟩ = some ev) (hev : ∃ te pe, ev = .iface te pe) :
    Calls Tryd.prog 49 #[.string fn, .string s] w fun e w' => ∃ N, e = .returned (.pointer (some ⟨N, 0, none⟩)) ∧ Below w.heap.size w w' := by
  obtain ⟨te, pe, rfl⟩ := hev
  have mixed : Tryd.prog.follows .mixedOrders = true := by kernel_rfl
  have hG : 1 < w.heap.size := Lib.lt_of_cell hv
  have hvd : w.drew.cell? ⟨1, 0, none⟩ = some (.iface te pe) := hv
  go_enter Tryd.func49, Tryd.ntmps49
  go_wp2
  go_region_with (
      go_at_call 64
      refine (Sh.stringslite_Clone s _ hlim).mono ?_
      rintro e w2 ⟨rfl, hbel⟩
      have hv2 : w2.cell? ⟨1, 0, none⟩ = some _ := (hbel.cell (show (⟨1, 0, none⟩ : Addr).block < w.drew.heap.size from hG)).trans hvd)
  all_goals (
    go_wp2
    go_ret
    have hs2 : w.heap.size ≤ w2.heap.size := hbel.size
    exact ⟨_, rfl, ((Below.drew (Below.refl _ w)).trans hbel).alloc hs2 _⟩)
set_option maxHeartbeats 4000000 in
set_option maxRecDepth 100000 in
theorem rangeError (fn s : ByteArray) (ev : Value) (w : World) (hlim : s.size ≤ 281474976710656) (hv : w.cell? ⟨2, 0, none⟩ = some ev) (hev : ∃ te pe, ev = .iface te pe) :
    Calls Tryd.prog 50 #[.string fn, .string s] w fun e w' => ∃ N, e = .returned (.pointer (some ⟨N, 0, none⟩)) ∧ Below w.heap.size w w' := by
  obtain ⟨te, pe, rfl⟩ := hev
  have mixed : Tryd.prog.follows .mixedOrders = true := by kernel_rfl
  have hG : 2 < w.heap.size := Lib.lt_of_cell hv
  have hvd : w.drew.cell? ⟨2, 0, none⟩ = some (.iface te pe) := hv
  go_enter Tryd.func50, Tryd.ntmps50
  go_wp2
  go_region_with (
      go_at_call 64
      refine (Sh.stringslite_Clone s _ hlim).mono ?_
      rintro e w2 ⟨rfl, hbel⟩
      have hv2 : w2.cell? ⟨2, 0, none⟩ = some _ := (hbel.cell (show (⟨2, 0, none⟩ : Addr).block < w.drew.heap.size from hG)).trans hvd)
  all_goals (
    go_wp2
    go_ret
    have hs2 : w.heap.size ≤ w2.heap.size := hbel.size
    exact ⟨_, rfl, ((Below.drew (Below.refl _ w)).trans hbel).alloc hs2 _⟩)
set_option maxHeartbeats 4000000 in
set_option maxRecDepth 100000 in
theorem toError_syntax (fn s : ByteArray) (base bits : Int) (w : World) (hlim : s.size ≤ 281474976710656) (hv : ∃ te pe, w.cell? ⟨1, 0, none⟩ = some (.iface te pe)) :
    Calls Tryd.prog 31 #[.string fn, .string s, .int .i64 base, .int .i64 bits, errV 2] w fun e w' => ∃ N, e = .returned (.iface 73 (.pointer (some ⟨N, 0, none⟩))) ∧ Below w.heap.size w w' := by
  obtain ⟨te, pe, hv⟩ := hv
  rw [show errV 2 = .iface 71 (.int .i64 2) from rfl]
  have heq : ∀ W, (binOp .eql 47 (.iface 71 (.int .i64 2)) (.iface 71 (.int .i64 2))).run Tryd.prog W = .ok (.bool true) W := fun W => Lib.run_eql_iface_int W 2 2 Tryd.underlying47 (by kernel_rfl) Tryd.underlying71
  go_enter Tryd.func31, Tryd.ntmps31
  go_wp2_with (go_at_call 49; refine (syntaxError fn s _ _ hlim hv ⟨te, pe, rfl⟩).mono ?_; rintro e w2 ⟨N, rfl, h3⟩)
  go_wp2
  go_ret
  exact ⟨N, rfl, h3⟩
set_option maxHeartbeats 4000000 in
set_option maxRecDepth 100000 in
theorem toError_range (fn s : ByteArray) (base bits : Int) (w : World) (hlim : s.size ≤ 281474976710656) (hv : ∃ te pe, w.cell? ⟨2, 0, none⟩ = some (.iface te pe)) :
    Calls Tryd.prog 31 #[.string fn, .string s, .int .i64 base, .int .i64 bits, errV 1] w fun e w' => ∃ N, e = .returned (.iface 73 (.pointer (some ⟨N, 0, none⟩))) ∧ Below w.heap.size w w' := by
  obtain ⟨te, pe, hv⟩ := hv
  rw [show errV 1 = .iface 71 (.int .i64 1) from rfl]
  have hne : ∀ W, (binOp .eql 47 (.iface 71 (.int .i64 1)) (.iface 71 (.int .i64 2))).run Tryd.prog W = .ok (.bool false) W := fun W => Lib.run_eql_iface_int W 1 2 Tryd.underlying47 (by kernel_rfl) Tryd.underlying71
  have heq : ∀ W, (binOp .eql 47 (.iface 71 (.int .i64 1)) (.iface 71 (.int .i64 1))).run Tryd.prog W = .ok (.bool true) W := fun W => Lib.run_eql_iface_int W 1 1 Tryd.underlying47 (by kernel_rfl) Tryd.underlying71
  go_enter Tryd.func31, Tryd.ntmps31
  go_wp2_with (go_at_call 50; refine (rangeError fn s _ _ hlim hv ⟨te, pe, rfl⟩).mono ?_; rintro e w2 ⟨N, rfl, h3⟩)
  go_wp2
  go_ret
  exact ⟨N, rfl, h3⟩
/-- What the public ParseUint answers: the number and nil, or an error that is not nil. -/
def pubE (v x : Nat) (e : Ending) : Prop := (x = 0 ∧ e = .returned (.tuple #[.int .u64 v, .nilIface])) ∨ (x ≠ 0 ∧ ∃ u N, e = .returned (.tuple #[.int .u64 u, .iface 73 (.pointer (some ⟨N, 0, none⟩))]))
set_option maxHeartbeats 4000000 in
set_option maxRecDepth 100000 in
/-- strconv.ParseUint(s, 10, 48): the number, and an error that is nil just where it is one. -/
theorem public10 (s : ByteArray) (w : World) (hlim : s.size ≤ 281474976710656) (hs : ∃ te pe, w.cell? ⟨1, 0, none⟩ = some (.iface te pe)) (hr : ∃ te pe, w.cell? ⟨2, 0, none⟩ = some (.iface te pe)) :
    Calls Tryd.prog 21 #[.string s, .int .i64 10, .int .i64 48] w fun e w' => pubE (puL 10 281474976710655 s.data.toList).1 (puL 10 281474976710655 s.data.toList).2 e ∧ Below w.heap.size w w' := by
  obtain ⟨te, pe, hs⟩ := hs
  obtain ⟨tr, pr, hr⟩ := hr
  have hG : 1 < w.heap.size := Lib.lt_of_cell hs
  have hG' : 2 < w.heap.size := Lib.lt_of_cell hr
  have hI := parse10 s w (by omega)
  obtain ⟨v, x, hR⟩ : ∃ v x, puL 10 281474976710655 s.data.toList = (v, x) := ⟨_, _, rfl⟩
  have hx : x = 0 ∨ x = 1 ∨ x = 2 := puL_le hR
  rw [hR] at hI ⊢
  have hI : Calls Tryd.prog 30 #[.string s, .int .i64 10, .int .i64 48] w fun e w' => e = .returned (.tuple #[.int .u64 v, errV x]) ∧ Below w.heap.size w w' := hI
  show Calls Tryd.prog 21 #[.string s, .int .i64 10, .int .i64 48] w fun e w' => pubE v x e ∧ Below w.heap.size w w'
  clear hR
  rcases hx with rfl | rfl | rfl
  · rw [show errV 0 = .nilIface from rfl] at hI
    go_enter Tryd.func21, Tryd.ntmps21
    go_wp2_with (go_at_call 30; refine hI.mono ?_; rintro e W1 ⟨rfl, hW⟩)
    go_ret2
    exact ⟨Or.inl ⟨rfl, rfl⟩, hW⟩
  · rw [show errV 1 = .iface 71 (.int .i64 1) from rfl] at hI
    go_enter Tryd.func21, Tryd.ntmps21
    go_wp2_with (first | (go_at_call 30; refine hI.mono ?_; rintro e W1 ⟨rfl, hW⟩) | (go_at_call 31; refine (toError_range _ s 10 48 _ hlim ⟨tr, pr, (hW.cell (show (⟨2, 0, none⟩ : Addr).block < w.heap.size from hG')).trans hr⟩).mono ?_; rintro e W2 ⟨N, rfl, h3⟩))
    go_ret2
    exact ⟨Or.inr ⟨by decide, _, N, rfl⟩, hW.trans (h3.mono hW.size)⟩
  · rw [show errV 2 = .iface 71 (.int .i64 2) from rfl] at hI
    go_enter Tryd.func21, Tryd.ntmps21
    go_wp2_with (first | (go_at_call 30; refine hI.mono ?_; rintro e W1 ⟨rfl, hW⟩) | (go_at_call 31; refine (toError_syntax _ s 10 48 _ hlim ⟨te, pe, (hW.cell (show (⟨1, 0, none⟩ : Addr).block < w.heap.size from hG)).trans hs⟩).mono ?_; rintro e W2 ⟨N, rfl, h3⟩))
    go_ret2
    exact ⟨Or.inr ⟨by decide, _, N, rfl⟩, hW.trans (h3.mono hW.size)⟩
end Go.Proofs.YtjoaiolacalemaaDoor.Lf
