/- strconv.toError at the inner package's two errors: an error that is not nil. -/
import Derived.Test.YtcgpaopbcclbiaaDoorLfClone
import Derived.Test.YtcgpaopbcclbiaaDoorLfParse
import Derived.Lib.IfaceEq
import Derived.Lib.AtoiErrMem
import Derived.WalkKit
import Derived.BigCall
import Derived.BigGuard
import Derived.Shelf.RegionOpenPlain
import Derived.RegionTactic
import Derived.Deep.RegionWith
namespace Go.Proofs.YtcgpaopbcclbiaaDoor.Lf
open Go.RowKit
theorem puGo_le (base mx : Nat) : ∀ (l : List UInt8) (n : Nat), (puGo base mx l n).2 = 0 ∨ (puGo base mx l n).2 = 1 ∨ (puGo base mx l n).2 = 2
  | [], _ => Or.inl rfl
  | c :: r, n => by
    unfold puGo
    split
    · exact Or.inr (Or.inr rfl)
    · split
      · exact Or.inr (Or.inl rfl)
      · exact puGo_le base mx r _
theorem puL_le {base mx : Nat} {l : List UInt8} {v x : Nat} (h : puL base mx l = (v, x)) : x = 0 ∨ x = 1 ∨ x = 2 := by
  have : x = (puL base mx l).2 := by rw [h]
  rw [this]
  unfold puL
  split
  · exact Or.inr (Or.inr rfl)
  · exact puGo_le base mx l 0
set_option maxHeartbeats 4000000 in
set_option maxRecDepth 100000 in
theorem syntaxError (fn s : ByteArray) (ev : Value) (w : World) (hlim : s.size ≤ 281474976710656) (hv : w.cell? ⟨3, 0, none⟩ = some ev) (hev : ∃ te pe, ev = .iface te pe) :
    Calls Tryd.prog 52 #[.string fn, .string s] w fun e w' => ∃ N, e = .returned (.pointer (some ⟨N, 0, none⟩)) ∧ Below w.heap.size w w' := by
  obtain ⟨te, pe, rfl⟩ := hev
  have mixed : Tryd.prog.follows .mixedOrders = true := by kernel_rfl
  have hG : 3 < w.heap.size := Lib.lt_of_cell hv
  have hvd : w.drew.cell? ⟨3, 0, none⟩ = some (.iface te pe) := hv
  go_enter Tryd.func52, Tryd.ntmps52
  go_wp2
  go_region_with (
      go_at_call 62
      refine (Sh.stringslite_Clone s _ hlim).mono ?_
      rintro e w2 ⟨rfl, hbel⟩
      have hv2 : w2.cell? ⟨3, 0, none⟩ = some _ := (hbel.cell (show (⟨3, 0, none⟩ : Addr).block < w.drew.heap.size from hG)).trans hvd)
  all_goals (
    go_wp2
    go_ret
    have hs2 : w.heap.size ≤ w2.heap.size := hbel.size
    exact ⟨_, rfl, ((Below.drew (Below.refl _ w)).trans hbel).alloc hs2 _⟩)
set_option maxHeartbeats 4000000 in
set_option maxRecDepth 100000 in
theorem rangeError (fn s : ByteArray) (ev : Value) (w : World) (hlim : s.size ≤ 281474976710656) (hv : w.cell? ⟨4, 0, none⟩ = some ev) (hev : ∃ te pe, ev = .iface te pe) :
    Calls Tryd.prog 53 #[.string fn, .string s] w fun e w' => ∃ N, e = .returned (.pointer (some ⟨N, 0, none⟩)) ∧ Below w.heap.size w w' := by
  obtain ⟨te, pe, rfl⟩ := hev
  have mixed : Tryd.prog.follows .mixedOrders = true := by kernel_rfl
  have hG : 4 < w.heap.size := Lib.lt_of_cell hv
  have hvd : w.drew.cell? ⟨4, 0, none⟩ = some (.iface te pe) := hv
  go_enter Tryd.func53, Tryd.ntmps53
  go_wp2
  go_region_with (
      go_at_call 62
      refine (Sh.stringslite_Clone s _ hlim).mono ?_
      rintro e w2 ⟨rfl, hbel⟩
      have hv2 : w2.cell? ⟨4, 0, none⟩ = some _ := (hbel.cell (show (⟨4, 0, none⟩ : Addr).block < w.drew.heap.size from hG)).trans hvd)
  all_goals (
    go_wp2
    go_ret
    have hs2 : w.heap.size ≤ w2.heap.size := hbel.size
    exact ⟨_, rfl, ((Below.drew (Below.refl _ w)).trans hbel).alloc hs2 _⟩)
set_option maxHeartbeats 4000000 in
set_option maxRecDepth 100000 in
theorem toError_syntax (fn s : ByteArray) (base bits : Int) (w : World) (hlim : s.size ≤ 281474976710656) (hv : ∃ te pe, w.cell? ⟨3, 0, none⟩ = some (.iface te pe)) :
    Calls Tryd.prog 40 #[.string fn, .string s, .int .i64 base, .int .i64 bits, errV 2] w fun e w' => ∃ N, e = .returned (.iface 78 (.pointer (some ⟨N, 0, none⟩))) ∧ Below w.heap.size w w' := by
  obtain ⟨te, pe, hv⟩ := hv
  rw [show errV 2 = .iface 76 (.int .i64 2) from rfl]
  have heq : ∀ W, (binOp .eql 38 (.iface 76 (.int .i64 2)) (.iface 76 (.int .i64 2))).run Tryd.prog W = .ok (.bool true) W := fun W => Lib.run_eql_iface_int W 2 2 Tryd.underlying38 (by kernel_rfl) Tryd.underlying76
  go_enter Tryd.func40, Tryd.ntmps40
  go_wp2_with (go_at_call 52; refine (syntaxError fn s _ _ hlim hv ⟨te, pe, rfl⟩).mono ?_; rintro e w2 ⟨N, rfl, h3⟩)
  go_wp2
  go_ret
  exact ⟨N, rfl, h3⟩
set_option maxHeartbeats 4000000 in
set_option maxRecDepth 100000 in
theorem toError_range (fn s : ByteArray) (base bits : Int) (w : World) (hlim : s.size ≤ 281474976710656) (hv : ∃ te pe, w.cell? ⟨4, 0, none⟩ = some (.iface te pe)) :
    Calls Tryd.prog 40 #[.string fn, .string s, .int .i64 base, .int .i64 bits, errV 1] w fun e w' => ∃ N, e = .returned (.iface 78 (.pointer (some ⟨N, 0, none⟩))) ∧ Below w.heap.size w w' := by
  obtain ⟨te, pe, hv⟩ := hv
  rw [show errV 1 = .iface 76 (.int .i64 1) from rfl]
  have hne : ∀ W, (binOp .eql 38 (.iface 76 (.int .i64 1)) (.iface 76 (.int .i64 2))).run Tryd.prog W = .ok (.bool false) W := fun W => Lib.run_eql_iface_int W 1 2 Tryd.underlying38 (by kernel_rfl) Tryd.underlying76
  have heq : ∀ W, (binOp .eql 38 (.iface 76 (.int .i64 1)) (.iface 76 (.int .i64 1))).run Tryd.prog W = .ok (.bool true) W := fun W => Lib.run_eql_iface_int W 1 1 Tryd.underlying38 (by kernel_rfl) Tryd.underlying76
  go_enter Tryd.func40, Tryd.ntmps40
  go_wp2_with (go_at_call 53; refine (rangeError fn s _ _ hlim hv ⟨te, pe, rfl⟩).mono ?_; rintro e w2 ⟨N, rfl, h3⟩)
  go_wp2
  go_ret
  exact ⟨N, rfl, h3⟩
/-- What the public ParseUint answers: the number and nil, or an error that is not nil. -/
def pubE (v x : Nat) (e : Ending) : Prop := (x = 0 ∧ e = .returned (.tuple #[.int .u64 v, .nilIface])) ∨ (x ≠ 0 ∧ ∃ u N, e = .returned (.tuple #[.int .u64 u, .iface 78 (.pointer (some ⟨N, 0, none⟩))]))
end Go.Proofs.YtcgpaopbcclbiaaDoor.Lf
