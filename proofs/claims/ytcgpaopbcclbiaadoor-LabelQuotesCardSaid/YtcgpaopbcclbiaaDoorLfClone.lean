/- internal/stringslite.Clone at this translation, laid by hand. -/
import Derived.Shelf.Strconv.Clone
import Derived.KernelRfl
import Derived.Test.YtcgpaopbcclbiaaDoorProg
namespace Go.Proofs.YtcgpaopbcclbiaaDoor.Sh
open Go.Shelf Go.RowKit
def lays316_ren : Go.Shelf.Ren := ⟨fun | 316 => 62 | n => n, fun | 0 => 0 | 3 => 3 | 4 => 4 | 5 => 5 | 9 => 9 | 37 => 32 | 127 => 55 | n => n, fun | n => n⟩
theorem lays316 : Go.Proofs.LaysM.n316 Tryd.prog lays316_ren := {
  mixed := by kernel_rfl
  f316 := Tryd.func62.trans (congrArg some (by kernel_rfl))
  t0 := Tryd.underlying0
  a0 := Tryd.isAgg0
  z0 := Tryd.sizeOf0
  v0 := Tryd.zeroValue0
  t3 := Tryd.underlying3
  a3 := Tryd.isAgg3
  z3 := Tryd.sizeOf3
  v3 := Tryd.zeroValue3
  t4 := Tryd.underlying4
  a4 := Tryd.isAgg4
  z4 := Tryd.sizeOf4
  v4 := Tryd.zeroValue4
  t9 := Tryd.underlying9
  a9 := Tryd.isAgg9
  z9 := Tryd.sizeOf9
  v9 := Tryd.zeroValue9
  t37 := Tryd.underlying32
  a37 := Tryd.isAgg32
  z37 := Tryd.sizeOf32
  v37 := Tryd.zeroValue32
  t127 := Tryd.underlying55
  a127 := Tryd.isAgg55
  z127 := Tryd.sizeOf55
  v127 := Tryd.zeroValue55
  t5 := Tryd.underlying5
  a5 := Tryd.isAgg5
  z5 := Tryd.sizeOf5
  v5 := Tryd.zeroValue5
  i0 := by kernel_rfl
  i3 := by kernel_rfl
  i4 := by kernel_rfl
  i5 := by kernel_rfl
  i9 := by kernel_rfl
  i37 := by kernel_rfl
  i127 := by kernel_rfl }
theorem stringslite_Clone (s : ByteArray) (w : World) (hlim : s.size ≤ 281474976710656) : Calls Tryd.prog 62 #[.string s] w fun e w' => e = .returned (.string s) ∧ Below w.heap.size w w' := Any.stringslite_Clone lays316 s w hlim
end Go.Proofs.YtcgpaopbcclbiaaDoor.Sh
