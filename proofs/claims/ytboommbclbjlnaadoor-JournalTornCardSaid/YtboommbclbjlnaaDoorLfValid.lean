/- unicode/utf8.ValidString at this translation: its contract off the shelf, laid in plain words. -/
import Derived.Test.YtboommbclbjlnaaDoorProg
import Derived.WalkKit
import Derived.Shelf.Unicode.ValidAny
import Derived.Lib.LaidU8
import Derived.KernelRfl
namespace Go.Proofs.YtboommbclbjlnaaDoor.Lf
open Go.RowKit Go.Shelf Go.Lib
def laysValid_ren : Go.Shelf.Ren := ⟨fun | 196 => 77 | 259 => 82 | n => n, fun | 9 => 9 | 4 => 4 | 3 => 3 | 5 => 5 | 12 => 12 | 119 => 124 | 0 => 0 | 46 => 118 | 139 => 127 | 138 => 126 | 53 => 22 | n => n, fun | 3 => 0 | 4 => 1 | n => n⟩
theorem laysValid : Lays.n196 Tryd.prog laysValid_ren := {
  mixed := by kernel_rfl,
  f196 := Tryd.func77.trans (congrArg some (by kernel_rfl)),
  f259 := Tryd.func82.trans (congrArg some (by kernel_rfl)),
  t0 := Tryd.underlying0,
  a0 := Tryd.isAgg0,
  z0 := Tryd.sizeOf0,
  v0 := Tryd.zeroValue0,
  t3 := Tryd.underlying3,
  a3 := Tryd.isAgg3,
  z3 := Tryd.sizeOf3,
  v3 := Tryd.zeroValue3,
  t4 := Tryd.underlying4,
  a4 := Tryd.isAgg4,
  z4 := Tryd.sizeOf4,
  v4 := Tryd.zeroValue4,
  t5 := Tryd.underlying5,
  a5 := Tryd.isAgg5,
  z5 := Tryd.sizeOf5,
  v5 := Tryd.zeroValue5,
  t9 := Tryd.underlying9,
  a9 := Tryd.isAgg9,
  z9 := Tryd.sizeOf9,
  v9 := Tryd.zeroValue9,
  t12 := Tryd.underlying12,
  a12 := Tryd.isAgg12,
  z12 := Tryd.sizeOf12,
  v12 := Tryd.zeroValue12,
  t46 := Tryd.underlying118,
  a46 := Tryd.isAgg118,
  z46 := Tryd.sizeOf118,
  v46 := Tryd.zeroValue118,
  t53 := Tryd.underlying22,
  a53 := Tryd.isAgg22,
  z53 := Tryd.sizeOf22,
  v53 := Tryd.zeroValue22,
  t119 := Tryd.underlying124,
  a119 := Tryd.isAgg124,
  z119 := Tryd.sizeOf124,
  t138 := Tryd.underlying126,
  a138 := Tryd.isAgg126,
  z138 := Tryd.sizeOf126,
  v138 := Tryd.zeroValue126,
  t139 := Tryd.underlying127,
  a139 := Tryd.isAgg127,
  z139 := Tryd.sizeOf127,
  v139 := Tryd.zeroValue127,
  g3 := by kernel_rfl,
  g4 := by kernel_rfl }
/-- The two tables of unicode/utf8, as their initialisers lay them. -/
structure Tabs (w : World) : Prop where mk :: (out : Lib.Utf8Tabs 0 1 w)
theorem Tabs.below {w w' : World} (h : Tabs w) (hb : Below w.heap.size w w') : Tabs w' := ⟨Utf8Tabs_below h.out hb⟩
theorem valid_any (s : ByteArray) (w : World) (hs : s.size ≤ 9223372036854775807) (hT : Tabs w) :
    Calls Tryd.prog 77 #[.string s] w fun e w' => e = .returned (.bool (Lib.validD s.data.toList)) ∧ Below w.heap.size w w' :=
  Any.utf8_ValidString laysValid s w hs hT.out
end Go.Proofs.YtboommbclbjlnaaDoor.Lf
