/- unicode/utf8.ValidString at this translation: its contract off the shelf, laid in plain words. -/
import Derived.Test.YtcgpaopbcclbiaaDoorProg
import Derived.WalkKit
import Derived.Shelf.Unicode.ValidAny
import Derived.Lib.LaidU8
import Derived.KernelRfl
namespace Go.Proofs.YtcgpaopbcclbiaaDoor.Lf
open Go.RowKit Go.Shelf Go.Lib
def laysValid_ren : Go.Shelf.Ren := ⟨fun | 196 => 35 | 259 => 45 | n => n, fun | 9 => 9 | 4 => 4 | 3 => 3 | 5 => 5 | 12 => 12 | 119 => 69 | 0 => 0 | 46 => 73 | 139 => 72 | 138 => 71 | 53 => 50 | n => n, fun | 3 => 0 | 4 => 1 | n => n⟩
theorem laysValid : Lays.n196 Tryd.prog laysValid_ren := {
  mixed := by kernel_rfl,
  f196 := Tryd.func35.trans (congrArg some (by kernel_rfl)),
  f259 := Tryd.func45.trans (congrArg some (by kernel_rfl)),
  t0 := Tryd.underlying0,
  a0 := Tryd.isAgg0,
  z0 := Tryd.sizeOf0,
  v0 := Tryd.zeroValue0,
  t3 := Tryd.underlying3,
  a3 := Tryd.isAgg3,
  z3 := Tryd.sizeOf3,
  v3 := Tryd.zeroValue3,
  t4 := Tryd.underlying4,
  a4 := Tryd.isAgg4,
  z4 := Tryd.sizeOf4,
  v4 := Tryd.zeroValue4,
  t5 := Tryd.underlying5,
  a5 := Tryd.isAgg5,
  z5 := Tryd.sizeOf5,
  v5 := Tryd.zeroValue5,
  t9 := Tryd.underlying9,
  a9 := Tryd.isAgg9,
  z9 := Tryd.sizeOf9,
  v9 := Tryd.zeroValue9,
  t12 := Tryd.underlying12,
  a12 := Tryd.isAgg12,
  z12 := Tryd.sizeOf12,
  v12 := Tryd.zeroValue12,
  t46 := Tryd.underlying73,
  a46 := Tryd.isAgg73,
  z46 := Tryd.sizeOf73,
  v46 := Tryd.zeroValue73,
  t53 := Tryd.underlying50,
  a53 := Tryd.isAgg50,
  z53 := Tryd.sizeOf50,
  v53 := Tryd.zeroValue50,
  t119 := Tryd.underlying69,
  a119 := Tryd.isAgg69,
  z119 := Tryd.sizeOf69,
  t138 := Tryd.underlying71,
  a138 := Tryd.isAgg71,
  z138 := Tryd.sizeOf71,
  v138 := Tryd.zeroValue71,
  t139 := Tryd.underlying72,
  a139 := Tryd.isAgg72,
  z139 := Tryd.sizeOf72,
  v139 := Tryd.zeroValue72,
  g3 := by kernel_rfl,
  g4 := by kernel_rfl }
/-- The two tables of unicode/utf8, as their initialisers lay them. -/
theorem cell_in {w : World} {p : Addr} {v : Value} (h : w.cell? p = some v) : p.block < w.heap.size := by
  rcases Nat.lt_or_ge p.block w.heap.size with h' | h'
  · exact h'
  · unfold World.cell? at h; rw [Array.getElem?_eq_none h'] at h; simp at h
/-- What label.Unquote leans on beside the tables: bytealg.MaxLen and strconv's two errors. -/
structure Errs (w : World) : Prop where
  ml : ∃ M : Int, w.cell? ⟨2, 0, none⟩ = some (.int .i64 M)
  es : ∃ te pe, w.cell? ⟨3, 0, none⟩ = some (.iface te pe)
  er : ∃ te pe, w.cell? ⟨4, 0, none⟩ = some (.iface te pe)
theorem Errs.below {w w' : World} (h : Errs w) (hb : Below w.heap.size w w') : Errs w' := by
  obtain ⟨⟨M, h1⟩, ⟨a, b, h2⟩, ⟨c, d, h3⟩⟩ := h
  exact ⟨⟨M, (hb.cell (p := ⟨2, 0, none⟩) (cell_in h1)).trans h1⟩, ⟨a, b, (hb.cell (p := ⟨3, 0, none⟩) (cell_in h2)).trans h2⟩, ⟨c, d, (hb.cell (p := ⟨4, 0, none⟩) (cell_in h3)).trans h3⟩⟩
structure Tabs (w : World) : Prop where mk :: (out : Lib.Utf8Tabs 0 1 w) (db : w.cell? ⟨7, 15, none⟩ = some (.int .u8 4)) (errs : Errs w)
theorem Tabs.below {w w' : World} (h : Tabs w) (hb : Below w.heap.size w w') : Tabs w' := ⟨Utf8Tabs_below h.out hb, (hb.cell (p := ⟨7, 15, none⟩) (cell_in h.db)).trans h.db, h.errs.below hb⟩
theorem valid_any (s : ByteArray) (w : World) (hs : s.size ≤ 9223372036854775807) (hT : Tabs w) :
    Calls Tryd.prog 35 #[.string s] w fun e w' => e = .returned (.bool (Lib.validD s.data.toList)) ∧ Below w.heap.size w w' :=
  Any.utf8_ValidString laysValid s w hs hT.out
end Go.Proofs.YtcgpaopbcclbiaaDoor.Lf
