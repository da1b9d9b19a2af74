/- Contracts of the library at this translation, off the shelf, in plain words. -/
import Derived.Shelf.Strings.BuilderK
import Derived.Shelf.Strings.Repeat
import Derived.Test.YtakpedenoocmpaaProg
namespace Go.Proofs.Ytakpedenoocmpaa.Sh
open Go.Shelf
def lays169_ren : Go.Shelf.Ren := ⟨fun | 169 => 43 | n => n, fun | 70 => 72 | 9 => 9 | 0 => 0 | 72 => 74 | 37 => 37 | 127 => 87 | 3 => 3 | 5 => 5 | n => n, fun | n => n⟩
theorem lays169 : Go.Proofs.Lays.n169 Try.prog lays169_ren := {
  mixed := by kernel_rfl
  f169 := Try.func43.trans (congrArg some (by kernel_rfl))
  t0 := Try.underlying0
  a0 := Try.isAgg0
  z0 := Try.sizeOf0
  v0 := Try.zeroValue0
  t3 := Try.underlying3
  a3 := Try.isAgg3
  z3 := Try.sizeOf3
  v3 := Try.zeroValue3
  t9 := Try.underlying9
  a9 := Try.isAgg9
  z9 := Try.sizeOf9
  v9 := Try.zeroValue9
  t37 := Try.underlying37
  a37 := Try.isAgg37
  z37 := Try.sizeOf37
  v37 := Try.zeroValue37
  t70 := Try.underlying72
  a70 := Try.isAgg72
  z70 := Try.sizeOf72
  v70 := Try.zeroValue72
  t72 := Try.underlying74
  a72 := Try.isAgg74
  z72 := Try.sizeOf74
  v72 := Try.zeroValue74
  t127 := Try.underlying87
  a127 := Try.isAgg87
  z127 := Try.sizeOf87
  v127 := Try.zeroValue87 }
theorem Builder_Extra_169 : Builder.Extra Try.prog lays169_ren := {
  sizeBuilder := by kernel_rfl
  liesBuilder := by kernel_rfl
  t5 := Try.underlying5
  a5 := Try.isAgg5
  z5 := Try.sizeOf5
  v5 := Try.zeroValue5
  infoByte := by kernel_rfl
  cellsByte := by kernel_rfl
  sizeByte := by kernel_rfl
  neB5 := by decide }
open Go.RowKit in
/-- (*strings.Builder).String: "String returns the accumulated string.": WHATEVER THE BUILDER HOLDS; THE FORM '_k': OVER 'Lib.IsBuilderF' (a builder that 'String()' may have read), AND WITH THE FRAME THAT REACHES ABOVE THE BUILDER: 'Lib.OthersKept': every block that is not b and is no row of uint8's stands as it stood: the iterator of a range among them. (LAID: no walk: one application.) -/
theorem Builder_String_any_k (B b : Nat) (l : List UInt8) (w : World) (h : Lib.IsBuilderF 74 5 B b (Lib.byteCells l) w) (hBw : B ≤ w.heap.size) :
    Calls Try.prog 43 #[.pointer (some ⟨b, 0, none⟩)] w fun e w' => e = .returned (.string ⟨l.toArray⟩) ∧ (Lib.IsBuilderF 74 5 B b (Lib.byteCells l) w' ∧ Below B w w' ∧ Lib.OthersKept 5 (some b) w w') := Any.Builder_String_any_k lays169 Builder_Extra_169 B b l w h hBw
def lays105_ren : Go.Shelf.Ren := ⟨fun | 105 => 25 | 212 => 38 | 99 => 39 | 165 => 40 | 166 => 41 | 170 => 42 | 169 => 43 | 263 => 45 | 264 => 46 | 206 => 47 | 240 => 48 | 241 => 49 | 276 => 50 | 277 => 51 | n => n, fun | 9 => 9 | 3 => 3 | 4 => 4 | 20 => 20 | 0 => 0 | 46 => 68 | 109 => 69 | 5 => 5 | 72 => 74 | 76 => 77 | 51 => 81 | 146 => 82 | 53 => 84 | 148 => 85 | 70 => 72 | 37 => 37 | 75 => 76 | 127 => 87 | 164 => 88 | 80 => 67 | n => n, fun | n => n⟩
theorem lays105 : Go.Proofs.Lays.n105 Try.prog lays105_ren := {
  mixed := by kernel_rfl
  f99 := Try.func39.trans (congrArg some (by kernel_rfl))
  f105 := Try.func25.trans (congrArg some (by kernel_rfl))
  f165 := Try.func40.trans (congrArg some (by kernel_rfl))
  f166 := Try.func41.trans (congrArg some (by kernel_rfl))
  f169 := Try.func43.trans (congrArg some (by kernel_rfl))
  f170 := Try.func42.trans (congrArg some (by kernel_rfl))
  f206 := Try.func47.trans (congrArg some (by kernel_rfl))
  f212 := Try.func38.trans (congrArg some (by kernel_rfl))
  f240 := Try.func48.trans (congrArg some (by kernel_rfl))
  f241 := Try.func49.trans (congrArg some (by kernel_rfl))
  f263 := Try.func45.trans (congrArg some (by kernel_rfl))
  f264 := Try.func46.trans (congrArg some (by kernel_rfl))
  f276 := Try.func50.trans (congrArg some (by kernel_rfl))
  f277 := Try.func51.trans (congrArg some (by kernel_rfl))
  t0 := Try.underlying0
  a0 := Try.isAgg0
  z0 := Try.sizeOf0
  v0 := Try.zeroValue0
  t3 := Try.underlying3
  a3 := Try.isAgg3
  z3 := Try.sizeOf3
  v3 := Try.zeroValue3
  t4 := Try.underlying4
  a4 := Try.isAgg4
  z4 := Try.sizeOf4
  v4 := Try.zeroValue4
  t5 := Try.underlying5
  a5 := Try.isAgg5
  z5 := Try.sizeOf5
  v5 := Try.zeroValue5
  t9 := Try.underlying9
  a9 := Try.isAgg9
  z9 := Try.sizeOf9
  v9 := Try.zeroValue9
  t20 := Try.underlying20
  a20 := Try.isAgg20
  z20 := Try.sizeOf20
  v20 := Try.zeroValue20
  t37 := Try.underlying37
  a37 := Try.isAgg37
  z37 := Try.sizeOf37
  v37 := Try.zeroValue37
  t46 := Try.underlying68
  a46 := Try.isAgg68
  z46 := Try.sizeOf68
  v46 := Try.zeroValue68
  t51 := Try.underlying81
  a51 := Try.isAgg81
  z51 := Try.sizeOf81
  v51 := Try.zeroValue81
  t53 := Try.underlying84
  a53 := Try.isAgg84
  z53 := Try.sizeOf84
  v53 := Try.zeroValue84
  t70 := Try.underlying72
  a70 := Try.isAgg72
  z70 := Try.sizeOf72
  v70 := Try.zeroValue72
  t72 := Try.underlying74
  a72 := Try.isAgg74
  z72 := Try.sizeOf74
  v72 := Try.zeroValue74
  t75 := Try.underlying76
  a75 := Try.isAgg76
  z75 := Try.sizeOf76
  v75 := Try.zeroValue76
  t76 := Try.underlying77
  a76 := Try.isAgg77
  z76 := Try.sizeOf77
  v76 := Try.zeroValue77
  t109 := Try.underlying69
  a109 := Try.isAgg69
  z109 := Try.sizeOf69
  v109 := Try.zeroValue69
  t127 := Try.underlying87
  a127 := Try.isAgg87
  z127 := Try.sizeOf87
  v127 := Try.zeroValue87
  t146 := Try.underlying82
  a146 := Try.isAgg82
  z146 := Try.sizeOf82
  v146 := Try.zeroValue82
  t148 := Try.underlying85
  a148 := Try.isAgg85
  z148 := Try.sizeOf85
  v148 := Try.zeroValue85
  t164 := Try.underlying88
  a164 := Try.isAgg88
  z164 := Try.sizeOf88
  v164 := Try.zeroValue88 }
theorem Builder_Extra_105 : Builder.Extra Try.prog lays105_ren := {
  sizeBuilder := by kernel_rfl
  liesBuilder := by kernel_rfl
  t5 := Try.underlying5
  a5 := Try.isAgg5
  z5 := Try.sizeOf5
  v5 := Try.zeroValue5
  infoByte := by kernel_rfl
  cellsByte := by kernel_rfl
  sizeByte := by kernel_rfl
  neB5 := by decide }
open Go.RowKit Go.Lib in
/-- **strings.Repeat: count ≥ 0, the result within one allocation: count copies of s.** (LAID: no walk: one application.) -/
theorem strings_Repeat (s : ByteArray) (c : Nat) (w : World) (hc : c ≤ 9223372036854775807) (hlen : s.size * c ≤ 140737488355328) :
    Calls Try.prog 25 #[.string s, .int .i64 c] w fun e w' => e = .returned (.string ⟨(Lib.repeatL s.data.toList c).toArray⟩) ∧ Below w.heap.size w w' := Any.strings_Repeat lays105 Builder_Extra_105 s c w hc hlen
end Go.Proofs.Ytakpedenoocmpaa.Sh
