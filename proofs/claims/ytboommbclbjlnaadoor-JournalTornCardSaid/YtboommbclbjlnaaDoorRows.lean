/-
  NARROWER THAN 'FOR EVERY INPUT', by the rows' own cells (each row's printed sentence says how): StepPuts: laid · StepSizes: laid · StepGroups: laid · StepParts: laid · StepBack: laid · StepTakes: laid · StepTorn: laid · JournalAdds: laid · JournalAfter: laid · JournalSame: laid · JournalJoins: laid · JournalOnce: laid · JournalReads: laid · JournalTorn: laid.
  DERIVED. THE GIVEN ROWS OF THIS SEAT. 14 by the template 'for every input the law returns true; each argument reads behind the call as it read before'; 0 by the template 'total and deterministic' (their statements: YtboommbclbjlnaaDoorTotals.lean).
  GIVEN WITH THE SEED: the statements are not yours to turn. If you find one false, say at which input.
  Laid BY PROGRAM, IN A SANDBOX (cutbox-rows.mjs): the forced cells as the released guide's own fill.sh prints them over the translation 9802ab5e232a7cf6… (all of the seat's roots in one cut). By AI agents, Wed Nov 11 2026. No macro, syntax, notation, axiom, sorry.
-/
import Derived.Test.YtboommbclbjlnaaDoorChecked
import GoSem.PinnedTables
import GoSem.Claim
import GoSem.ClaimJoined
import GoSem.ClaimMapViews
import Derived.JoinedTies
import Derived.KernelRfl
namespace Go.Proofs.YtboommbclbjlnaaDoor
/- THE CELL 'sum', in the pinned program and in every row, IS THE sha256 OF THE DUMP (.gsa) THAT YtboommbclbjlnaaDoorProg.lean LOADS. Nothing in Lean hashes anything: it is a label: what it is worth is what the hold of that sum in a sandbox is worth. -/
noncomputable def Tryd.pinned : Pinned := { name := "ytboommbclbjlnaadoor", sum := "9802ab5e232a7cf652c9b0beb0ee0a816145d09783c54d10131c60f8b8f0d472", checked := Tryd.checked }
namespace Rows
def none {H : Type} : Left H := { results := [], args := [] }

/- WHAT THE LISTED PACKAGE-LEVEL VARIABLES READ AS WHEN THE CALL BEGINS. Each datum BY PROGRAM (the guide's laid-datum.mjs) off the statement by which the dump's own 'gosem.cut.vars' lays the variable. In a bare row this is a premise. The card (YtboommbclbjlnaaDoorCards.lean) ties it to the program's text. -/
def laid_unicode_utf8_acceptRanges {H : Type} : DataW H := .agg [.agg [.lit (.int .u8 128), .lit (.int .u8 191)], .agg [.lit (.int .u8 160), .lit (.int .u8 191)], .agg [.lit (.int .u8 128), .lit (.int .u8 159)], .agg [.lit (.int .u8 144), .lit (.int .u8 191)], .agg [.lit (.int .u8 128), .lit (.int .u8 143)], .agg [.lit (.int .u8 0), .lit (.int .u8 0)], .agg [.lit (.int .u8 0), .lit (.int .u8 0)], .agg [.lit (.int .u8 0), .lit (.int .u8 0)], .agg [.lit (.int .u8 0), .lit (.int .u8 0)], .agg [.lit (.int .u8 0), .lit (.int .u8 0)], .agg [.lit (.int .u8 0), .lit (.int .u8 0)], .agg [.lit (.int .u8 0), .lit (.int .u8 0)], .agg [.lit (.int .u8 0), .lit (.int .u8 0)], .agg [.lit (.int .u8 0), .lit (.int .u8 0)], .agg [.lit (.int .u8 0), .lit (.int .u8 0)], .agg [.lit (.int .u8 0), .lit (.int .u8 0)]]
/-- One of Go's own tables, pinned by name: the form's constant. -/
def laid_unicode_utf8_first : DataW Unit := Go.Pinned.utf8First

/-- 'rootcellarlaw12.StepPuts': WHATEVER THE INPUT: true; the input reads as it did. -/
def stepPutsSpec : ChangeSpec := { name := "stepPuts", fn := fun _ => fun
  | [d] => { results := [.lit (.bool true)], args := [d] }
  | _ => none }
def stepPutsRow : OpenClaim := { program := "ytboommbclbjlnaadoor", sum := "9802ab5e232a7cf652c9b0beb0ee0a816145d09783c54d10131c60f8b8f0d472", func := "rootcellar/rootcellarlaw12.StepPuts", spec := "stepPuts", named := ["unicode/utf8.first", "unicode/utf8.acceptRanges"], apart := false, laid := [("unicode/utf8.acceptRanges", laid_unicode_utf8_acceptRanges), ("unicode/utf8.first", laid_unicode_utf8_first)] }
def StepPutsSaid : Prop := stepPutsRow.holds Tryd.pinned (OpenSpec.ofChange stepPutsSpec)

/-- ITS FALSE NEIGHBOUR: 'it returns false'. Refute it at one input. -/
def stepPutsWrong : ChangeSpec := { name := "stepPuts", fn := fun _ => fun
  | [d] => { results := [.lit (.bool false)], args := [d] }
  | _ => none }
def StepPutsWrongFalsely : Prop := stepPutsRow.holds Tryd.pinned (OpenSpec.ofChange stepPutsWrong)

/-- 'rootcellarlaw12.StepSizes': WHATEVER THE INPUT: true; the input reads as it did. -/
def stepSizesSpec : ChangeSpec := { name := "stepSizes", fn := fun _ => fun
  | [d] => { results := [.lit (.bool true)], args := [d] }
  | _ => none }
def stepSizesRow : OpenClaim := { program := "ytboommbclbjlnaadoor", sum := "9802ab5e232a7cf652c9b0beb0ee0a816145d09783c54d10131c60f8b8f0d472", func := "rootcellar/rootcellarlaw12.StepSizes", spec := "stepSizes", named := ["unicode/utf8.first", "unicode/utf8.acceptRanges"], apart := false, laid := [("unicode/utf8.acceptRanges", laid_unicode_utf8_acceptRanges), ("unicode/utf8.first", laid_unicode_utf8_first)] }
def StepSizesSaid : Prop := stepSizesRow.holds Tryd.pinned (OpenSpec.ofChange stepSizesSpec)

/-- ITS FALSE NEIGHBOUR: 'it returns false'. Refute it at one input. -/
def stepSizesWrong : ChangeSpec := { name := "stepSizes", fn := fun _ => fun
  | [d] => { results := [.lit (.bool false)], args := [d] }
  | _ => none }
def StepSizesWrongFalsely : Prop := stepSizesRow.holds Tryd.pinned (OpenSpec.ofChange stepSizesWrong)

/-- 'rootcellarlaw12.StepGroups': WHATEVER THE INPUT: true; the input reads as it did. -/
def stepGroupsSpec : ChangeSpec := { name := "stepGroups", fn := fun _ => fun
  | [d] => { results := [.lit (.bool true)], args := [d] }
  | _ => none }
def stepGroupsRow : OpenClaim := { program := "ytboommbclbjlnaadoor", sum := "9802ab5e232a7cf652c9b0beb0ee0a816145d09783c54d10131c60f8b8f0d472", func := "rootcellar/rootcellarlaw12.StepGroups", spec := "stepGroups", named := ["unicode/utf8.first", "unicode/utf8.acceptRanges"], apart := false, laid := [("unicode/utf8.acceptRanges", laid_unicode_utf8_acceptRanges), ("unicode/utf8.first", laid_unicode_utf8_first)] }
def StepGroupsSaid : Prop := stepGroupsRow.holds Tryd.pinned (OpenSpec.ofChange stepGroupsSpec)

/-- ITS FALSE NEIGHBOUR: 'it returns false'. Refute it at one input. -/
def stepGroupsWrong : ChangeSpec := { name := "stepGroups", fn := fun _ => fun
  | [d] => { results := [.lit (.bool false)], args := [d] }
  | _ => none }
def StepGroupsWrongFalsely : Prop := stepGroupsRow.holds Tryd.pinned (OpenSpec.ofChange stepGroupsWrong)

/-- 'rootcellarlaw12.StepParts': WHATEVER THE INPUT: true; the input reads as it did. -/
def stepPartsSpec : ChangeSpec := { name := "stepParts", fn := fun _ => fun
  | [d1, d2] => { results := [.lit (.bool true)], args := [d1, d2] }
  | _ => none }
def stepPartsRow : OpenClaim := { program := "ytboommbclbjlnaadoor", sum := "9802ab5e232a7cf652c9b0beb0ee0a816145d09783c54d10131c60f8b8f0d472", func := "rootcellar/rootcellarlaw12.StepParts", spec := "stepParts", named := ["unicode/utf8.first", "unicode/utf8.acceptRanges"], apart := false, laid := [("unicode/utf8.acceptRanges", laid_unicode_utf8_acceptRanges), ("unicode/utf8.first", laid_unicode_utf8_first)] }
def StepPartsSaid : Prop := stepPartsRow.holds Tryd.pinned (OpenSpec.ofChange stepPartsSpec)

/-- ITS FALSE NEIGHBOUR: 'it returns false'. Refute it at one input. -/
def stepPartsWrong : ChangeSpec := { name := "stepParts", fn := fun _ => fun
  | [d1, d2] => { results := [.lit (.bool false)], args := [d1, d2] }
  | _ => none }
def StepPartsWrongFalsely : Prop := stepPartsRow.holds Tryd.pinned (OpenSpec.ofChange stepPartsWrong)

/-- 'rootcellarlaw12.StepBack': WHATEVER THE INPUT: true; the input reads as it did. -/
def stepBackSpec : ChangeSpec := { name := "stepBack", fn := fun _ => fun
  | [d1, d2] => { results := [.lit (.bool true)], args := [d1, d2] }
  | _ => none }
def stepBackRow : OpenClaim := { program := "ytboommbclbjlnaadoor", sum := "9802ab5e232a7cf652c9b0beb0ee0a816145d09783c54d10131c60f8b8f0d472", func := "rootcellar/rootcellarlaw12.StepBack", spec := "stepBack", named := ["unicode/utf8.first", "unicode/utf8.acceptRanges"], apart := false, laid := [("unicode/utf8.acceptRanges", laid_unicode_utf8_acceptRanges), ("unicode/utf8.first", laid_unicode_utf8_first)] }
def StepBackSaid : Prop := stepBackRow.holds Tryd.pinned (OpenSpec.ofChange stepBackSpec)

/-- ITS FALSE NEIGHBOUR: 'it returns false'. Refute it at one input. -/
def stepBackWrong : ChangeSpec := { name := "stepBack", fn := fun _ => fun
  | [d1, d2] => { results := [.lit (.bool false)], args := [d1, d2] }
  | _ => none }
def StepBackWrongFalsely : Prop := stepBackRow.holds Tryd.pinned (OpenSpec.ofChange stepBackWrong)

/-- 'rootcellarlaw12.StepTakes': WHATEVER THE INPUT: true; the input reads as it did. -/
def stepTakesSpec : ChangeSpec := { name := "stepTakes", fn := fun _ => fun
  | [d] => { results := [.lit (.bool true)], args := [d] }
  | _ => none }
def stepTakesRow : OpenClaim := { program := "ytboommbclbjlnaadoor", sum := "9802ab5e232a7cf652c9b0beb0ee0a816145d09783c54d10131c60f8b8f0d472", func := "rootcellar/rootcellarlaw12.StepTakes", spec := "stepTakes", unfollowed := true, recurses := true, named := ["unicode/utf8.first", "unicode/utf8.acceptRanges"], apart := false, laid := [("unicode/utf8.acceptRanges", laid_unicode_utf8_acceptRanges), ("unicode/utf8.first", laid_unicode_utf8_first)] }
def StepTakesSaid : Prop := stepTakesRow.holds Tryd.pinned (OpenSpec.ofChange stepTakesSpec)

/-- ITS FALSE NEIGHBOUR: 'it returns false'. Refute it at one input. -/
def stepTakesWrong : ChangeSpec := { name := "stepTakes", fn := fun _ => fun
  | [d] => { results := [.lit (.bool false)], args := [d] }
  | _ => none }
def StepTakesWrongFalsely : Prop := stepTakesRow.holds Tryd.pinned (OpenSpec.ofChange stepTakesWrong)

/-- 'rootcellarlaw12.StepTorn': WHATEVER THE INPUT: true; the input reads as it did. -/
def stepTornSpec : ChangeSpec := { name := "stepTorn", fn := fun _ => fun
  | [d1, d2, d3] => { results := [.lit (.bool true)], args := [d1, d2, d3] }
  | _ => none }
def stepTornRow : OpenClaim := { program := "ytboommbclbjlnaadoor", sum := "9802ab5e232a7cf652c9b0beb0ee0a816145d09783c54d10131c60f8b8f0d472", func := "rootcellar/rootcellarlaw12.StepTorn", spec := "stepTorn", unfollowed := true, recurses := true, named := ["unicode/utf8.first", "unicode/utf8.acceptRanges"], apart := false, laid := [("unicode/utf8.acceptRanges", laid_unicode_utf8_acceptRanges), ("unicode/utf8.first", laid_unicode_utf8_first)] }
def StepTornSaid : Prop := stepTornRow.holds Tryd.pinned (OpenSpec.ofChange stepTornSpec)

/-- ITS FALSE NEIGHBOUR: 'it returns false'. Refute it at one input. -/
def stepTornWrong : ChangeSpec := { name := "stepTorn", fn := fun _ => fun
  | [d1, d2, d3] => { results := [.lit (.bool false)], args := [d1, d2, d3] }
  | _ => none }
def StepTornWrongFalsely : Prop := stepTornRow.holds Tryd.pinned (OpenSpec.ofChange stepTornWrong)

/-- 'rootcellarlaw13.JournalAdds': WHATEVER THE INPUT: true; the input reads as it did. -/
def journalAddsSpec : ChangeSpec := { name := "journalAdds", fn := fun _ => fun
  | [d1, d2, d3, d4] => { results := [.lit (.bool true)], args := [d1, d2, d3, d4] }
  | _ => none }
def journalAddsRow : OpenClaim := { program := "ytboommbclbjlnaadoor", sum := "9802ab5e232a7cf652c9b0beb0ee0a816145d09783c54d10131c60f8b8f0d472", func := "rootcellar/rootcellarlaw13.JournalAdds", spec := "journalAdds", inPlace := ["internal/abi.NoEscape"], unfollowed := true, recurses := true, named := ["unicode/utf8.first", "unicode/utf8.acceptRanges"], apart := false, laid := [("unicode/utf8.acceptRanges", laid_unicode_utf8_acceptRanges), ("unicode/utf8.first", laid_unicode_utf8_first)] }
def JournalAddsSaid : Prop := journalAddsRow.holds Tryd.pinned (OpenSpec.ofChange journalAddsSpec)

/-- ITS FALSE NEIGHBOUR: 'it returns false'. Refute it at one input. -/
def journalAddsWrong : ChangeSpec := { name := "journalAdds", fn := fun _ => fun
  | [d1, d2, d3, d4] => { results := [.lit (.bool false)], args := [d1, d2, d3, d4] }
  | _ => none }
def JournalAddsWrongFalsely : Prop := journalAddsRow.holds Tryd.pinned (OpenSpec.ofChange journalAddsWrong)

/-- 'rootcellarlaw13.JournalAfter': WHATEVER THE INPUT: true; the input reads as it did. -/
def journalAfterSpec : ChangeSpec := { name := "journalAfter", fn := fun _ => fun
  | [d1, d2, d3] => { results := [.lit (.bool true)], args := [d1, d2, d3] }
  | _ => none }
def journalAfterRow : OpenClaim := { program := "ytboommbclbjlnaadoor", sum := "9802ab5e232a7cf652c9b0beb0ee0a816145d09783c54d10131c60f8b8f0d472", func := "rootcellar/rootcellarlaw13.JournalAfter", spec := "journalAfter", inPlace := ["internal/abi.NoEscape"], unfollowed := true, recurses := true, named := ["unicode/utf8.first", "unicode/utf8.acceptRanges"], apart := false, laid := [("unicode/utf8.acceptRanges", laid_unicode_utf8_acceptRanges), ("unicode/utf8.first", laid_unicode_utf8_first)] }
def JournalAfterSaid : Prop := journalAfterRow.holds Tryd.pinned (OpenSpec.ofChange journalAfterSpec)

/-- ITS FALSE NEIGHBOUR: 'it returns false'. Refute it at one input. -/
def journalAfterWrong : ChangeSpec := { name := "journalAfter", fn := fun _ => fun
  | [d1, d2, d3] => { results := [.lit (.bool false)], args := [d1, d2, d3] }
  | _ => none }
def JournalAfterWrongFalsely : Prop := journalAfterRow.holds Tryd.pinned (OpenSpec.ofChange journalAfterWrong)

/-- 'rootcellarlaw13.JournalSame': WHATEVER THE INPUT: true; the input reads as it did. -/
def journalSameSpec : ChangeSpec := { name := "journalSame", fn := fun _ => fun
  | [d1, d2, d3, d4] => { results := [.lit (.bool true)], args := [d1, d2, d3, d4] }
  | _ => none }
def journalSameRow : OpenClaim := { program := "ytboommbclbjlnaadoor", sum := "9802ab5e232a7cf652c9b0beb0ee0a816145d09783c54d10131c60f8b8f0d472", func := "rootcellar/rootcellarlaw13.JournalSame", spec := "journalSame", inPlace := ["internal/abi.NoEscape"], unfollowed := true, recurses := true, named := ["unicode/utf8.first", "unicode/utf8.acceptRanges"], apart := false, laid := [("unicode/utf8.acceptRanges", laid_unicode_utf8_acceptRanges), ("unicode/utf8.first", laid_unicode_utf8_first)] }
def JournalSameSaid : Prop := journalSameRow.holds Tryd.pinned (OpenSpec.ofChange journalSameSpec)

/-- ITS FALSE NEIGHBOUR: 'it returns false'. Refute it at one input. -/
def journalSameWrong : ChangeSpec := { name := "journalSame", fn := fun _ => fun
  | [d1, d2, d3, d4] => { results := [.lit (.bool false)], args := [d1, d2, d3, d4] }
  | _ => none }
def JournalSameWrongFalsely : Prop := journalSameRow.holds Tryd.pinned (OpenSpec.ofChange journalSameWrong)

/-- 'rootcellarlaw13.JournalJoins': WHATEVER THE INPUT: true; the input reads as it did. -/
def journalJoinsSpec : ChangeSpec := { name := "journalJoins", fn := fun _ => fun
  | [d1, d2, d3, d4] => { results := [.lit (.bool true)], args := [d1, d2, d3, d4] }
  | _ => none }
def journalJoinsRow : OpenClaim := { program := "ytboommbclbjlnaadoor", sum := "9802ab5e232a7cf652c9b0beb0ee0a816145d09783c54d10131c60f8b8f0d472", func := "rootcellar/rootcellarlaw13.JournalJoins", spec := "journalJoins", inPlace := ["internal/abi.NoEscape"], unfollowed := true, recurses := true, named := ["unicode/utf8.first", "unicode/utf8.acceptRanges"], apart := false, laid := [("unicode/utf8.acceptRanges", laid_unicode_utf8_acceptRanges), ("unicode/utf8.first", laid_unicode_utf8_first)] }
def JournalJoinsSaid : Prop := journalJoinsRow.holds Tryd.pinned (OpenSpec.ofChange journalJoinsSpec)

/-- ITS FALSE NEIGHBOUR: 'it returns false'. Refute it at one input. -/
def journalJoinsWrong : ChangeSpec := { name := "journalJoins", fn := fun _ => fun
  | [d1, d2, d3, d4] => { results := [.lit (.bool false)], args := [d1, d2, d3, d4] }
  | _ => none }
def JournalJoinsWrongFalsely : Prop := journalJoinsRow.holds Tryd.pinned (OpenSpec.ofChange journalJoinsWrong)

/-- 'rootcellarlaw13.JournalOnce': WHATEVER THE INPUT: true; the input reads as it did. -/
def journalOnceSpec : ChangeSpec := { name := "journalOnce", fn := fun _ => fun
  | [d1, d2, d3] => { results := [.lit (.bool true)], args := [d1, d2, d3] }
  | _ => none }
def journalOnceRow : OpenClaim := { program := "ytboommbclbjlnaadoor", sum := "9802ab5e232a7cf652c9b0beb0ee0a816145d09783c54d10131c60f8b8f0d472", func := "rootcellar/rootcellarlaw13.JournalOnce", spec := "journalOnce", inPlace := ["internal/abi.NoEscape"], unfollowed := true, recurses := true, named := ["unicode/utf8.first", "unicode/utf8.acceptRanges"], apart := false, laid := [("unicode/utf8.acceptRanges", laid_unicode_utf8_acceptRanges), ("unicode/utf8.first", laid_unicode_utf8_first)] }
def JournalOnceSaid : Prop := journalOnceRow.holds Tryd.pinned (OpenSpec.ofChange journalOnceSpec)

/-- ITS FALSE NEIGHBOUR: 'it returns false'. Refute it at one input. -/
def journalOnceWrong : ChangeSpec := { name := "journalOnce", fn := fun _ => fun
  | [d1, d2, d3] => { results := [.lit (.bool false)], args := [d1, d2, d3] }
  | _ => none }
def JournalOnceWrongFalsely : Prop := journalOnceRow.holds Tryd.pinned (OpenSpec.ofChange journalOnceWrong)

/-- 'rootcellarlaw13.JournalReads': WHATEVER THE INPUT: true; the input reads as it did. -/
def journalReadsSpec : ChangeSpec := { name := "journalReads", fn := fun _ => fun
  | [d] => { results := [.lit (.bool true)], args := [d] }
  | _ => none }
def journalReadsRow : OpenClaim := { program := "ytboommbclbjlnaadoor", sum := "9802ab5e232a7cf652c9b0beb0ee0a816145d09783c54d10131c60f8b8f0d472", func := "rootcellar/rootcellarlaw13.JournalReads", spec := "journalReads", inPlace := ["internal/abi.NoEscape"], unfollowed := true, recurses := true, named := ["unicode/utf8.first", "unicode/utf8.acceptRanges"], apart := false, laid := [("unicode/utf8.acceptRanges", laid_unicode_utf8_acceptRanges), ("unicode/utf8.first", laid_unicode_utf8_first)] }
def JournalReadsSaid : Prop := journalReadsRow.holds Tryd.pinned (OpenSpec.ofChange journalReadsSpec)

/-- ITS FALSE NEIGHBOUR: 'it returns false'. Refute it at one input. -/
def journalReadsWrong : ChangeSpec := { name := "journalReads", fn := fun _ => fun
  | [d] => { results := [.lit (.bool false)], args := [d] }
  | _ => none }
def JournalReadsWrongFalsely : Prop := journalReadsRow.holds Tryd.pinned (OpenSpec.ofChange journalReadsWrong)

/-- 'rootcellarlaw13.JournalTorn': WHATEVER THE INPUT: true; the input reads as it did. -/
def journalTornSpec : ChangeSpec := { name := "journalTorn", fn := fun _ => fun
  | [d1, d2, d3, d4] => { results := [.lit (.bool true)], args := [d1, d2, d3, d4] }
  | _ => none }
def journalTornRow : OpenClaim := { program := "ytboommbclbjlnaadoor", sum := "9802ab5e232a7cf652c9b0beb0ee0a816145d09783c54d10131c60f8b8f0d472", func := "rootcellar/rootcellarlaw13.JournalTorn", spec := "journalTorn", inPlace := ["internal/abi.NoEscape"], unfollowed := true, recurses := true, named := ["unicode/utf8.first", "unicode/utf8.acceptRanges"], apart := false, laid := [("unicode/utf8.acceptRanges", laid_unicode_utf8_acceptRanges), ("unicode/utf8.first", laid_unicode_utf8_first)] }
def JournalTornSaid : Prop := journalTornRow.holds Tryd.pinned (OpenSpec.ofChange journalTornSpec)

/-- ITS FALSE NEIGHBOUR: 'it returns false'. Refute it at one input. -/
def journalTornWrong : ChangeSpec := { name := "journalTorn", fn := fun _ => fun
  | [d1, d2, d3, d4] => { results := [.lit (.bool false)], args := [d1, d2, d3, d4] }
  | _ => none }
def JournalTornWrongFalsely : Prop := journalTornRow.holds Tryd.pinned (OpenSpec.ofChange journalTornWrong)

/- THE SECOND FORM. 'bulk': how many values and letters a reading holds, each counted each time it is reached (what is shared counts as often as it is met; a slice's spare places count too). A statement '..UptoSaid' is the law's where the arguments, and the package variables that the reading takes, are together of bulk at most 1048576: NARROWER than '..Said'. Prove '..Said' where nothing that the law and all that it calls make is longer than what came in: it says more and counts as full. Else prove '..UptoSaid'. A law counts once. -/
mutual
def uptoBulk {H : Type} : DataW H → Nat
  | .lit (.string bytes) => bytes.length + 1
  | .lit _ => 1
  | .nil => 1
  | .ptr d => uptoBulk d + 1
  | .slice elems spare => uptoBulkAll elems + uptoBulkAll spare + 1
  | .agg parts => uptoBulkAll parts + 1
  | .iface _ d => uptoBulk d + 1
  | .map entries => uptoBulkEntries entries + 1
  | .held _ => 1
def uptoBulkAll {H : Type} : List (DataW H) → Nat
  | [] => 0
  | d :: r => uptoBulk d + uptoBulkAll r
def uptoBulkEntries {H : Type} : List (Lit × DataW H) → Nat
  | [] => 0
  | x :: r => uptoBulkEntry x + uptoBulkEntries r
def uptoBulkEntry {H : Type} : Lit × DataW H → Nat
  | (.string bytes, d) => bytes.length + uptoBulk d + 1
  | (_, d) => uptoBulk d + 1
 end
def uptoSmall : (H : Type) → List (DataW H) → Bool := fun _ ds => decide (uptoBulkAll ds ≤ 1048576)
def OpenSpec.upto (s : _root_.Go.ChangeSpec) : _root_.Go.OpenSpec := { _root_.Go.OpenSpec.ofChange s with cond := some uptoSmall }

/-- 'rootcellarlaw12.StepPuts', WHERE WHAT IT READS IS OF BULK AT MOST 1048576: true; the input reads as it did. -/
def stepPutsUptoRow : OpenClaim := { program := "ytboommbclbjlnaadoor", sum := "9802ab5e232a7cf652c9b0beb0ee0a816145d09783c54d10131c60f8b8f0d472", func := "rootcellar/rootcellarlaw12.StepPuts", spec := "stepPuts", named := ["unicode/utf8.first", "unicode/utf8.acceptRanges"], apart := false, laid := [("unicode/utf8.acceptRanges", laid_unicode_utf8_acceptRanges), ("unicode/utf8.first", laid_unicode_utf8_first)], narrowed := true }
def StepPutsUptoSaid : Prop := stepPutsUptoRow.holds Tryd.pinned (OpenSpec.upto stepPutsSpec)

/-- 'rootcellarlaw12.StepSizes', WHERE WHAT IT READS IS OF BULK AT MOST 1048576: true; the input reads as it did. -/
def stepSizesUptoRow : OpenClaim := { program := "ytboommbclbjlnaadoor", sum := "9802ab5e232a7cf652c9b0beb0ee0a816145d09783c54d10131c60f8b8f0d472", func := "rootcellar/rootcellarlaw12.StepSizes", spec := "stepSizes", named := ["unicode/utf8.first", "unicode/utf8.acceptRanges"], apart := false, laid := [("unicode/utf8.acceptRanges", laid_unicode_utf8_acceptRanges), ("unicode/utf8.first", laid_unicode_utf8_first)], narrowed := true }
def StepSizesUptoSaid : Prop := stepSizesUptoRow.holds Tryd.pinned (OpenSpec.upto stepSizesSpec)

/-- 'rootcellarlaw12.StepGroups', WHERE WHAT IT READS IS OF BULK AT MOST 1048576: true; the input reads as it did. -/
def stepGroupsUptoRow : OpenClaim := { program := "ytboommbclbjlnaadoor", sum := "9802ab5e232a7cf652c9b0beb0ee0a816145d09783c54d10131c60f8b8f0d472", func := "rootcellar/rootcellarlaw12.StepGroups", spec := "stepGroups", named := ["unicode/utf8.first", "unicode/utf8.acceptRanges"], apart := false, laid := [("unicode/utf8.acceptRanges", laid_unicode_utf8_acceptRanges), ("unicode/utf8.first", laid_unicode_utf8_first)], narrowed := true }
def StepGroupsUptoSaid : Prop := stepGroupsUptoRow.holds Tryd.pinned (OpenSpec.upto stepGroupsSpec)

/-- 'rootcellarlaw12.StepParts', WHERE WHAT IT READS IS OF BULK AT MOST 1048576: true; the input reads as it did. -/
def stepPartsUptoRow : OpenClaim := { program := "ytboommbclbjlnaadoor", sum := "9802ab5e232a7cf652c9b0beb0ee0a816145d09783c54d10131c60f8b8f0d472", func := "rootcellar/rootcellarlaw12.StepParts", spec := "stepParts", named := ["unicode/utf8.first", "unicode/utf8.acceptRanges"], apart := false, laid := [("unicode/utf8.acceptRanges", laid_unicode_utf8_acceptRanges), ("unicode/utf8.first", laid_unicode_utf8_first)], narrowed := true }
def StepPartsUptoSaid : Prop := stepPartsUptoRow.holds Tryd.pinned (OpenSpec.upto stepPartsSpec)

/-- 'rootcellarlaw12.StepBack', WHERE WHAT IT READS IS OF BULK AT MOST 1048576: true; the input reads as it did. -/
def stepBackUptoRow : OpenClaim := { program := "ytboommbclbjlnaadoor", sum := "9802ab5e232a7cf652c9b0beb0ee0a816145d09783c54d10131c60f8b8f0d472", func := "rootcellar/rootcellarlaw12.StepBack", spec := "stepBack", named := ["unicode/utf8.first", "unicode/utf8.acceptRanges"], apart := false, laid := [("unicode/utf8.acceptRanges", laid_unicode_utf8_acceptRanges), ("unicode/utf8.first", laid_unicode_utf8_first)], narrowed := true }
def StepBackUptoSaid : Prop := stepBackUptoRow.holds Tryd.pinned (OpenSpec.upto stepBackSpec)

/-- 'rootcellarlaw12.StepTakes', WHERE WHAT IT READS IS OF BULK AT MOST 1048576: true; the input reads as it did. -/
def stepTakesUptoRow : OpenClaim := { program := "ytboommbclbjlnaadoor", sum := "9802ab5e232a7cf652c9b0beb0ee0a816145d09783c54d10131c60f8b8f0d472", func := "rootcellar/rootcellarlaw12.StepTakes", spec := "stepTakes", unfollowed := true, recurses := true, named := ["unicode/utf8.first", "unicode/utf8.acceptRanges"], apart := false, laid := [("unicode/utf8.acceptRanges", laid_unicode_utf8_acceptRanges), ("unicode/utf8.first", laid_unicode_utf8_first)], narrowed := true }
def StepTakesUptoSaid : Prop := stepTakesUptoRow.holds Tryd.pinned (OpenSpec.upto stepTakesSpec)

/-- 'rootcellarlaw12.StepTorn', WHERE WHAT IT READS IS OF BULK AT MOST 1048576: true; the input reads as it did. -/
def stepTornUptoRow : OpenClaim := { program := "ytboommbclbjlnaadoor", sum := "9802ab5e232a7cf652c9b0beb0ee0a816145d09783c54d10131c60f8b8f0d472", func := "rootcellar/rootcellarlaw12.StepTorn", spec := "stepTorn", unfollowed := true, recurses := true, named := ["unicode/utf8.first", "unicode/utf8.acceptRanges"], apart := false, laid := [("unicode/utf8.acceptRanges", laid_unicode_utf8_acceptRanges), ("unicode/utf8.first", laid_unicode_utf8_first)], narrowed := true }
def StepTornUptoSaid : Prop := stepTornUptoRow.holds Tryd.pinned (OpenSpec.upto stepTornSpec)

/-- 'rootcellarlaw13.JournalAdds', WHERE WHAT IT READS IS OF BULK AT MOST 1048576: true; the input reads as it did. -/
def journalAddsUptoRow : OpenClaim := { program := "ytboommbclbjlnaadoor", sum := "9802ab5e232a7cf652c9b0beb0ee0a816145d09783c54d10131c60f8b8f0d472", func := "rootcellar/rootcellarlaw13.JournalAdds", spec := "journalAdds", inPlace := ["internal/abi.NoEscape"], unfollowed := true, recurses := true, named := ["unicode/utf8.first", "unicode/utf8.acceptRanges"], apart := false, laid := [("unicode/utf8.acceptRanges", laid_unicode_utf8_acceptRanges), ("unicode/utf8.first", laid_unicode_utf8_first)], narrowed := true }
def JournalAddsUptoSaid : Prop := journalAddsUptoRow.holds Tryd.pinned (OpenSpec.upto journalAddsSpec)

/-- 'rootcellarlaw13.JournalAfter', WHERE WHAT IT READS IS OF BULK AT MOST 1048576: true; the input reads as it did. -/
def journalAfterUptoRow : OpenClaim := { program := "ytboommbclbjlnaadoor", sum := "9802ab5e232a7cf652c9b0beb0ee0a816145d09783c54d10131c60f8b8f0d472", func := "rootcellar/rootcellarlaw13.JournalAfter", spec := "journalAfter", inPlace := ["internal/abi.NoEscape"], unfollowed := true, recurses := true, named := ["unicode/utf8.first", "unicode/utf8.acceptRanges"], apart := false, laid := [("unicode/utf8.acceptRanges", laid_unicode_utf8_acceptRanges), ("unicode/utf8.first", laid_unicode_utf8_first)], narrowed := true }
def JournalAfterUptoSaid : Prop := journalAfterUptoRow.holds Tryd.pinned (OpenSpec.upto journalAfterSpec)

/-- 'rootcellarlaw13.JournalSame', WHERE WHAT IT READS IS OF BULK AT MOST 1048576: true; the input reads as it did. -/
def journalSameUptoRow : OpenClaim := { program := "ytboommbclbjlnaadoor", sum := "9802ab5e232a7cf652c9b0beb0ee0a816145d09783c54d10131c60f8b8f0d472", func := "rootcellar/rootcellarlaw13.JournalSame", spec := "journalSame", inPlace := ["internal/abi.NoEscape"], unfollowed := true, recurses := true, named := ["unicode/utf8.first", "unicode/utf8.acceptRanges"], apart := false, laid := [("unicode/utf8.acceptRanges", laid_unicode_utf8_acceptRanges), ("unicode/utf8.first", laid_unicode_utf8_first)], narrowed := true }
def JournalSameUptoSaid : Prop := journalSameUptoRow.holds Tryd.pinned (OpenSpec.upto journalSameSpec)

/-- 'rootcellarlaw13.JournalJoins', WHERE WHAT IT READS IS OF BULK AT MOST 1048576: true; the input reads as it did. -/
def journalJoinsUptoRow : OpenClaim := { program := "ytboommbclbjlnaadoor", sum := "9802ab5e232a7cf652c9b0beb0ee0a816145d09783c54d10131c60f8b8f0d472", func := "rootcellar/rootcellarlaw13.JournalJoins", spec := "journalJoins", inPlace := ["internal/abi.NoEscape"], unfollowed := true, recurses := true, named := ["unicode/utf8.first", "unicode/utf8.acceptRanges"], apart := false, laid := [("unicode/utf8.acceptRanges", laid_unicode_utf8_acceptRanges), ("unicode/utf8.first", laid_unicode_utf8_first)], narrowed := true }
def JournalJoinsUptoSaid : Prop := journalJoinsUptoRow.holds Tryd.pinned (OpenSpec.upto journalJoinsSpec)

/-- 'rootcellarlaw13.JournalOnce', WHERE WHAT IT READS IS OF BULK AT MOST 1048576: true; the input reads as it did. -/
def journalOnceUptoRow : OpenClaim := { program := "ytboommbclbjlnaadoor", sum := "9802ab5e232a7cf652c9b0beb0ee0a816145d09783c54d10131c60f8b8f0d472", func := "rootcellar/rootcellarlaw13.JournalOnce", spec := "journalOnce", inPlace := ["internal/abi.NoEscape"], unfollowed := true, recurses := true, named := ["unicode/utf8.first", "unicode/utf8.acceptRanges"], apart := false, laid := [("unicode/utf8.acceptRanges", laid_unicode_utf8_acceptRanges), ("unicode/utf8.first", laid_unicode_utf8_first)], narrowed := true }
def JournalOnceUptoSaid : Prop := journalOnceUptoRow.holds Tryd.pinned (OpenSpec.upto journalOnceSpec)

/-- 'rootcellarlaw13.JournalReads', WHERE WHAT IT READS IS OF BULK AT MOST 1048576: true; the input reads as it did. -/
def journalReadsUptoRow : OpenClaim := { program := "ytboommbclbjlnaadoor", sum := "9802ab5e232a7cf652c9b0beb0ee0a816145d09783c54d10131c60f8b8f0d472", func := "rootcellar/rootcellarlaw13.JournalReads", spec := "journalReads", inPlace := ["internal/abi.NoEscape"], unfollowed := true, recurses := true, named := ["unicode/utf8.first", "unicode/utf8.acceptRanges"], apart := false, laid := [("unicode/utf8.acceptRanges", laid_unicode_utf8_acceptRanges), ("unicode/utf8.first", laid_unicode_utf8_first)], narrowed := true }
def JournalReadsUptoSaid : Prop := journalReadsUptoRow.holds Tryd.pinned (OpenSpec.upto journalReadsSpec)

/-- 'rootcellarlaw13.JournalTorn', WHERE WHAT IT READS IS OF BULK AT MOST 1048576: true; the input reads as it did. -/
def journalTornUptoRow : OpenClaim := { program := "ytboommbclbjlnaadoor", sum := "9802ab5e232a7cf652c9b0beb0ee0a816145d09783c54d10131c60f8b8f0d472", func := "rootcellar/rootcellarlaw13.JournalTorn", spec := "journalTorn", inPlace := ["internal/abi.NoEscape"], unfollowed := true, recurses := true, named := ["unicode/utf8.first", "unicode/utf8.acceptRanges"], apart := false, laid := [("unicode/utf8.acceptRanges", laid_unicode_utf8_acceptRanges), ("unicode/utf8.first", laid_unicode_utf8_first)], narrowed := true }
def JournalTornUptoSaid : Prop := journalTornUptoRow.holds Tryd.pinned (OpenSpec.upto journalTornSpec)

end Rows
end Go.Proofs.YtboommbclbjlnaaDoor
