/-
  NARROWER THAN 'FOR EVERY INPUT', by the rows' own cells (each row's printed sentence says how): StreamPuts: laid · StreamSizes: laid · StreamApart: laid · StreamTakes: laid · StreamBack: laid · StreamFinds: laid.
  DERIVED. THE GIVEN ROWS OF THIS SEAT. 6 by the template 'for every input the law returns true; each argument reads behind the call as it read before'; 0 by the template 'total and deterministic' (their statements: YtfoniidbkbmjeaaDoorTotals.lean).
  GIVEN WITH THE SEED: the statements are not yours to turn. If you find one false, say at which input.
  Laid BY PROGRAM, IN A SANDBOX (cutbox-rows.mjs): the forced cells as the released guide's own fill.sh prints them over the translation 7f58ef84087781da… (all of the seat's roots in one cut). By AI agents, Wed Nov 11 2026. No macro, syntax, notation, axiom, sorry.
-/
import Derived.Test.YtfoniidbkbmjeaaDoorChecked
import GoSem.PinnedTables
import GoSem.Claim
import GoSem.ClaimJoined
import GoSem.ClaimMapViews
import Derived.JoinedTies
import Derived.KernelRfl
namespace Go.Proofs.YtfoniidbkbmjeaaDoor
/- THE CELL 'sum', in the pinned program and in every row, IS THE sha256 OF THE DUMP (.gsa) THAT YtfoniidbkbmjeaaDoorProg.lean LOADS. Nothing in Lean hashes anything: it is a label: what it is worth is what the hold of that sum in a sandbox is worth. -/
noncomputable def Tryd.pinned : Pinned := { name := "ytfoniidbkbmjeaadoor", sum := "7f58ef84087781daceab75cb0486d6820e534012026735be2b2e49774d7f5ab1", checked := Tryd.checked }
namespace Rows
def none {H : Type} : Left H := { results := [], args := [] }

/- WHAT THE LISTED PACKAGE-LEVEL VARIABLES READ AS WHEN THE CALL BEGINS. Each datum BY PROGRAM (the guide's laid-datum.mjs) off the statement by which the dump's own 'gosem.cut.vars' lays the variable. In a bare row this is a premise. The card (YtfoniidbkbmjeaaDoorCards.lean) ties it to the program's text. -/
def laid_unicode_utf8_acceptRanges {H : Type} : DataW H := .agg [.agg [.lit (.int .u8 128), .lit (.int .u8 191)], .agg [.lit (.int .u8 160), .lit (.int .u8 191)], .agg [.lit (.int .u8 128), .lit (.int .u8 159)], .agg [.lit (.int .u8 144), .lit (.int .u8 191)], .agg [.lit (.int .u8 128), .lit (.int .u8 143)], .agg [.lit (.int .u8 0), .lit (.int .u8 0)], .agg [.lit (.int .u8 0), .lit (.int .u8 0)], .agg [.lit (.int .u8 0), .lit (.int .u8 0)], .agg [.lit (.int .u8 0), .lit (.int .u8 0)], .agg [.lit (.int .u8 0), .lit (.int .u8 0)], .agg [.lit (.int .u8 0), .lit (.int .u8 0)], .agg [.lit (.int .u8 0), .lit (.int .u8 0)], .agg [.lit (.int .u8 0), .lit (.int .u8 0)], .agg [.lit (.int .u8 0), .lit (.int .u8 0)], .agg [.lit (.int .u8 0), .lit (.int .u8 0)], .agg [.lit (.int .u8 0), .lit (.int .u8 0)]]
/-- One of Go's own tables, pinned by name: the form's constant. -/
def laid_unicode_utf8_first : DataW Unit := Go.Pinned.utf8First

/-- 'rootcellarlaw17.StreamPuts': WHATEVER THE INPUT: true; the input reads as it did. -/
def streamPutsSpec : ChangeSpec := { name := "streamPuts", fn := fun _ => fun
  | [d] => { results := [.lit (.bool true)], args := [d] }
  | _ => none }
def streamPutsRow : OpenClaim := { program := "ytfoniidbkbmjeaadoor", sum := "7f58ef84087781daceab75cb0486d6820e534012026735be2b2e49774d7f5ab1", func := "rootcellar/rootcellarlaw17.StreamPuts", spec := "streamPuts", inPlace := ["internal/abi.NoEscape", "internal/bytealg.MakeNoZero"], unfollowed := true, recurses := true, named := ["unicode/utf8.first", "unicode/utf8.acceptRanges"], apart := false, laid := [("unicode/utf8.acceptRanges", laid_unicode_utf8_acceptRanges), ("unicode/utf8.first", laid_unicode_utf8_first)] }
def StreamPutsSaid : Prop := streamPutsRow.holds Tryd.pinned (OpenSpec.ofChange streamPutsSpec)

/-- ITS FALSE NEIGHBOUR: 'it returns false'. Refute it at one input. -/
def streamPutsWrong : ChangeSpec := { name := "streamPuts", fn := fun _ => fun
  | [d] => { results := [.lit (.bool false)], args := [d] }
  | _ => none }
def StreamPutsWrongFalsely : Prop := streamPutsRow.holds Tryd.pinned (OpenSpec.ofChange streamPutsWrong)

/-- 'rootcellarlaw17.StreamSizes': WHATEVER THE INPUT: true; the input reads as it did. -/
def streamSizesSpec : ChangeSpec := { name := "streamSizes", fn := fun _ => fun
  | [d] => { results := [.lit (.bool true)], args := [d] }
  | _ => none }
def streamSizesRow : OpenClaim := { program := "ytfoniidbkbmjeaadoor", sum := "7f58ef84087781daceab75cb0486d6820e534012026735be2b2e49774d7f5ab1", func := "rootcellar/rootcellarlaw17.StreamSizes", spec := "streamSizes", inPlace := ["internal/abi.NoEscape", "internal/bytealg.MakeNoZero"], unfollowed := true, recurses := true, named := ["unicode/utf8.first", "unicode/utf8.acceptRanges"], apart := false, laid := [("unicode/utf8.acceptRanges", laid_unicode_utf8_acceptRanges), ("unicode/utf8.first", laid_unicode_utf8_first)] }
def StreamSizesSaid : Prop := streamSizesRow.holds Tryd.pinned (OpenSpec.ofChange streamSizesSpec)

/-- ITS FALSE NEIGHBOUR: 'it returns false'. Refute it at one input. -/
def streamSizesWrong : ChangeSpec := { name := "streamSizes", fn := fun _ => fun
  | [d] => { results := [.lit (.bool false)], args := [d] }
  | _ => none }
def StreamSizesWrongFalsely : Prop := streamSizesRow.holds Tryd.pinned (OpenSpec.ofChange streamSizesWrong)

/-- 'rootcellarlaw17.StreamApart': WHATEVER THE INPUT: true; the input reads as it did. -/
def streamApartSpec : ChangeSpec := { name := "streamApart", fn := fun _ => fun
  | [d1, d2] => { results := [.lit (.bool true)], args := [d1, d2] }
  | _ => none }
def streamApartRow : OpenClaim := { program := "ytfoniidbkbmjeaadoor", sum := "7f58ef84087781daceab75cb0486d6820e534012026735be2b2e49774d7f5ab1", func := "rootcellar/rootcellarlaw17.StreamApart", spec := "streamApart", inPlace := ["internal/abi.NoEscape", "internal/bytealg.MakeNoZero"], unfollowed := true, recurses := true, named := ["unicode/utf8.first", "unicode/utf8.acceptRanges"], apart := false, laid := [("unicode/utf8.acceptRanges", laid_unicode_utf8_acceptRanges), ("unicode/utf8.first", laid_unicode_utf8_first)] }
def StreamApartSaid : Prop := streamApartRow.holds Tryd.pinned (OpenSpec.ofChange streamApartSpec)

/-- ITS FALSE NEIGHBOUR: 'it returns false'. Refute it at one input. -/
def streamApartWrong : ChangeSpec := { name := "streamApart", fn := fun _ => fun
  | [d1, d2] => { results := [.lit (.bool false)], args := [d1, d2] }
  | _ => none }
def StreamApartWrongFalsely : Prop := streamApartRow.holds Tryd.pinned (OpenSpec.ofChange streamApartWrong)

/-- 'rootcellarlaw17.StreamTakes': WHATEVER THE INPUT: true; the input reads as it did. -/
def streamTakesSpec : ChangeSpec := { name := "streamTakes", fn := fun _ => fun
  | [d1, d2] => { results := [.lit (.bool true)], args := [d1, d2] }
  | _ => none }
def streamTakesRow : OpenClaim := { program := "ytfoniidbkbmjeaadoor", sum := "7f58ef84087781daceab75cb0486d6820e534012026735be2b2e49774d7f5ab1", func := "rootcellar/rootcellarlaw17.StreamTakes", spec := "streamTakes", inPlace := ["internal/abi.NoEscape", "internal/bytealg.MakeNoZero"], unfollowed := true, recurses := true, named := ["unicode/utf8.first", "unicode/utf8.acceptRanges"], apart := false, laid := [("unicode/utf8.acceptRanges", laid_unicode_utf8_acceptRanges), ("unicode/utf8.first", laid_unicode_utf8_first)] }
def StreamTakesSaid : Prop := streamTakesRow.holds Tryd.pinned (OpenSpec.ofChange streamTakesSpec)

/-- ITS FALSE NEIGHBOUR: 'it returns false'. Refute it at one input. -/
def streamTakesWrong : ChangeSpec := { name := "streamTakes", fn := fun _ => fun
  | [d1, d2] => { results := [.lit (.bool false)], args := [d1, d2] }
  | _ => none }
def StreamTakesWrongFalsely : Prop := streamTakesRow.holds Tryd.pinned (OpenSpec.ofChange streamTakesWrong)

/-- 'rootcellarlaw17.StreamBack': WHATEVER THE INPUT: true; the input reads as it did. -/
def streamBackSpec : ChangeSpec := { name := "streamBack", fn := fun _ => fun
  | [d1, d2] => { results := [.lit (.bool true)], args := [d1, d2] }
  | _ => none }
def streamBackRow : OpenClaim := { program := "ytfoniidbkbmjeaadoor", sum := "7f58ef84087781daceab75cb0486d6820e534012026735be2b2e49774d7f5ab1", func := "rootcellar/rootcellarlaw17.StreamBack", spec := "streamBack", inPlace := ["internal/abi.NoEscape", "internal/bytealg.MakeNoZero"], unfollowed := true, recurses := true, named := ["unicode/utf8.first", "unicode/utf8.acceptRanges"], apart := false, laid := [("unicode/utf8.acceptRanges", laid_unicode_utf8_acceptRanges), ("unicode/utf8.first", laid_unicode_utf8_first)] }
def StreamBackSaid : Prop := streamBackRow.holds Tryd.pinned (OpenSpec.ofChange streamBackSpec)

/-- ITS FALSE NEIGHBOUR: 'it returns false'. Refute it at one input. -/
def streamBackWrong : ChangeSpec := { name := "streamBack", fn := fun _ => fun
  | [d1, d2] => { results := [.lit (.bool false)], args := [d1, d2] }
  | _ => none }
def StreamBackWrongFalsely : Prop := streamBackRow.holds Tryd.pinned (OpenSpec.ofChange streamBackWrong)

/-- 'rootcellarlaw17.StreamFinds': WHATEVER THE INPUT: true; the input reads as it did. -/
def streamFindsSpec : ChangeSpec := { name := "streamFinds", fn := fun _ => fun
  | [d1, d2, d3] => { results := [.lit (.bool true)], args := [d1, d2, d3] }
  | _ => none }
def streamFindsRow : OpenClaim := { program := "ytfoniidbkbmjeaadoor", sum := "7f58ef84087781daceab75cb0486d6820e534012026735be2b2e49774d7f5ab1", func := "rootcellar/rootcellarlaw17.StreamFinds", spec := "streamFinds", inPlace := ["internal/abi.NoEscape", "internal/bytealg.MakeNoZero"], unfollowed := true, recurses := true, named := ["unicode/utf8.first", "unicode/utf8.acceptRanges"], apart := false, laid := [("unicode/utf8.acceptRanges", laid_unicode_utf8_acceptRanges), ("unicode/utf8.first", laid_unicode_utf8_first)] }
def StreamFindsSaid : Prop := streamFindsRow.holds Tryd.pinned (OpenSpec.ofChange streamFindsSpec)

/-- ITS FALSE NEIGHBOUR: 'it returns false'. Refute it at one input. -/
def streamFindsWrong : ChangeSpec := { name := "streamFinds", fn := fun _ => fun
  | [d1, d2, d3] => { results := [.lit (.bool false)], args := [d1, d2, d3] }
  | _ => none }
def StreamFindsWrongFalsely : Prop := streamFindsRow.holds Tryd.pinned (OpenSpec.ofChange streamFindsWrong)

/- THE SECOND FORM. 'bulk': how many values and letters a reading holds, each counted each time it is reached (what is shared counts as often as it is met; a slice's spare places count too). A statement '..UptoSaid' is the law's where the arguments, and the package variables that the reading takes, are together of bulk at most 1048576: NARROWER than '..Said'. Prove '..Said' where nothing that the law and all that it calls make is longer than what came in: it says more and counts as full. Else prove '..UptoSaid'. A law counts once. -/
mutual
def uptoBulk {H : Type} : DataW H → Nat
  | .lit (.string bytes) => bytes.length + 1
  | .lit _ => 1
  | .nil => 1
  | .ptr d => uptoBulk d + 1
  | .slice elems spare => uptoBulkAll elems + uptoBulkAll spare + 1
  | .agg parts => uptoBulkAll parts + 1
  | .iface _ d => uptoBulk d + 1
  | .map entries => uptoBulkEntries entries + 1
  | .held _ => 1
def uptoBulkAll {H : Type} : List (DataW H) → Nat
  | [] => 0
  | d :: r => uptoBulk d + uptoBulkAll r
def uptoBulkEntries {H : Type} : List (Lit × DataW H) → Nat
  | [] => 0
  | x :: r => uptoBulkEntry x + uptoBulkEntries r
def uptoBulkEntry {H : Type} : Lit × DataW H → Nat
  | (.string bytes, d) => bytes.length + uptoBulk d + 1
  | (_, d) => uptoBulk d + 1
 end
def uptoSmall : (H : Type) → List (DataW H) → Bool := fun _ ds => decide (uptoBulkAll ds ≤ 1048576)
def OpenSpec.upto (s : _root_.Go.ChangeSpec) : _root_.Go.OpenSpec := { _root_.Go.OpenSpec.ofChange s with cond := some uptoSmall }

/-- 'rootcellarlaw17.StreamPuts', WHERE WHAT IT READS IS OF BULK AT MOST 1048576: true; the input reads as it did. -/
def streamPutsUptoRow : OpenClaim := { program := "ytfoniidbkbmjeaadoor", sum := "7f58ef84087781daceab75cb0486d6820e534012026735be2b2e49774d7f5ab1", func := "rootcellar/rootcellarlaw17.StreamPuts", spec := "streamPuts", inPlace := ["internal/abi.NoEscape", "internal/bytealg.MakeNoZero"], unfollowed := true, recurses := true, named := ["unicode/utf8.first", "unicode/utf8.acceptRanges"], apart := false, laid := [("unicode/utf8.acceptRanges", laid_unicode_utf8_acceptRanges), ("unicode/utf8.first", laid_unicode_utf8_first)], narrowed := true }
def StreamPutsUptoSaid : Prop := streamPutsUptoRow.holds Tryd.pinned (OpenSpec.upto streamPutsSpec)

/-- 'rootcellarlaw17.StreamSizes', WHERE WHAT IT READS IS OF BULK AT MOST 1048576: true; the input reads as it did. -/
def streamSizesUptoRow : OpenClaim := { program := "ytfoniidbkbmjeaadoor", sum := "7f58ef84087781daceab75cb0486d6820e534012026735be2b2e49774d7f5ab1", func := "rootcellar/rootcellarlaw17.StreamSizes", spec := "streamSizes", inPlace := ["internal/abi.NoEscape", "internal/bytealg.MakeNoZero"], unfollowed := true, recurses := true, named := ["unicode/utf8.first", "unicode/utf8.acceptRanges"], apart := false, laid := [("unicode/utf8.acceptRanges", laid_unicode_utf8_acceptRanges), ("unicode/utf8.first", laid_unicode_utf8_first)], narrowed := true }
def StreamSizesUptoSaid : Prop := streamSizesUptoRow.holds Tryd.pinned (OpenSpec.upto streamSizesSpec)

/-- 'rootcellarlaw17.StreamApart', WHERE WHAT IT READS IS OF BULK AT MOST 1048576: true; the input reads as it did. -/
def streamApartUptoRow : OpenClaim := { program := "ytfoniidbkbmjeaadoor", sum := "7f58ef84087781daceab75cb0486d6820e534012026735be2b2e49774d7f5ab1", func := "rootcellar/rootcellarlaw17.StreamApart", spec := "streamApart", inPlace := ["internal/abi.NoEscape", "internal/bytealg.MakeNoZero"], unfollowed := true, recurses := true, named := ["unicode/utf8.first", "unicode/utf8.acceptRanges"], apart := false, laid := [("unicode/utf8.acceptRanges", laid_unicode_utf8_acceptRanges), ("unicode/utf8.first", laid_unicode_utf8_first)], narrowed := true }
def StreamApartUptoSaid : Prop := streamApartUptoRow.holds Tryd.pinned (OpenSpec.upto streamApartSpec)

/-- 'rootcellarlaw17.StreamTakes', WHERE WHAT IT READS IS OF BULK AT MOST 1048576: true; the input reads as it did. -/
def streamTakesUptoRow : OpenClaim := { program := "ytfoniidbkbmjeaadoor", sum := "7f58ef84087781daceab75cb0486d6820e534012026735be2b2e49774d7f5ab1", func := "rootcellar/rootcellarlaw17.StreamTakes", spec := "streamTakes", inPlace := ["internal/abi.NoEscape", "internal/bytealg.MakeNoZero"], unfollowed := true, recurses := true, named := ["unicode/utf8.first", "unicode/utf8.acceptRanges"], apart := false, laid := [("unicode/utf8.acceptRanges", laid_unicode_utf8_acceptRanges), ("unicode/utf8.first", laid_unicode_utf8_first)], narrowed := true }
def StreamTakesUptoSaid : Prop := streamTakesUptoRow.holds Tryd.pinned (OpenSpec.upto streamTakesSpec)

/-- 'rootcellarlaw17.StreamBack', WHERE WHAT IT READS IS OF BULK AT MOST 1048576: true; the input reads as it did. -/
def streamBackUptoRow : OpenClaim := { program := "ytfoniidbkbmjeaadoor", sum := "7f58ef84087781daceab75cb0486d6820e534012026735be2b2e49774d7f5ab1", func := "rootcellar/rootcellarlaw17.StreamBack", spec := "streamBack", inPlace := ["internal/abi.NoEscape", "internal/bytealg.MakeNoZero"], unfollowed := true, recurses := true, named := ["unicode/utf8.first", "unicode/utf8.acceptRanges"], apart := false, laid := [("unicode/utf8.acceptRanges", laid_unicode_utf8_acceptRanges), ("unicode/utf8.first", laid_unicode_utf8_first)], narrowed := true }
def StreamBackUptoSaid : Prop := streamBackUptoRow.holds Tryd.pinned (OpenSpec.upto streamBackSpec)

/-- 'rootcellarlaw17.StreamFinds', WHERE WHAT IT READS IS OF BULK AT MOST 1048576: true; the input reads as it did. -/
def streamFindsUptoRow : OpenClaim := { program := "ytfoniidbkbmjeaadoor", sum := "7f58ef84087781daceab75cb0486d6820e534012026735be2b2e49774d7f5ab1", func := "rootcellar/rootcellarlaw17.StreamFinds", spec := "streamFinds", inPlace := ["internal/abi.NoEscape", "internal/bytealg.MakeNoZero"], unfollowed := true, recurses := true, named := ["unicode/utf8.first", "unicode/utf8.acceptRanges"], apart := false, laid := [("unicode/utf8.acceptRanges", laid_unicode_utf8_acceptRanges), ("unicode/utf8.first", laid_unicode_utf8_first)], narrowed := true }
def StreamFindsUptoSaid : Prop := streamFindsUptoRow.holds Tryd.pinned (OpenSpec.upto streamFindsSpec)

end Rows
end Go.Proofs.YtfoniidbkbmjeaaDoor
