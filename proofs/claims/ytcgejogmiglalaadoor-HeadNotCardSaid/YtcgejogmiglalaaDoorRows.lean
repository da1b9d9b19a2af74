/-
  NARROWER THAN 'FOR EVERY INPUT', by the rows' own cells (each row's printed sentence says how): HeadPuts: laid · HeadTakes: laid · HeadBack: laid · HeadEither: laid · HeadApart: laid · HeadNot: laid.
  DERIVED. THE GIVEN ROWS OF THIS SEAT. 6 by the template 'for every input the law returns true; each argument reads behind the call as it read before'; 0 by the template 'total and deterministic' (their statements: YtcgejogmiglalaaDoorTotals.lean).
  GIVEN WITH THE SEED: the statements are not yours to turn. If you find one false, say at which input.
  Laid BY PROGRAM, IN A SANDBOX (cutbox-rows.mjs): the forced cells as the released guide's own fill.sh prints them over the translation e240a13fd74cab90… (all of the seat's roots in one cut). By AI agents, Wed Nov 11 2026. No macro, syntax, notation, axiom, sorry.
-/
import Derived.Test.YtcgejogmiglalaaDoorChecked
import GoSem.PinnedTables
import GoSem.Claim
import GoSem.ClaimJoined
import GoSem.ClaimMapViews
import Derived.JoinedTies
import Derived.KernelRfl
namespace Go.Proofs.YtcgejogmiglalaaDoor
/- THE CELL 'sum', in the pinned program and in every row, IS THE sha256 OF THE DUMP (.gsa) THAT YtcgejogmiglalaaDoorProg.lean LOADS. Nothing in Lean hashes anything: it is a label: what it is worth is what the hold of that sum in a sandbox is worth. -/
noncomputable def Tryd.pinned : Pinned := { name := "ytcgejogmiglalaadoor", sum := "e240a13fd74cab908805fa6a35e89d8657d4b352dd90711687a121d3ebfa031d", checked := Tryd.checked }
namespace Rows
def none {H : Type} : Left H := { results := [], args := [] }

/- WHAT THE LISTED PACKAGE-LEVEL VARIABLES READ AS WHEN THE CALL BEGINS. Each datum BY PROGRAM (the guide's laid-datum.mjs) off the statement by which the dump's own 'gosem.cut.vars' lays the variable. In a bare row this is a premise. The card (YtcgejogmiglalaaDoorCards.lean) ties it to the program's text. -/
def laid_unicode_utf8_acceptRanges {H : Type} : DataW H := .agg [.agg [.lit (.int .u8 128), .lit (.int .u8 191)], .agg [.lit (.int .u8 160), .lit (.int .u8 191)], .agg [.lit (.int .u8 128), .lit (.int .u8 159)], .agg [.lit (.int .u8 144), .lit (.int .u8 191)], .agg [.lit (.int .u8 128), .lit (.int .u8 143)], .agg [.lit (.int .u8 0), .lit (.int .u8 0)], .agg [.lit (.int .u8 0), .lit (.int .u8 0)], .agg [.lit (.int .u8 0), .lit (.int .u8 0)], .agg [.lit (.int .u8 0), .lit (.int .u8 0)], .agg [.lit (.int .u8 0), .lit (.int .u8 0)], .agg [.lit (.int .u8 0), .lit (.int .u8 0)], .agg [.lit (.int .u8 0), .lit (.int .u8 0)], .agg [.lit (.int .u8 0), .lit (.int .u8 0)], .agg [.lit (.int .u8 0), .lit (.int .u8 0)], .agg [.lit (.int .u8 0), .lit (.int .u8 0)], .agg [.lit (.int .u8 0), .lit (.int .u8 0)]]
/-- One of Go's own tables, pinned by name: the form's constant. -/
def laid_unicode_utf8_first : DataW Unit := Go.Pinned.utf8First

/-- 'rootcellarlaw6.HeadPuts': WHATEVER THE INPUT: true; the input reads as it did. -/
def headPutsSpec : ChangeSpec := { name := "headPuts", fn := fun _ => fun
  | [d] => { results := [.lit (.bool true)], args := [d] }
  | _ => none }
def headPutsRow : OpenClaim := { program := "ytcgejogmiglalaadoor", sum := "e240a13fd74cab908805fa6a35e89d8657d4b352dd90711687a121d3ebfa031d", func := "rootcellar/rootcellarlaw6.HeadPuts", spec := "headPuts", inPlace := ["internal/abi.NoEscape", "internal/bytealg.MakeNoZero", "internal/bytealg.IndexByteString", "internal/bytealg.IndexString"], unfollowed := true, recurses := true, named := ["unicode/utf8.first", "unicode/utf8.acceptRanges", "internal/bytealg.MaxLen"], apart := false, laid := [("unicode/utf8.acceptRanges", laid_unicode_utf8_acceptRanges), ("unicode/utf8.first", laid_unicode_utf8_first)] }
def HeadPutsSaid : Prop := headPutsRow.holds Tryd.pinned (OpenSpec.ofChange headPutsSpec)

/-- ITS FALSE NEIGHBOUR: 'it returns false'. Refute it at one input. -/
def headPutsWrong : ChangeSpec := { name := "headPuts", fn := fun _ => fun
  | [d] => { results := [.lit (.bool false)], args := [d] }
  | _ => none }
def HeadPutsWrongFalsely : Prop := headPutsRow.holds Tryd.pinned (OpenSpec.ofChange headPutsWrong)

/-- 'rootcellarlaw6.HeadTakes': WHATEVER THE INPUT: true; the input reads as it did. -/
def headTakesSpec : ChangeSpec := { name := "headTakes", fn := fun _ => fun
  | [d1, d2] => { results := [.lit (.bool true)], args := [d1, d2] }
  | _ => none }
def headTakesRow : OpenClaim := { program := "ytcgejogmiglalaadoor", sum := "e240a13fd74cab908805fa6a35e89d8657d4b352dd90711687a121d3ebfa031d", func := "rootcellar/rootcellarlaw6.HeadTakes", spec := "headTakes", inPlace := ["internal/abi.NoEscape", "internal/bytealg.MakeNoZero", "internal/bytealg.IndexByteString", "internal/bytealg.IndexString"], unfollowed := true, recurses := true, named := ["unicode/utf8.first", "unicode/utf8.acceptRanges", "internal/bytealg.MaxLen"], apart := false, laid := [("unicode/utf8.acceptRanges", laid_unicode_utf8_acceptRanges), ("unicode/utf8.first", laid_unicode_utf8_first)] }
def HeadTakesSaid : Prop := headTakesRow.holds Tryd.pinned (OpenSpec.ofChange headTakesSpec)

/-- ITS FALSE NEIGHBOUR: 'it returns false'. Refute it at one input. -/
def headTakesWrong : ChangeSpec := { name := "headTakes", fn := fun _ => fun
  | [d1, d2] => { results := [.lit (.bool false)], args := [d1, d2] }
  | _ => none }
def HeadTakesWrongFalsely : Prop := headTakesRow.holds Tryd.pinned (OpenSpec.ofChange headTakesWrong)

/-- 'rootcellarlaw6.HeadBack': WHATEVER THE INPUT: true; the input reads as it did. -/
def headBackSpec : ChangeSpec := { name := "headBack", fn := fun _ => fun
  | [d1, d2] => { results := [.lit (.bool true)], args := [d1, d2] }
  | _ => none }
def headBackRow : OpenClaim := { program := "ytcgejogmiglalaadoor", sum := "e240a13fd74cab908805fa6a35e89d8657d4b352dd90711687a121d3ebfa031d", func := "rootcellar/rootcellarlaw6.HeadBack", spec := "headBack", inPlace := ["internal/abi.NoEscape", "internal/bytealg.MakeNoZero", "internal/bytealg.IndexByteString", "internal/bytealg.IndexString"], unfollowed := true, recurses := true, named := ["unicode/utf8.first", "unicode/utf8.acceptRanges", "internal/bytealg.MaxLen"], apart := false, laid := [("unicode/utf8.acceptRanges", laid_unicode_utf8_acceptRanges), ("unicode/utf8.first", laid_unicode_utf8_first)] }
def HeadBackSaid : Prop := headBackRow.holds Tryd.pinned (OpenSpec.ofChange headBackSpec)

/-- ITS FALSE NEIGHBOUR: 'it returns false'. Refute it at one input. -/
def headBackWrong : ChangeSpec := { name := "headBack", fn := fun _ => fun
  | [d1, d2] => { results := [.lit (.bool false)], args := [d1, d2] }
  | _ => none }
def HeadBackWrongFalsely : Prop := headBackRow.holds Tryd.pinned (OpenSpec.ofChange headBackWrong)

/-- 'rootcellarlaw6.HeadEither': WHATEVER THE INPUT: true; the input reads as it did. -/
def headEitherSpec : ChangeSpec := { name := "headEither", fn := fun _ => fun
  | [d1, d2, d3, d4] => { results := [.lit (.bool true)], args := [d1, d2, d3, d4] }
  | _ => none }
def headEitherRow : OpenClaim := { program := "ytcgejogmiglalaadoor", sum := "e240a13fd74cab908805fa6a35e89d8657d4b352dd90711687a121d3ebfa031d", func := "rootcellar/rootcellarlaw6.HeadEither", spec := "headEither", inPlace := ["internal/abi.NoEscape", "internal/bytealg.MakeNoZero", "internal/bytealg.IndexByteString", "internal/bytealg.IndexString"], unfollowed := true, recurses := true, named := ["unicode/utf8.first", "unicode/utf8.acceptRanges", "internal/bytealg.MaxLen"], apart := false, laid := [("unicode/utf8.acceptRanges", laid_unicode_utf8_acceptRanges), ("unicode/utf8.first", laid_unicode_utf8_first)] }
def HeadEitherSaid : Prop := headEitherRow.holds Tryd.pinned (OpenSpec.ofChange headEitherSpec)

/-- ITS FALSE NEIGHBOUR: 'it returns false'. Refute it at one input. -/
def headEitherWrong : ChangeSpec := { name := "headEither", fn := fun _ => fun
  | [d1, d2, d3, d4] => { results := [.lit (.bool false)], args := [d1, d2, d3, d4] }
  | _ => none }
def HeadEitherWrongFalsely : Prop := headEitherRow.holds Tryd.pinned (OpenSpec.ofChange headEitherWrong)

/-- 'rootcellarlaw6.HeadApart': WHATEVER THE INPUT: true; the input reads as it did. -/
def headApartSpec : ChangeSpec := { name := "headApart", fn := fun _ => fun
  | [d1, d2] => { results := [.lit (.bool true)], args := [d1, d2] }
  | _ => none }
def headApartRow : OpenClaim := { program := "ytcgejogmiglalaadoor", sum := "e240a13fd74cab908805fa6a35e89d8657d4b352dd90711687a121d3ebfa031d", func := "rootcellar/rootcellarlaw6.HeadApart", spec := "headApart", inPlace := ["internal/abi.NoEscape", "internal/bytealg.MakeNoZero", "internal/bytealg.IndexByteString", "internal/bytealg.IndexString"], unfollowed := true, recurses := true, named := ["unicode/utf8.first", "unicode/utf8.acceptRanges", "internal/bytealg.MaxLen"], apart := false, laid := [("unicode/utf8.acceptRanges", laid_unicode_utf8_acceptRanges), ("unicode/utf8.first", laid_unicode_utf8_first)] }
def HeadApartSaid : Prop := headApartRow.holds Tryd.pinned (OpenSpec.ofChange headApartSpec)

/-- ITS FALSE NEIGHBOUR: 'it returns false'. Refute it at one input. -/
def headApartWrong : ChangeSpec := { name := "headApart", fn := fun _ => fun
  | [d1, d2] => { results := [.lit (.bool false)], args := [d1, d2] }
  | _ => none }
def HeadApartWrongFalsely : Prop := headApartRow.holds Tryd.pinned (OpenSpec.ofChange headApartWrong)

/-- 'rootcellarlaw6.HeadNot': WHATEVER THE INPUT: true; the input reads as it did. -/
def headNotSpec : ChangeSpec := { name := "headNot", fn := fun _ => fun
  | [d1, d2, d3] => { results := [.lit (.bool true)], args := [d1, d2, d3] }
  | _ => none }
def headNotRow : OpenClaim := { program := "ytcgejogmiglalaadoor", sum := "e240a13fd74cab908805fa6a35e89d8657d4b352dd90711687a121d3ebfa031d", func := "rootcellar/rootcellarlaw6.HeadNot", spec := "headNot", inPlace := ["internal/abi.NoEscape", "internal/bytealg.MakeNoZero", "internal/bytealg.IndexByteString", "internal/bytealg.IndexString"], unfollowed := true, recurses := true, named := ["unicode/utf8.first", "unicode/utf8.acceptRanges", "internal/bytealg.MaxLen"], apart := false, laid := [("unicode/utf8.acceptRanges", laid_unicode_utf8_acceptRanges), ("unicode/utf8.first", laid_unicode_utf8_first)] }
def HeadNotSaid : Prop := headNotRow.holds Tryd.pinned (OpenSpec.ofChange headNotSpec)

/-- ITS FALSE NEIGHBOUR: 'it returns false'. Refute it at one input. -/
def headNotWrong : ChangeSpec := { name := "headNot", fn := fun _ => fun
  | [d1, d2, d3] => { results := [.lit (.bool false)], args := [d1, d2, d3] }
  | _ => none }
def HeadNotWrongFalsely : Prop := headNotRow.holds Tryd.pinned (OpenSpec.ofChange headNotWrong)

/- THE SECOND FORM. 'bulk': how many values and letters a reading holds, each counted each time it is reached (what is shared counts as often as it is met; a slice's spare places count too). A statement '..UptoSaid' is the law's where the arguments, and the package variables that the reading takes, are together of bulk at most 1048576: NARROWER than '..Said'. Prove '..Said' where nothing that the law and all that it calls make is longer than what came in: it says more and counts as full. Else prove '..UptoSaid'. A law counts once. -/
mutual
def uptoBulk {H : Type} : DataW H → Nat
  | .lit (.string bytes) => bytes.length + 1
  | .lit _ => 1
  | .nil => 1
  | .ptr d => uptoBulk d + 1
  | .slice elems spare => uptoBulkAll elems + uptoBulkAll spare + 1
  | .agg parts => uptoBulkAll parts + 1
  | .iface _ d => uptoBulk d + 1
  | .map entries => uptoBulkEntries entries + 1
  | .held _ => 1
def uptoBulkAll {H : Type} : List (DataW H) → Nat
  | [] => 0
  | d :: r => uptoBulk d + uptoBulkAll r
def uptoBulkEntries {H : Type} : List (Lit × DataW H) → Nat
  | [] => 0
  | x :: r => uptoBulkEntry x + uptoBulkEntries r
def uptoBulkEntry {H : Type} : Lit × DataW H → Nat
  | (.string bytes, d) => bytes.length + uptoBulk d + 1
  | (_, d) => uptoBulk d + 1
 end
def uptoSmall : (H : Type) → List (DataW H) → Bool := fun _ ds => decide (uptoBulkAll ds ≤ 1048576)
def OpenSpec.upto (s : _root_.Go.ChangeSpec) : _root_.Go.OpenSpec := { _root_.Go.OpenSpec.ofChange s with cond := some uptoSmall }

/-- 'rootcellarlaw6.HeadPuts', WHERE WHAT IT READS IS OF BULK AT MOST 1048576: true; the input reads as it did. -/
def headPutsUptoRow : OpenClaim := { program := "ytcgejogmiglalaadoor", sum := "e240a13fd74cab908805fa6a35e89d8657d4b352dd90711687a121d3ebfa031d", func := "rootcellar/rootcellarlaw6.HeadPuts", spec := "headPuts", inPlace := ["internal/abi.NoEscape", "internal/bytealg.MakeNoZero", "internal/bytealg.IndexByteString", "internal/bytealg.IndexString"], unfollowed := true, recurses := true, named := ["unicode/utf8.first", "unicode/utf8.acceptRanges", "internal/bytealg.MaxLen"], apart := false, laid := [("unicode/utf8.acceptRanges", laid_unicode_utf8_acceptRanges), ("unicode/utf8.first", laid_unicode_utf8_first)], narrowed := true }
def HeadPutsUptoSaid : Prop := headPutsUptoRow.holds Tryd.pinned (OpenSpec.upto headPutsSpec)

/-- 'rootcellarlaw6.HeadTakes', WHERE WHAT IT READS IS OF BULK AT MOST 1048576: true; the input reads as it did. -/
def headTakesUptoRow : OpenClaim := { program := "ytcgejogmiglalaadoor", sum := "e240a13fd74cab908805fa6a35e89d8657d4b352dd90711687a121d3ebfa031d", func := "rootcellar/rootcellarlaw6.HeadTakes", spec := "headTakes", inPlace := ["internal/abi.NoEscape", "internal/bytealg.MakeNoZero", "internal/bytealg.IndexByteString", "internal/bytealg.IndexString"], unfollowed := true, recurses := true, named := ["unicode/utf8.first", "unicode/utf8.acceptRanges", "internal/bytealg.MaxLen"], apart := false, laid := [("unicode/utf8.acceptRanges", laid_unicode_utf8_acceptRanges), ("unicode/utf8.first", laid_unicode_utf8_first)], narrowed := true }
def HeadTakesUptoSaid : Prop := headTakesUptoRow.holds Tryd.pinned (OpenSpec.upto headTakesSpec)

/-- 'rootcellarlaw6.HeadBack', WHERE WHAT IT READS IS OF BULK AT MOST 1048576: true; the input reads as it did. -/
def headBackUptoRow : OpenClaim := { program := "ytcgejogmiglalaadoor", sum := "e240a13fd74cab908805fa6a35e89d8657d4b352dd90711687a121d3ebfa031d", func := "rootcellar/rootcellarlaw6.HeadBack", spec := "headBack", inPlace := ["internal/abi.NoEscape", "internal/bytealg.MakeNoZero", "internal/bytealg.IndexByteString", "internal/bytealg.IndexString"], unfollowed := true, recurses := true, named := ["unicode/utf8.first", "unicode/utf8.acceptRanges", "internal/bytealg.MaxLen"], apart := false, laid := [("unicode/utf8.acceptRanges", laid_unicode_utf8_acceptRanges), ("unicode/utf8.first", laid_unicode_utf8_first)], narrowed := true }
def HeadBackUptoSaid : Prop := headBackUptoRow.holds Tryd.pinned (OpenSpec.upto headBackSpec)

/-- 'rootcellarlaw6.HeadEither', WHERE WHAT IT READS IS OF BULK AT MOST 1048576: true; the input reads as it did. -/
def headEitherUptoRow : OpenClaim := { program := "ytcgejogmiglalaadoor", sum := "e240a13fd74cab908805fa6a35e89d8657d4b352dd90711687a121d3ebfa031d", func := "rootcellar/rootcellarlaw6.HeadEither", spec := "headEither", inPlace := ["internal/abi.NoEscape", "internal/bytealg.MakeNoZero", "internal/bytealg.IndexByteString", "internal/bytealg.IndexString"], unfollowed := true, recurses := true, named := ["unicode/utf8.first", "unicode/utf8.acceptRanges", "internal/bytealg.MaxLen"], apart := false, laid := [("unicode/utf8.acceptRanges", laid_unicode_utf8_acceptRanges), ("unicode/utf8.first", laid_unicode_utf8_first)], narrowed := true }
def HeadEitherUptoSaid : Prop := headEitherUptoRow.holds Tryd.pinned (OpenSpec.upto headEitherSpec)

/-- 'rootcellarlaw6.HeadApart', WHERE WHAT IT READS IS OF BULK AT MOST 1048576: true; the input reads as it did. -/
def headApartUptoRow : OpenClaim := { program := "ytcgejogmiglalaadoor", sum := "e240a13fd74cab908805fa6a35e89d8657d4b352dd90711687a121d3ebfa031d", func := "rootcellar/rootcellarlaw6.HeadApart", spec := "headApart", inPlace := ["internal/abi.NoEscape", "internal/bytealg.MakeNoZero", "internal/bytealg.IndexByteString", "internal/bytealg.IndexString"], unfollowed := true, recurses := true, named := ["unicode/utf8.first", "unicode/utf8.acceptRanges", "internal/bytealg.MaxLen"], apart := false, laid := [("unicode/utf8.acceptRanges", laid_unicode_utf8_acceptRanges), ("unicode/utf8.first", laid_unicode_utf8_first)], narrowed := true }
def HeadApartUptoSaid : Prop := headApartUptoRow.holds Tryd.pinned (OpenSpec.upto headApartSpec)

/-- 'rootcellarlaw6.HeadNot', WHERE WHAT IT READS IS OF BULK AT MOST 1048576: true; the input reads as it did. -/
def headNotUptoRow : OpenClaim := { program := "ytcgejogmiglalaadoor", sum := "e240a13fd74cab908805fa6a35e89d8657d4b352dd90711687a121d3ebfa031d", func := "rootcellar/rootcellarlaw6.HeadNot", spec := "headNot", inPlace := ["internal/abi.NoEscape", "internal/bytealg.MakeNoZero", "internal/bytealg.IndexByteString", "internal/bytealg.IndexString"], unfollowed := true, recurses := true, named := ["unicode/utf8.first", "unicode/utf8.acceptRanges", "internal/bytealg.MaxLen"], apart := false, laid := [("unicode/utf8.acceptRanges", laid_unicode_utf8_acceptRanges), ("unicode/utf8.first", laid_unicode_utf8_first)], narrowed := true }
def HeadNotUptoSaid : Prop := headNotUptoRow.holds Tryd.pinned (OpenSpec.upto headNotSpec)

end Rows
end Go.Proofs.YtcgejogmiglalaaDoor
