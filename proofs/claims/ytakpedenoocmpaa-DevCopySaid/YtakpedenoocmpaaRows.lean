/-
  No cell of these rows narrows 'for every input' (looked for: loops, veiled, ifaces, maps, wideKeys, modest, calm, conditions, laid).
  DERIVED. THE GIVEN ROWS OF THIS SEAT. 5 by the template 'for every input the law returns true; each argument reads behind the call as it read before'; 0 by the template 'total and deterministic' (their statements: YtakpedenoocmpaaTotals.lean).
  GIVEN WITH THE SEED: the statements are not yours to turn. If you find one false, say at which input.
  Laid BY PROGRAM, IN A SANDBOX (cutbox-rows.mjs): the forced cells as the released guide's own fill.sh prints them over the translation 385b8110b84d2651… (all of the seat's roots in one cut). By AI agents, Wed Nov 11 2026. No macro, syntax, notation, axiom, sorry.
-/
import Derived.Test.YtakpedenoocmpaaChecked
import GoSem.Claim
import GoSem.ClaimJoined
import GoSem.ClaimMapViews
import Derived.JoinedTies
import Derived.KernelRfl
namespace Go.Proofs.Ytakpedenoocmpaa
/- THE CELL 'sum', in the pinned program and in every row, IS THE sha256 OF THE DUMP (.gsa) THAT YtakpedenoocmpaaProg.lean LOADS. Nothing in Lean hashes anything: it is a label: what it is worth is what the hold of that sum in a sandbox is worth. -/
noncomputable def Try.pinned : Pinned := { name := "ytakpedenoocmpaa", sum := "385b8110b84d265108bf553b0f9faffc93a321d759ef0f3e275879e004780d02", checked := Try.checked }
namespace Rows
def none {H : Type} : Left H := { results := [], args := [] }

/-- 'rootcellarlaw4.DevLast': WHATEVER THE INPUT: true; the input reads as it did. -/
def devLastSpec : ChangeSpec := { name := "devLast", fn := fun _ => fun
  | [d1, d2] => { results := [.lit (.bool true)], args := [d1, d2] }
  | _ => none }
def devLastRow : OpenClaim := { program := "ytakpedenoocmpaa", sum := "385b8110b84d265108bf553b0f9faffc93a321d759ef0f3e275879e004780d02", func := "rootcellar/rootcellarlaw4.DevLast", spec := "devLast", inPlace := ["internal/abi.NoEscape", "internal/bytealg.MakeNoZero"], apart := false }
def DevLastSaid : Prop := devLastRow.holds Try.pinned (OpenSpec.ofChange devLastSpec)

/-- ITS FALSE NEIGHBOUR: 'it returns false'. Refute it at one input. -/
def devLastWrong : ChangeSpec := { name := "devLast", fn := fun _ => fun
  | [d1, d2] => { results := [.lit (.bool false)], args := [d1, d2] }
  | _ => none }
def DevLastWrongFalsely : Prop := devLastRow.holds Try.pinned (OpenSpec.ofChange devLastWrong)

/-- 'rootcellarlaw4.DevOrder': WHATEVER THE INPUT: true; the input reads as it did. -/
def devOrderSpec : ChangeSpec := { name := "devOrder", fn := fun _ => fun
  | [d1, d2] => { results := [.lit (.bool true)], args := [d1, d2] }
  | _ => none }
def devOrderRow : OpenClaim := { program := "ytakpedenoocmpaa", sum := "385b8110b84d265108bf553b0f9faffc93a321d759ef0f3e275879e004780d02", func := "rootcellar/rootcellarlaw4.DevOrder", spec := "devOrder", inPlace := ["internal/abi.NoEscape", "internal/bytealg.MakeNoZero"], apart := false }
def DevOrderSaid : Prop := devOrderRow.holds Try.pinned (OpenSpec.ofChange devOrderSpec)

/-- ITS FALSE NEIGHBOUR: 'it returns false'. Refute it at one input. -/
def devOrderWrong : ChangeSpec := { name := "devOrder", fn := fun _ => fun
  | [d1, d2] => { results := [.lit (.bool false)], args := [d1, d2] }
  | _ => none }
def DevOrderWrongFalsely : Prop := devOrderRow.holds Try.pinned (OpenSpec.ofChange devOrderWrong)

/-- 'rootcellarlaw4.DevArmed': WHATEVER THE INPUT: true; the input reads as it did. -/
def devArmedSpec : ChangeSpec := { name := "devArmed", fn := fun _ => fun
  | [d1, d2] => { results := [.lit (.bool true)], args := [d1, d2] }
  | _ => none }
def devArmedRow : OpenClaim := { program := "ytakpedenoocmpaa", sum := "385b8110b84d265108bf553b0f9faffc93a321d759ef0f3e275879e004780d02", func := "rootcellar/rootcellarlaw4.DevArmed", spec := "devArmed", inPlace := ["internal/abi.NoEscape", "internal/bytealg.MakeNoZero"], apart := false }
def DevArmedSaid : Prop := devArmedRow.holds Try.pinned (OpenSpec.ofChange devArmedSpec)

/-- ITS FALSE NEIGHBOUR: 'it returns false'. Refute it at one input. -/
def devArmedWrong : ChangeSpec := { name := "devArmed", fn := fun _ => fun
  | [d1, d2] => { results := [.lit (.bool false)], args := [d1, d2] }
  | _ => none }
def DevArmedWrongFalsely : Prop := devArmedRow.holds Try.pinned (OpenSpec.ofChange devArmedWrong)

/-- 'rootcellarlaw4.DevEither': WHATEVER THE INPUT: true; the input reads as it did. -/
def devEitherSpec : ChangeSpec := { name := "devEither", fn := fun _ => fun
  | [d1, d2, d3] => { results := [.lit (.bool true)], args := [d1, d2, d3] }
  | _ => none }
def devEitherRow : OpenClaim := { program := "ytakpedenoocmpaa", sum := "385b8110b84d265108bf553b0f9faffc93a321d759ef0f3e275879e004780d02", func := "rootcellar/rootcellarlaw4.DevEither", spec := "devEither", inPlace := ["internal/abi.NoEscape", "internal/bytealg.MakeNoZero"], apart := false }
def DevEitherSaid : Prop := devEitherRow.holds Try.pinned (OpenSpec.ofChange devEitherSpec)

/-- ITS FALSE NEIGHBOUR: 'it returns false'. Refute it at one input. -/
def devEitherWrong : ChangeSpec := { name := "devEither", fn := fun _ => fun
  | [d1, d2, d3] => { results := [.lit (.bool false)], args := [d1, d2, d3] }
  | _ => none }
def DevEitherWrongFalsely : Prop := devEitherRow.holds Try.pinned (OpenSpec.ofChange devEitherWrong)

/-- 'rootcellarlaw4.DevCopy': WHATEVER THE INPUT: true; the input reads as it did. -/
def devCopySpec : ChangeSpec := { name := "devCopy", fn := fun _ => fun
  | [d1, d2] => { results := [.lit (.bool true)], args := [d1, d2] }
  | _ => none }
def devCopyRow : OpenClaim := { program := "ytakpedenoocmpaa", sum := "385b8110b84d265108bf553b0f9faffc93a321d759ef0f3e275879e004780d02", func := "rootcellar/rootcellarlaw4.DevCopy", spec := "devCopy", inPlace := ["internal/abi.NoEscape", "internal/bytealg.MakeNoZero"], apart := false }
def DevCopySaid : Prop := devCopyRow.holds Try.pinned (OpenSpec.ofChange devCopySpec)

/-- ITS FALSE NEIGHBOUR: 'it returns false'. Refute it at one input. -/
def devCopyWrong : ChangeSpec := { name := "devCopy", fn := fun _ => fun
  | [d1, d2] => { results := [.lit (.bool false)], args := [d1, d2] }
  | _ => none }
def DevCopyWrongFalsely : Prop := devCopyRow.holds Try.pinned (OpenSpec.ofChange devCopyWrong)

/- THE SECOND FORM. 'bulk': how many values and letters a reading holds, each counted each time it is reached (what is shared counts as often as it is met; a slice's spare places count too). A statement '..UptoSaid' is the law's where the arguments, and the package variables that the reading takes, are together of bulk at most 1048576: NARROWER than '..Said'. Prove '..Said' where nothing that the law and all that it calls make is longer than what came in: it says more and counts as full. Else prove '..UptoSaid'. A law counts once. -/
mutual
def uptoBulk {H : Type} : DataW H → Nat
  | .lit (.string bytes) => bytes.length + 1
  | .lit _ => 1
  | .nil => 1
  | .ptr d => uptoBulk d + 1
  | .slice elems spare => uptoBulkAll elems + uptoBulkAll spare + 1
  | .agg parts => uptoBulkAll parts + 1
  | .iface _ d => uptoBulk d + 1
  | .map entries => uptoBulkEntries entries + 1
  | .held _ => 1
def uptoBulkAll {H : Type} : List (DataW H) → Nat
  | [] => 0
  | d :: r => uptoBulk d + uptoBulkAll r
def uptoBulkEntries {H : Type} : List (Lit × DataW H) → Nat
  | [] => 0
  | x :: r => uptoBulkEntry x + uptoBulkEntries r
def uptoBulkEntry {H : Type} : Lit × DataW H → Nat
  | (.string bytes, d) => bytes.length + uptoBulk d + 1
  | (_, d) => uptoBulk d + 1
 end
def uptoSmall : (H : Type) → List (DataW H) → Bool := fun _ ds => decide (uptoBulkAll ds ≤ 1048576)
def OpenSpec.upto (s : _root_.Go.ChangeSpec) : _root_.Go.OpenSpec := { _root_.Go.OpenSpec.ofChange s with cond := some uptoSmall }

/-- 'rootcellarlaw4.DevLast', WHERE WHAT IT READS IS OF BULK AT MOST 1048576: true; the input reads as it did. -/
def devLastUptoRow : OpenClaim := { program := "ytakpedenoocmpaa", sum := "385b8110b84d265108bf553b0f9faffc93a321d759ef0f3e275879e004780d02", func := "rootcellar/rootcellarlaw4.DevLast", spec := "devLast", inPlace := ["internal/abi.NoEscape", "internal/bytealg.MakeNoZero"], apart := false, narrowed := true }
def DevLastUptoSaid : Prop := devLastUptoRow.holds Try.pinned (OpenSpec.upto devLastSpec)

/-- 'rootcellarlaw4.DevOrder', WHERE WHAT IT READS IS OF BULK AT MOST 1048576: true; the input reads as it did. -/
def devOrderUptoRow : OpenClaim := { program := "ytakpedenoocmpaa", sum := "385b8110b84d265108bf553b0f9faffc93a321d759ef0f3e275879e004780d02", func := "rootcellar/rootcellarlaw4.DevOrder", spec := "devOrder", inPlace := ["internal/abi.NoEscape", "internal/bytealg.MakeNoZero"], apart := false, narrowed := true }
def DevOrderUptoSaid : Prop := devOrderUptoRow.holds Try.pinned (OpenSpec.upto devOrderSpec)

/-- 'rootcellarlaw4.DevArmed', WHERE WHAT IT READS IS OF BULK AT MOST 1048576: true; the input reads as it did. -/
def devArmedUptoRow : OpenClaim := { program := "ytakpedenoocmpaa", sum := "385b8110b84d265108bf553b0f9faffc93a321d759ef0f3e275879e004780d02", func := "rootcellar/rootcellarlaw4.DevArmed", spec := "devArmed", inPlace := ["internal/abi.NoEscape", "internal/bytealg.MakeNoZero"], apart := false, narrowed := true }
def DevArmedUptoSaid : Prop := devArmedUptoRow.holds Try.pinned (OpenSpec.upto devArmedSpec)

/-- 'rootcellarlaw4.DevEither', WHERE WHAT IT READS IS OF BULK AT MOST 1048576: true; the input reads as it did. -/
def devEitherUptoRow : OpenClaim := { program := "ytakpedenoocmpaa", sum := "385b8110b84d265108bf553b0f9faffc93a321d759ef0f3e275879e004780d02", func := "rootcellar/rootcellarlaw4.DevEither", spec := "devEither", inPlace := ["internal/abi.NoEscape", "internal/bytealg.MakeNoZero"], apart := false, narrowed := true }
def DevEitherUptoSaid : Prop := devEitherUptoRow.holds Try.pinned (OpenSpec.upto devEitherSpec)

/-- 'rootcellarlaw4.DevCopy', WHERE WHAT IT READS IS OF BULK AT MOST 1048576: true; the input reads as it did. -/
def devCopyUptoRow : OpenClaim := { program := "ytakpedenoocmpaa", sum := "385b8110b84d265108bf553b0f9faffc93a321d759ef0f3e275879e004780d02", func := "rootcellar/rootcellarlaw4.DevCopy", spec := "devCopy", inPlace := ["internal/abi.NoEscape", "internal/bytealg.MakeNoZero"], apart := false, narrowed := true }
def DevCopyUptoSaid : Prop := devCopyUptoRow.holds Try.pinned (OpenSpec.upto devCopySpec)

end Rows
end Go.Proofs.Ytakpedenoocmpaa
