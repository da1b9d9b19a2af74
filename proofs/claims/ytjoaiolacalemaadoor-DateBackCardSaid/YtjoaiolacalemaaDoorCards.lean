/-
  DERIVED. GIVEN WITH THE SEED: THE CARDS: each row of YtjoaiolacalemaaDoorRows.lean that lists a variable, with what it lists TIED to the program's text (the seventh form; the later family's looks); each row that meets fmt, with fmt's text TOLD by the authors' own Lean function (tested against real Go, not proved from fmt's source: count such statements apart). THE CARD IS WHAT COUNTS. Prove the row's statement (the work); the ties are given (YtjoaiolacalemaaDoorTie.lean); close each card by the builder's one call (the guide's Derived/Test/ToyasCard.lean, 'card_holds'). Laid BY PROGRAM, IN A SANDBOX (cutbox-door.mjs). By AI agents, Wed Nov 11 2026. No macro, syntax, notation, axiom, sorry.
-/
import Derived.Test.YtjoaiolacalemaaDoorRows
import GoSem.ClaimSeven
namespace Go.Proofs.YtjoaiolacalemaaDoor
namespace Rows

/-- THE TIED CARD OF 'rootcellarlaw15.DateReads'. -/
def dateReadsCard : Claim7 := { stood := { row := dateReadsRow, standIns := [], harness := (true, "4ec6f91f44b7012057a66cc1fd2b11819eec9fcbd7cf331945e08c405ecb2060"), looks := true }, kinds := [], alts := [], laidByText := true, laidKinds := [.data, .data, .data, .data, .sentinel, .sentinel, .pinned], laidTests := true, laidLooks := .later }
def DateReadsCardSaid : Prop := Claim7.holds Tryd.pinned (.plain (OpenSpec.ofChange dateReadsSpec)) dateReadsCard

/-- THE TIED CARD OF 'rootcellarlaw15.DateBack'. -/
def dateBackCard : Claim7 := { stood := { row := dateBackRow, standIns := [], harness := (true, "4ec6f91f44b7012057a66cc1fd2b11819eec9fcbd7cf331945e08c405ecb2060"), looks := true }, kinds := [], alts := [], laidByText := true, laidKinds := [.data, .data, .data, .data, .sentinel, .sentinel, .pinned], laidTests := true, laidLooks := .later }
def DateBackCardSaid : Prop := Claim7.holds Tryd.pinned (.plain (OpenSpec.ofChange dateBackSpec)) dateBackCard

/-- THE SECOND FORM's CARD OF 'rootcellarlaw15.DateReads'. -/
def dateReadsUptoCard : Claim7 := { stood := { row := dateReadsUptoRow, standIns := [], harness := (true, "4ec6f91f44b7012057a66cc1fd2b11819eec9fcbd7cf331945e08c405ecb2060"), looks := true }, kinds := [], alts := [], laidByText := true, laidKinds := [.data, .data, .data, .data, .sentinel, .sentinel, .pinned], laidTests := true, laidLooks := .later }
def DateReadsUptoCardSaid : Prop := Claim7.holds Tryd.pinned (.plain (OpenSpec.upto dateReadsSpec)) dateReadsUptoCard

/-- THE SECOND FORM's CARD OF 'rootcellarlaw15.DateBack'. -/
def dateBackUptoCard : Claim7 := { stood := { row := dateBackUptoRow, standIns := [], harness := (true, "4ec6f91f44b7012057a66cc1fd2b11819eec9fcbd7cf331945e08c405ecb2060"), looks := true }, kinds := [], alts := [], laidByText := true, laidKinds := [.data, .data, .data, .data, .sentinel, .sentinel, .pinned], laidTests := true, laidLooks := .later }
def DateBackUptoCardSaid : Prop := Claim7.holds Tryd.pinned (.plain (OpenSpec.upto dateBackSpec)) dateBackUptoCard
end Rows
end Go.Proofs.YtjoaiolacalemaaDoor
