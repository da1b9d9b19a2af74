/-
  DERIVED. GIVEN WITH THE SEED: THE CARDS: each row of YtcgpaopbcclbiaaDoorRows.lean that lists a variable, with what it lists TIED to the program's text (the seventh form; the later family's looks); each row that meets fmt, with fmt's text TOLD by the authors' own Lean function (tested against real Go, not proved from fmt's source: count such statements apart). THE CARD IS WHAT COUNTS. Prove the row's statement (the work); the ties are given (YtcgpaopbcclbiaaDoorTie.lean); close each card by the builder's one call (the guide's Derived/Test/ToyasCard.lean, 'card_holds'). Laid BY PROGRAM, IN A SANDBOX (cutbox-door.mjs). By AI agents, Wed Nov 11 2026. No macro, syntax, notation, axiom, sorry.
-/
import Derived.Test.YtcgpaopbcclbiaaDoorRows
import GoSem.ClaimSeven
namespace Go.Proofs.YtcgpaopbcclbiaaDoor
namespace Rows

/-- THE TIED CARD OF 'rootcellarlaw1.LabelQuotes'. -/
def labelQuotesCard : Claim7 := { stood := { row := labelQuotesRow, standIns := [], harness := (true, "db6da60e7519ca54463c5fec0d919ec384403ec85d5061dede64e56f5fa32059"), looks := true }, kinds := [], alts := [], laidByText := true, laidKinds := [.data, .data, .data, .data, .sentinel, .sentinel, .pinned], laidTests := true, laidLooks := .later }
def LabelQuotesCardSaid : Prop := Claim7.holds Tryd.pinned (.plain (OpenSpec.ofChange labelQuotesSpec)) labelQuotesCard

/-- THE TIED CARD OF 'rootcellarlaw1.LabelBack'. -/
def labelBackCard : Claim7 := { stood := { row := labelBackRow, standIns := [], harness := (true, "db6da60e7519ca54463c5fec0d919ec384403ec85d5061dede64e56f5fa32059"), looks := true }, kinds := [], alts := [], laidByText := true, laidKinds := [.data, .data, .data, .data, .sentinel, .sentinel, .pinned], laidTests := true, laidLooks := .later }
def LabelBackCardSaid : Prop := Claim7.holds Tryd.pinned (.plain (OpenSpec.ofChange labelBackSpec)) labelBackCard

/-- THE SECOND FORM's CARD OF 'rootcellarlaw1.LabelQuotes'. -/
def labelQuotesUptoCard : Claim7 := { stood := { row := labelQuotesUptoRow, standIns := [], harness := (true, "db6da60e7519ca54463c5fec0d919ec384403ec85d5061dede64e56f5fa32059"), looks := true }, kinds := [], alts := [], laidByText := true, laidKinds := [.data, .data, .data, .data, .sentinel, .sentinel, .pinned], laidTests := true, laidLooks := .later }
def LabelQuotesUptoCardSaid : Prop := Claim7.holds Tryd.pinned (.plain (OpenSpec.upto labelQuotesSpec)) labelQuotesUptoCard

/-- THE SECOND FORM's CARD OF 'rootcellarlaw1.LabelBack'. -/
def labelBackUptoCard : Claim7 := { stood := { row := labelBackUptoRow, standIns := [], harness := (true, "db6da60e7519ca54463c5fec0d919ec384403ec85d5061dede64e56f5fa32059"), looks := true }, kinds := [], alts := [], laidByText := true, laidKinds := [.data, .data, .data, .data, .sentinel, .sentinel, .pinned], laidTests := true, laidLooks := .later }
def LabelBackUptoCardSaid : Prop := Claim7.holds Tryd.pinned (.plain (OpenSpec.upto labelBackSpec)) labelBackUptoCard
end Rows
end Go.Proofs.YtcgpaopbcclbiaaDoor
