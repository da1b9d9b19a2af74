/-
  DERIVED. GIVEN WITH THE SEED: THE CARDS: each row of YtapkghkcaflkmaaDoorRows.lean that lists a variable, with what it lists TIED to the program's text (the seventh form; the later family's looks); each row that meets fmt, with fmt's text TOLD by the authors' own Lean function (tested against real Go, not proved from fmt's source: count such statements apart). THE CARD IS WHAT COUNTS. Prove the row's statement (the work); the ties are given (YtapkghkcaflkmaaDoorTie.lean); close each card by the builder's one call (the guide's Derived/Test/ToyasCard.lean, 'card_holds'). Laid BY PROGRAM, IN A SANDBOX (cutbox-door.mjs). By AI agents, Wed Nov 11 2026. No macro, syntax, notation, axiom, sorry.
-/
import Derived.Test.YtapkghkcaflkmaaDoorRows
import GoSem.ClaimSeven
namespace Go.Proofs.YtapkghkcaflkmaaDoor
namespace Rows

/-- THE TIED CARD OF 'rootcellarlaw1.LabelRunes'. -/
def labelRunesCard : Claim7 := { stood := { row := labelRunesRow, standIns := [], harness := (true, "58c03579b2b9dd753f0f73b6ff5f830f282725469d67ea699196769d09787aef"), looks := true }, kinds := [], alts := [], laidByText := true, laidKinds := [.data, .data, .data, .data, .pinned], laidTests := true, laidLooks := .later }
def LabelRunesCardSaid : Prop := Claim7.holds Tryd.pinned (.plain (OpenSpec.ofChange labelRunesSpec)) labelRunesCard

/-- THE TIED CARD OF 'rootcellarlaw1.LabelCuts'. -/
def labelCutsCard : Claim7 := { stood := { row := labelCutsRow, standIns := [], harness := (true, "58c03579b2b9dd753f0f73b6ff5f830f282725469d67ea699196769d09787aef"), looks := true }, kinds := [], alts := [], laidByText := true, laidKinds := [.data, .data, .data, .data, .pinned], laidTests := true, laidLooks := .later }
def LabelCutsCardSaid : Prop := Claim7.holds Tryd.pinned (.plain (OpenSpec.ofChange labelCutsSpec)) labelCutsCard

/-- THE TIED CARD OF 'rootcellarlaw1.LabelFirst'. -/
def labelFirstCard : Claim7 := { stood := { row := labelFirstRow, standIns := [], harness := (true, "58c03579b2b9dd753f0f73b6ff5f830f282725469d67ea699196769d09787aef"), looks := true }, kinds := [], alts := [], laidByText := true, laidKinds := [.data, .data, .data, .data, .pinned], laidTests := true, laidLooks := .later }
def LabelFirstCardSaid : Prop := Claim7.holds Tryd.pinned (.plain (OpenSpec.ofChange labelFirstSpec)) labelFirstCard

/-- THE TIED CARD OF 'rootcellarlaw1.LabelNames'. -/
def labelNamesCard : Claim7 := { stood := { row := labelNamesRow, standIns := [], harness := (true, "58c03579b2b9dd753f0f73b6ff5f830f282725469d67ea699196769d09787aef"), looks := true }, kinds := [], alts := [], laidByText := true, laidKinds := [.data, .data, .data, .data, .pinned], laidTests := true, laidLooks := .later }
def LabelNamesCardSaid : Prop := Claim7.holds Tryd.pinned (.plain (OpenSpec.ofChange labelNamesSpec)) labelNamesCard

/-- THE TIED CARD OF 'rootcellarlaw1.LabelJoins'. -/
def labelJoinsCard : Claim7 := { stood := { row := labelJoinsRow, standIns := [], harness := (true, "58c03579b2b9dd753f0f73b6ff5f830f282725469d67ea699196769d09787aef"), looks := true }, kinds := [], alts := [], laidByText := true, laidKinds := [.data, .data, .data, .data, .pinned], laidTests := true, laidLooks := .later }
def LabelJoinsCardSaid : Prop := Claim7.holds Tryd.pinned (.plain (OpenSpec.ofChange labelJoinsSpec)) labelJoinsCard

/-- THE TIED CARD OF 'rootcellarlaw1.LabelPlain'. -/
def labelPlainCard : Claim7 := { stood := { row := labelPlainRow, standIns := [], harness := (true, "58c03579b2b9dd753f0f73b6ff5f830f282725469d67ea699196769d09787aef"), looks := true }, kinds := [], alts := [], laidByText := true, laidKinds := [.data, .data, .data, .data, .pinned], laidTests := true, laidLooks := .later }
def LabelPlainCardSaid : Prop := Claim7.holds Tryd.pinned (.plain (OpenSpec.ofChange labelPlainSpec)) labelPlainCard

/-- THE TIED CARD OF 'rootcellarlaw1.LabelQuotes'. -/
def labelQuotesCard : Claim7 := { stood := { row := labelQuotesRow, standIns := [], harness := (true, "58c03579b2b9dd753f0f73b6ff5f830f282725469d67ea699196769d09787aef"), looks := true }, kinds := [], alts := [], laidByText := true, laidKinds := [.data, .data, .data, .data, .sentinel, .sentinel, .pinned], laidTests := true, laidLooks := .later }
def LabelQuotesCardSaid : Prop := Claim7.holds Tryd.pinned (.plain (OpenSpec.ofChange labelQuotesSpec)) labelQuotesCard

/-- THE TIED CARD OF 'rootcellarlaw1.LabelBack'. -/
def labelBackCard : Claim7 := { stood := { row := labelBackRow, standIns := [], harness := (true, "58c03579b2b9dd753f0f73b6ff5f830f282725469d67ea699196769d09787aef"), looks := true }, kinds := [], alts := [], laidByText := true, laidKinds := [.data, .data, .data, .data, .sentinel, .sentinel, .pinned], laidTests := true, laidLooks := .later }
def LabelBackCardSaid : Prop := Claim7.holds Tryd.pinned (.plain (OpenSpec.ofChange labelBackSpec)) labelBackCard

/-- THE SECOND FORM's CARD OF 'rootcellarlaw1.LabelRunes'. -/
def labelRunesUptoCard : Claim7 := { stood := { row := labelRunesUptoRow, standIns := [], harness := (true, "58c03579b2b9dd753f0f73b6ff5f830f282725469d67ea699196769d09787aef"), looks := true }, kinds := [], alts := [], laidByText := true, laidKinds := [.data, .data, .data, .data, .pinned], laidTests := true, laidLooks := .later }
def LabelRunesUptoCardSaid : Prop := Claim7.holds Tryd.pinned (.plain (OpenSpec.upto labelRunesSpec)) labelRunesUptoCard

/-- THE SECOND FORM's CARD OF 'rootcellarlaw1.LabelCuts'. -/
def labelCutsUptoCard : Claim7 := { stood := { row := labelCutsUptoRow, standIns := [], harness := (true, "58c03579b2b9dd753f0f73b6ff5f830f282725469d67ea699196769d09787aef"), looks := true }, kinds := [], alts := [], laidByText := true, laidKinds := [.data, .data, .data, .data, .pinned], laidTests := true, laidLooks := .later }
def LabelCutsUptoCardSaid : Prop := Claim7.holds Tryd.pinned (.plain (OpenSpec.upto labelCutsSpec)) labelCutsUptoCard

/-- THE SECOND FORM's CARD OF 'rootcellarlaw1.LabelFirst'. -/
def labelFirstUptoCard : Claim7 := { stood := { row := labelFirstUptoRow, standIns := [], harness := (true, "58c03579b2b9dd753f0f73b6ff5f830f282725469d67ea699196769d09787aef"), looks := true }, kinds := [], alts := [], laidByText := true, laidKinds := [.data, .data, .data, .data, .pinned], laidTests := true, laidLooks := .later }
def LabelFirstUptoCardSaid : Prop := Claim7.holds Tryd.pinned (.plain (OpenSpec.upto labelFirstSpec)) labelFirstUptoCard

/-- THE SECOND FORM's CARD OF 'rootcellarlaw1.LabelNames'. -/
def labelNamesUptoCard : Claim7 := { stood := { row := labelNamesUptoRow, standIns := [], harness := (true, "58c03579b2b9dd753f0f73b6ff5f830f282725469d67ea699196769d09787aef"), looks := true }, kinds := [], alts := [], laidByText := true, laidKinds := [.data, .data, .data, .data, .pinned], laidTests := true, laidLooks := .later }
def LabelNamesUptoCardSaid : Prop := Claim7.holds Tryd.pinned (.plain (OpenSpec.upto labelNamesSpec)) labelNamesUptoCard

/-- THE SECOND FORM's CARD OF 'rootcellarlaw1.LabelJoins'. -/
def labelJoinsUptoCard : Claim7 := { stood := { row := labelJoinsUptoRow, standIns := [], harness := (true, "58c03579b2b9dd753f0f73b6ff5f830f282725469d67ea699196769d09787aef"), looks := true }, kinds := [], alts := [], laidByText := true, laidKinds := [.data, .data, .data, .data, .pinned], laidTests := true, laidLooks := .later }
def LabelJoinsUptoCardSaid : Prop := Claim7.holds Tryd.pinned (.plain (OpenSpec.upto labelJoinsSpec)) labelJoinsUptoCard

/-- THE SECOND FORM's CARD OF 'rootcellarlaw1.LabelPlain'. -/
def labelPlainUptoCard : Claim7 := { stood := { row := labelPlainUptoRow, standIns := [], harness := (true, "58c03579b2b9dd753f0f73b6ff5f830f282725469d67ea699196769d09787aef"), looks := true }, kinds := [], alts := [], laidByText := true, laidKinds := [.data, .data, .data, .data, .pinned], laidTests := true, laidLooks := .later }
def LabelPlainUptoCardSaid : Prop := Claim7.holds Tryd.pinned (.plain (OpenSpec.upto labelPlainSpec)) labelPlainUptoCard

/-- THE SECOND FORM's CARD OF 'rootcellarlaw1.LabelQuotes'. -/
def labelQuotesUptoCard : Claim7 := { stood := { row := labelQuotesUptoRow, standIns := [], harness := (true, "58c03579b2b9dd753f0f73b6ff5f830f282725469d67ea699196769d09787aef"), looks := true }, kinds := [], alts := [], laidByText := true, laidKinds := [.data, .data, .data, .data, .sentinel, .sentinel, .pinned], laidTests := true, laidLooks := .later }
def LabelQuotesUptoCardSaid : Prop := Claim7.holds Tryd.pinned (.plain (OpenSpec.upto labelQuotesSpec)) labelQuotesUptoCard

/-- THE SECOND FORM's CARD OF 'rootcellarlaw1.LabelBack'. -/
def labelBackUptoCard : Claim7 := { stood := { row := labelBackUptoRow, standIns := [], harness := (true, "58c03579b2b9dd753f0f73b6ff5f830f282725469d67ea699196769d09787aef"), looks := true }, kinds := [], alts := [], laidByText := true, laidKinds := [.data, .data, .data, .data, .sentinel, .sentinel, .pinned], laidTests := true, laidLooks := .later }
def LabelBackUptoCardSaid : Prop := Claim7.holds Tryd.pinned (.plain (OpenSpec.upto labelBackSpec)) labelBackUptoCard
end Rows
end Go.Proofs.YtapkghkcaflkmaaDoor
