/-
  DERIVED. GIVEN WITH THE SEED: THE CARDS: each row of YtboommbclbjlnaaDoorRows.lean that lists a variable, with what it lists TIED to the program's text (the seventh form; the later family's looks); each row that meets fmt, with fmt's text TOLD by the authors' own Lean function (tested against real Go, not proved from fmt's source: count such statements apart). THE CARD IS WHAT COUNTS. Prove the row's statement (the work); the ties are given (YtboommbclbjlnaaDoorTie.lean); close each card by the builder's one call (the guide's Derived/Test/ToyasCard.lean, 'card_holds'). Laid BY PROGRAM, IN A SANDBOX (cutbox-door.mjs). By AI agents, Wed Nov 11 2026. No macro, syntax, notation, axiom, sorry.
-/
import Derived.Test.YtboommbclbjlnaaDoorRows
import GoSem.ClaimSeven
namespace Go.Proofs.YtboommbclbjlnaaDoor
namespace Rows

/-- THE TIED CARD OF 'rootcellarlaw12.StepPuts'. -/
def stepPutsCard : Claim7 := { stood := { row := stepPutsRow, standIns := [], harness := (true, "ec39a7b9360c5b45ae56110d7b867423cc54b53078406bbda518d99d50e648b8"), looks := false }, kinds := [], alts := [], laidByText := true, laidKinds := [.data, .pinned], laidTests := true, laidLooks := .later }
def StepPutsCardSaid : Prop := Claim7.holds Tryd.pinned (.plain (OpenSpec.ofChange stepPutsSpec)) stepPutsCard

/-- THE TIED CARD OF 'rootcellarlaw12.StepSizes'. -/
def stepSizesCard : Claim7 := { stood := { row := stepSizesRow, standIns := [], harness := (true, "ec39a7b9360c5b45ae56110d7b867423cc54b53078406bbda518d99d50e648b8"), looks := false }, kinds := [], alts := [], laidByText := true, laidKinds := [.data, .pinned], laidTests := true, laidLooks := .later }
def StepSizesCardSaid : Prop := Claim7.holds Tryd.pinned (.plain (OpenSpec.ofChange stepSizesSpec)) stepSizesCard

/-- THE TIED CARD OF 'rootcellarlaw12.StepGroups'. -/
def stepGroupsCard : Claim7 := { stood := { row := stepGroupsRow, standIns := [], harness := (true, "ec39a7b9360c5b45ae56110d7b867423cc54b53078406bbda518d99d50e648b8"), looks := false }, kinds := [], alts := [], laidByText := true, laidKinds := [.data, .pinned], laidTests := true, laidLooks := .later }
def StepGroupsCardSaid : Prop := Claim7.holds Tryd.pinned (.plain (OpenSpec.ofChange stepGroupsSpec)) stepGroupsCard

/-- THE TIED CARD OF 'rootcellarlaw12.StepParts'. -/
def stepPartsCard : Claim7 := { stood := { row := stepPartsRow, standIns := [], harness := (true, "ec39a7b9360c5b45ae56110d7b867423cc54b53078406bbda518d99d50e648b8"), looks := false }, kinds := [], alts := [], laidByText := true, laidKinds := [.data, .pinned], laidTests := true, laidLooks := .later }
def StepPartsCardSaid : Prop := Claim7.holds Tryd.pinned (.plain (OpenSpec.ofChange stepPartsSpec)) stepPartsCard

/-- THE TIED CARD OF 'rootcellarlaw12.StepBack'. -/
def stepBackCard : Claim7 := { stood := { row := stepBackRow, standIns := [], harness := (true, "ec39a7b9360c5b45ae56110d7b867423cc54b53078406bbda518d99d50e648b8"), looks := false }, kinds := [], alts := [], laidByText := true, laidKinds := [.data, .pinned], laidTests := true, laidLooks := .later }
def StepBackCardSaid : Prop := Claim7.holds Tryd.pinned (.plain (OpenSpec.ofChange stepBackSpec)) stepBackCard

/-- THE TIED CARD OF 'rootcellarlaw12.StepTakes'. -/
def stepTakesCard : Claim7 := { stood := { row := stepTakesRow, standIns := [], harness := (true, "ec39a7b9360c5b45ae56110d7b867423cc54b53078406bbda518d99d50e648b8"), looks := false }, kinds := [], alts := [], laidByText := true, laidKinds := [.data, .pinned], laidTests := true, laidLooks := .later }
def StepTakesCardSaid : Prop := Claim7.holds Tryd.pinned (.plain (OpenSpec.ofChange stepTakesSpec)) stepTakesCard

/-- THE TIED CARD OF 'rootcellarlaw12.StepTorn'. -/
def stepTornCard : Claim7 := { stood := { row := stepTornRow, standIns := [], harness := (true, "ec39a7b9360c5b45ae56110d7b867423cc54b53078406bbda518d99d50e648b8"), looks := false }, kinds := [], alts := [], laidByText := true, laidKinds := [.data, .pinned], laidTests := true, laidLooks := .later }
def StepTornCardSaid : Prop := Claim7.holds Tryd.pinned (.plain (OpenSpec.ofChange stepTornSpec)) stepTornCard

/-- THE TIED CARD OF 'rootcellarlaw13.JournalAdds'. -/
def journalAddsCard : Claim7 := { stood := { row := journalAddsRow, standIns := [], harness := (true, "ec39a7b9360c5b45ae56110d7b867423cc54b53078406bbda518d99d50e648b8"), looks := false }, kinds := [], alts := [], laidByText := true, laidKinds := [.data, .pinned], laidTests := true, laidLooks := .later }
def JournalAddsCardSaid : Prop := Claim7.holds Tryd.pinned (.plain (OpenSpec.ofChange journalAddsSpec)) journalAddsCard

/-- THE TIED CARD OF 'rootcellarlaw13.JournalAfter'. -/
def journalAfterCard : Claim7 := { stood := { row := journalAfterRow, standIns := [], harness := (true, "ec39a7b9360c5b45ae56110d7b867423cc54b53078406bbda518d99d50e648b8"), looks := false }, kinds := [], alts := [], laidByText := true, laidKinds := [.data, .pinned], laidTests := true, laidLooks := .later }
def JournalAfterCardSaid : Prop := Claim7.holds Tryd.pinned (.plain (OpenSpec.ofChange journalAfterSpec)) journalAfterCard

/-- THE TIED CARD OF 'rootcellarlaw13.JournalSame'. -/
def journalSameCard : Claim7 := { stood := { row := journalSameRow, standIns := [], harness := (true, "ec39a7b9360c5b45ae56110d7b867423cc54b53078406bbda518d99d50e648b8"), looks := false }, kinds := [], alts := [], laidByText := true, laidKinds := [.data, .pinned], laidTests := true, laidLooks := .later }
def JournalSameCardSaid : Prop := Claim7.holds Tryd.pinned (.plain (OpenSpec.ofChange journalSameSpec)) journalSameCard

/-- THE TIED CARD OF 'rootcellarlaw13.JournalJoins'. -/
def journalJoinsCard : Claim7 := { stood := { row := journalJoinsRow, standIns := [], harness := (true, "ec39a7b9360c5b45ae56110d7b867423cc54b53078406bbda518d99d50e648b8"), looks := false }, kinds := [], alts := [], laidByText := true, laidKinds := [.data, .pinned], laidTests := true, laidLooks := .later }
def JournalJoinsCardSaid : Prop := Claim7.holds Tryd.pinned (.plain (OpenSpec.ofChange journalJoinsSpec)) journalJoinsCard

/-- THE TIED CARD OF 'rootcellarlaw13.JournalOnce'. -/
def journalOnceCard : Claim7 := { stood := { row := journalOnceRow, standIns := [], harness := (true, "ec39a7b9360c5b45ae56110d7b867423cc54b53078406bbda518d99d50e648b8"), looks := false }, kinds := [], alts := [], laidByText := true, laidKinds := [.data, .pinned], laidTests := true, laidLooks := .later }
def JournalOnceCardSaid : Prop := Claim7.holds Tryd.pinned (.plain (OpenSpec.ofChange journalOnceSpec)) journalOnceCard

/-- THE TIED CARD OF 'rootcellarlaw13.JournalReads'. -/
def journalReadsCard : Claim7 := { stood := { row := journalReadsRow, standIns := [], harness := (true, "ec39a7b9360c5b45ae56110d7b867423cc54b53078406bbda518d99d50e648b8"), looks := false }, kinds := [], alts := [], laidByText := true, laidKinds := [.data, .pinned], laidTests := true, laidLooks := .later }
def JournalReadsCardSaid : Prop := Claim7.holds Tryd.pinned (.plain (OpenSpec.ofChange journalReadsSpec)) journalReadsCard

/-- THE TIED CARD OF 'rootcellarlaw13.JournalTorn'. -/
def journalTornCard : Claim7 := { stood := { row := journalTornRow, standIns := [], harness := (true, "ec39a7b9360c5b45ae56110d7b867423cc54b53078406bbda518d99d50e648b8"), looks := false }, kinds := [], alts := [], laidByText := true, laidKinds := [.data, .pinned], laidTests := true, laidLooks := .later }
def JournalTornCardSaid : Prop := Claim7.holds Tryd.pinned (.plain (OpenSpec.ofChange journalTornSpec)) journalTornCard

/-- THE SECOND FORM's CARD OF 'rootcellarlaw12.StepPuts'. -/
def stepPutsUptoCard : Claim7 := { stood := { row := stepPutsUptoRow, standIns := [], harness := (true, "ec39a7b9360c5b45ae56110d7b867423cc54b53078406bbda518d99d50e648b8"), looks := false }, kinds := [], alts := [], laidByText := true, laidKinds := [.data, .pinned], laidTests := true, laidLooks := .later }
def StepPutsUptoCardSaid : Prop := Claim7.holds Tryd.pinned (.plain (OpenSpec.upto stepPutsSpec)) stepPutsUptoCard

/-- THE SECOND FORM's CARD OF 'rootcellarlaw12.StepSizes'. -/
def stepSizesUptoCard : Claim7 := { stood := { row := stepSizesUptoRow, standIns := [], harness := (true, "ec39a7b9360c5b45ae56110d7b867423cc54b53078406bbda518d99d50e648b8"), looks := false }, kinds := [], alts := [], laidByText := true, laidKinds := [.data, .pinned], laidTests := true, laidLooks := .later }
def StepSizesUptoCardSaid : Prop := Claim7.holds Tryd.pinned (.plain (OpenSpec.upto stepSizesSpec)) stepSizesUptoCard

/-- THE SECOND FORM's CARD OF 'rootcellarlaw12.StepGroups'. -/
def stepGroupsUptoCard : Claim7 := { stood := { row := stepGroupsUptoRow, standIns := [], harness := (true, "ec39a7b9360c5b45ae56110d7b867423cc54b53078406bbda518d99d50e648b8"), looks := false }, kinds := [], alts := [], laidByText := true, laidKinds := [.data, .pinned], laidTests := true, laidLooks := .later }
def StepGroupsUptoCardSaid : Prop := Claim7.holds Tryd.pinned (.plain (OpenSpec.upto stepGroupsSpec)) stepGroupsUptoCard

/-- THE SECOND FORM's CARD OF 'rootcellarlaw12.StepParts'. -/
def stepPartsUptoCard : Claim7 := { stood := { row := stepPartsUptoRow, standIns := [], harness := (true, "ec39a7b9360c5b45ae56110d7b867423cc54b53078406bbda518d99d50e648b8"), looks := false }, kinds := [], alts := [], laidByText := true, laidKinds := [.data, .pinned], laidTests := true, laidLooks := .later }
def StepPartsUptoCardSaid : Prop := Claim7.holds Tryd.pinned (.plain (OpenSpec.upto stepPartsSpec)) stepPartsUptoCard

/-- THE SECOND FORM's CARD OF 'rootcellarlaw12.StepBack'. -/
def stepBackUptoCard : Claim7 := { stood := { row := stepBackUptoRow, standIns := [], harness := (true, "ec39a7b9360c5b45ae56110d7b867423cc54b53078406bbda518d99d50e648b8"), looks := false }, kinds := [], alts := [], laidByText := true, laidKinds := [.data, .pinned], laidTests := true, laidLooks := .later }
def StepBackUptoCardSaid : Prop := Claim7.holds Tryd.pinned (.plain (OpenSpec.upto stepBackSpec)) stepBackUptoCard

/-- THE SECOND FORM's CARD OF 'rootcellarlaw12.StepTakes'. -/
def stepTakesUptoCard : Claim7 := { stood := { row := stepTakesUptoRow, standIns := [], harness := (true, "ec39a7b9360c5b45ae56110d7b867423cc54b53078406bbda518d99d50e648b8"), looks := false }, kinds := [], alts := [], laidByText := true, laidKinds := [.data, .pinned], laidTests := true, laidLooks := .later }
def StepTakesUptoCardSaid : Prop := Claim7.holds Tryd.pinned (.plain (OpenSpec.upto stepTakesSpec)) stepTakesUptoCard

/-- THE SECOND FORM's CARD OF 'rootcellarlaw12.StepTorn'. -/
def stepTornUptoCard : Claim7 := { stood := { row := stepTornUptoRow, standIns := [], harness := (true, "ec39a7b9360c5b45ae56110d7b867423cc54b53078406bbda518d99d50e648b8"), looks := false }, kinds := [], alts := [], laidByText := true, laidKinds := [.data, .pinned], laidTests := true, laidLooks := .later }
def StepTornUptoCardSaid : Prop := Claim7.holds Tryd.pinned (.plain (OpenSpec.upto stepTornSpec)) stepTornUptoCard

/-- THE SECOND FORM's CARD OF 'rootcellarlaw13.JournalAdds'. -/
def journalAddsUptoCard : Claim7 := { stood := { row := journalAddsUptoRow, standIns := [], harness := (true, "ec39a7b9360c5b45ae56110d7b867423cc54b53078406bbda518d99d50e648b8"), looks := false }, kinds := [], alts := [], laidByText := true, laidKinds := [.data, .pinned], laidTests := true, laidLooks := .later }
def JournalAddsUptoCardSaid : Prop := Claim7.holds Tryd.pinned (.plain (OpenSpec.upto journalAddsSpec)) journalAddsUptoCard

/-- THE SECOND FORM's CARD OF 'rootcellarlaw13.JournalAfter'. -/
def journalAfterUptoCard : Claim7 := { stood := { row := journalAfterUptoRow, standIns := [], harness := (true, "ec39a7b9360c5b45ae56110d7b867423cc54b53078406bbda518d99d50e648b8"), looks := false }, kinds := [], alts := [], laidByText := true, laidKinds := [.data, .pinned], laidTests := true, laidLooks := .later }
def JournalAfterUptoCardSaid : Prop := Claim7.holds Tryd.pinned (.plain (OpenSpec.upto journalAfterSpec)) journalAfterUptoCard

/-- THE SECOND FORM's CARD OF 'rootcellarlaw13.JournalSame'. -/
def journalSameUptoCard : Claim7 := { stood := { row := journalSameUptoRow, standIns := [], harness := (true, "ec39a7b9360c5b45ae56110d7b867423cc54b53078406bbda518d99d50e648b8"), looks := false }, kinds := [], alts := [], laidByText := true, laidKinds := [.data, .pinned], laidTests := true, laidLooks := .later }
def JournalSameUptoCardSaid : Prop := Claim7.holds Tryd.pinned (.plain (OpenSpec.upto journalSameSpec)) journalSameUptoCard

/-- THE SECOND FORM's CARD OF 'rootcellarlaw13.JournalJoins'. -/
def journalJoinsUptoCard : Claim7 := { stood := { row := journalJoinsUptoRow, standIns := [], harness := (true, "ec39a7b9360c5b45ae56110d7b867423cc54b53078406bbda518d99d50e648b8"), looks := false }, kinds := [], alts := [], laidByText := true, laidKinds := [.data, .pinned], laidTests := true, laidLooks := .later }
def JournalJoinsUptoCardSaid : Prop := Claim7.holds Tryd.pinned (.plain (OpenSpec.upto journalJoinsSpec)) journalJoinsUptoCard

/-- THE SECOND FORM's CARD OF 'rootcellarlaw13.JournalOnce'. -/
def journalOnceUptoCard : Claim7 := { stood := { row := journalOnceUptoRow, standIns := [], harness := (true, "ec39a7b9360c5b45ae56110d7b867423cc54b53078406bbda518d99d50e648b8"), looks := false }, kinds := [], alts := [], laidByText := true, laidKinds := [.data, .pinned], laidTests := true, laidLooks := .later }
def JournalOnceUptoCardSaid : Prop := Claim7.holds Tryd.pinned (.plain (OpenSpec.upto journalOnceSpec)) journalOnceUptoCard

/-- THE SECOND FORM's CARD OF 'rootcellarlaw13.JournalReads'. -/
def journalReadsUptoCard : Claim7 := { stood := { row := journalReadsUptoRow, standIns := [], harness := (true, "ec39a7b9360c5b45ae56110d7b867423cc54b53078406bbda518d99d50e648b8"), looks := false }, kinds := [], alts := [], laidByText := true, laidKinds := [.data, .pinned], laidTests := true, laidLooks := .later }
def JournalReadsUptoCardSaid : Prop := Claim7.holds Tryd.pinned (.plain (OpenSpec.upto journalReadsSpec)) journalReadsUptoCard

/-- THE SECOND FORM's CARD OF 'rootcellarlaw13.JournalTorn'. -/
def journalTornUptoCard : Claim7 := { stood := { row := journalTornUptoRow, standIns := [], harness := (true, "ec39a7b9360c5b45ae56110d7b867423cc54b53078406bbda518d99d50e648b8"), looks := false }, kinds := [], alts := [], laidByText := true, laidKinds := [.data, .pinned], laidTests := true, laidLooks := .later }
def JournalTornUptoCardSaid : Prop := Claim7.holds Tryd.pinned (.plain (OpenSpec.upto journalTornSpec)) journalTornUptoCard
end Rows
end Go.Proofs.YtboommbclbjlnaaDoor
