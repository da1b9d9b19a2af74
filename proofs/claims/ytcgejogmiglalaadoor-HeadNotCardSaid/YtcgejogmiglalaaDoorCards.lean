/-
  DERIVED. GIVEN WITH THE SEED: THE CARDS: each row of YtcgejogmiglalaaDoorRows.lean that lists a variable, with what it lists TIED to the program's text (the seventh form; the later family's looks); each row that meets fmt, with fmt's text TOLD by the authors' own Lean function (tested against real Go, not proved from fmt's source: count such statements apart). THE CARD IS WHAT COUNTS. Prove the row's statement (the work); the ties are given (YtcgejogmiglalaaDoorTie.lean); close each card by the builder's one call (the guide's Derived/Test/ToyasCard.lean, 'card_holds'). Laid BY PROGRAM, IN A SANDBOX (cutbox-door.mjs). By AI agents, Wed Nov 11 2026. No macro, syntax, notation, axiom, sorry.
-/
import Derived.Test.YtcgejogmiglalaaDoorRows
import GoSem.ClaimSeven
namespace Go.Proofs.YtcgejogmiglalaaDoor
namespace Rows

/-- THE TIED CARD OF 'rootcellarlaw6.HeadPuts'. -/
def headPutsCard : Claim7 := { stood := { row := headPutsRow, standIns := [], harness := (true, "8254ebe836b061a16d9c1bd451892ff926b05fb9850d113922cabbc02b91a4ee"), looks := false }, kinds := [], alts := [], laidByText := true, laidKinds := [.data, .pinned], laidTests := true, laidLooks := .later }
def HeadPutsCardSaid : Prop := Claim7.holds Tryd.pinned (.plain (OpenSpec.ofChange headPutsSpec)) headPutsCard

/-- THE TIED CARD OF 'rootcellarlaw6.HeadTakes'. -/
def headTakesCard : Claim7 := { stood := { row := headTakesRow, standIns := [], harness := (true, "8254ebe836b061a16d9c1bd451892ff926b05fb9850d113922cabbc02b91a4ee"), looks := false }, kinds := [], alts := [], laidByText := true, laidKinds := [.data, .pinned], laidTests := true, laidLooks := .later }
def HeadTakesCardSaid : Prop := Claim7.holds Tryd.pinned (.plain (OpenSpec.ofChange headTakesSpec)) headTakesCard

/-- THE TIED CARD OF 'rootcellarlaw6.HeadBack'. -/
def headBackCard : Claim7 := { stood := { row := headBackRow, standIns := [], harness := (true, "8254ebe836b061a16d9c1bd451892ff926b05fb9850d113922cabbc02b91a4ee"), looks := false }, kinds := [], alts := [], laidByText := true, laidKinds := [.data, .pinned], laidTests := true, laidLooks := .later }
def HeadBackCardSaid : Prop := Claim7.holds Tryd.pinned (.plain (OpenSpec.ofChange headBackSpec)) headBackCard

/-- THE TIED CARD OF 'rootcellarlaw6.HeadEither'. -/
def headEitherCard : Claim7 := { stood := { row := headEitherRow, standIns := [], harness := (true, "8254ebe836b061a16d9c1bd451892ff926b05fb9850d113922cabbc02b91a4ee"), looks := false }, kinds := [], alts := [], laidByText := true, laidKinds := [.data, .pinned], laidTests := true, laidLooks := .later }
def HeadEitherCardSaid : Prop := Claim7.holds Tryd.pinned (.plain (OpenSpec.ofChange headEitherSpec)) headEitherCard

/-- THE TIED CARD OF 'rootcellarlaw6.HeadApart'. -/
def headApartCard : Claim7 := { stood := { row := headApartRow, standIns := [], harness := (true, "8254ebe836b061a16d9c1bd451892ff926b05fb9850d113922cabbc02b91a4ee"), looks := false }, kinds := [], alts := [], laidByText := true, laidKinds := [.data, .pinned], laidTests := true, laidLooks := .later }
def HeadApartCardSaid : Prop := Claim7.holds Tryd.pinned (.plain (OpenSpec.ofChange headApartSpec)) headApartCard

/-- THE TIED CARD OF 'rootcellarlaw6.HeadNot'. -/
def headNotCard : Claim7 := { stood := { row := headNotRow, standIns := [], harness := (true, "8254ebe836b061a16d9c1bd451892ff926b05fb9850d113922cabbc02b91a4ee"), looks := false }, kinds := [], alts := [], laidByText := true, laidKinds := [.data, .pinned], laidTests := true, laidLooks := .later }
def HeadNotCardSaid : Prop := Claim7.holds Tryd.pinned (.plain (OpenSpec.ofChange headNotSpec)) headNotCard

/-- THE SECOND FORM's CARD OF 'rootcellarlaw6.HeadPuts'. -/
def headPutsUptoCard : Claim7 := { stood := { row := headPutsUptoRow, standIns := [], harness := (true, "8254ebe836b061a16d9c1bd451892ff926b05fb9850d113922cabbc02b91a4ee"), looks := false }, kinds := [], alts := [], laidByText := true, laidKinds := [.data, .pinned], laidTests := true, laidLooks := .later }
def HeadPutsUptoCardSaid : Prop := Claim7.holds Tryd.pinned (.plain (OpenSpec.upto headPutsSpec)) headPutsUptoCard

/-- THE SECOND FORM's CARD OF 'rootcellarlaw6.HeadTakes'. -/
def headTakesUptoCard : Claim7 := { stood := { row := headTakesUptoRow, standIns := [], harness := (true, "8254ebe836b061a16d9c1bd451892ff926b05fb9850d113922cabbc02b91a4ee"), looks := false }, kinds := [], alts := [], laidByText := true, laidKinds := [.data, .pinned], laidTests := true, laidLooks := .later }
def HeadTakesUptoCardSaid : Prop := Claim7.holds Tryd.pinned (.plain (OpenSpec.upto headTakesSpec)) headTakesUptoCard

/-- THE SECOND FORM's CARD OF 'rootcellarlaw6.HeadBack'. -/
def headBackUptoCard : Claim7 := { stood := { row := headBackUptoRow, standIns := [], harness := (true, "8254ebe836b061a16d9c1bd451892ff926b05fb9850d113922cabbc02b91a4ee"), looks := false }, kinds := [], alts := [], laidByText := true, laidKinds := [.data, .pinned], laidTests := true, laidLooks := .later }
def HeadBackUptoCardSaid : Prop := Claim7.holds Tryd.pinned (.plain (OpenSpec.upto headBackSpec)) headBackUptoCard

/-- THE SECOND FORM's CARD OF 'rootcellarlaw6.HeadEither'. -/
def headEitherUptoCard : Claim7 := { stood := { row := headEitherUptoRow, standIns := [], harness := (true, "8254ebe836b061a16d9c1bd451892ff926b05fb9850d113922cabbc02b91a4ee"), looks := false }, kinds := [], alts := [], laidByText := true, laidKinds := [.data, .pinned], laidTests := true, laidLooks := .later }
def HeadEitherUptoCardSaid : Prop := Claim7.holds Tryd.pinned (.plain (OpenSpec.upto headEitherSpec)) headEitherUptoCard

/-- THE SECOND FORM's CARD OF 'rootcellarlaw6.HeadApart'. -/
def headApartUptoCard : Claim7 := { stood := { row := headApartUptoRow, standIns := [], harness := (true, "8254ebe836b061a16d9c1bd451892ff926b05fb9850d113922cabbc02b91a4ee"), looks := false }, kinds := [], alts := [], laidByText := true, laidKinds := [.data, .pinned], laidTests := true, laidLooks := .later }
def HeadApartUptoCardSaid : Prop := Claim7.holds Tryd.pinned (.plain (OpenSpec.upto headApartSpec)) headApartUptoCard

/-- THE SECOND FORM's CARD OF 'rootcellarlaw6.HeadNot'. -/
def headNotUptoCard : Claim7 := { stood := { row := headNotUptoRow, standIns := [], harness := (true, "8254ebe836b061a16d9c1bd451892ff926b05fb9850d113922cabbc02b91a4ee"), looks := false }, kinds := [], alts := [], laidByText := true, laidKinds := [.data, .pinned], laidTests := true, laidLooks := .later }
def HeadNotUptoCardSaid : Prop := Claim7.holds Tryd.pinned (.plain (OpenSpec.upto headNotSpec)) headNotUptoCard
end Rows
end Go.Proofs.YtcgejogmiglalaaDoor
