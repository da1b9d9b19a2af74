/-
  DERIVED. GIVEN WITH THE SEED: THE CARDS: each row of YtfoniidbkbmjeaaDoorRows.lean that lists a variable, with what it lists TIED to the program's text (the seventh form; the later family's looks); each row that meets fmt, with fmt's text TOLD by the authors' own Lean function (tested against real Go, not proved from fmt's source: count such statements apart). THE CARD IS WHAT COUNTS. Prove the row's statement (the work); the ties are given (YtfoniidbkbmjeaaDoorTie.lean); close each card by the builder's one call (the guide's Derived/Test/ToyasCard.lean, 'card_holds'). Laid BY PROGRAM, IN A SANDBOX (cutbox-door.mjs). By AI agents, Wed Nov 11 2026. No macro, syntax, notation, axiom, sorry.
-/
import Derived.Test.YtfoniidbkbmjeaaDoorRows
import GoSem.ClaimSeven
namespace Go.Proofs.YtfoniidbkbmjeaaDoor
namespace Rows

/-- THE TIED CARD OF 'rootcellarlaw17.StreamPuts'. -/
def streamPutsCard : Claim7 := { stood := { row := streamPutsRow, standIns := [], harness := (true, "53c0a773714106d62894e55ad67a0e310ab16b5417f69cd9c2a47e2f61f32ed4"), looks := false }, kinds := [], alts := [], laidByText := true, laidKinds := [.data, .pinned], laidTests := true, laidLooks := .later }
def StreamPutsCardSaid : Prop := Claim7.holds Tryd.pinned (.plain (OpenSpec.ofChange streamPutsSpec)) streamPutsCard

/-- THE TIED CARD OF 'rootcellarlaw17.StreamSizes'. -/
def streamSizesCard : Claim7 := { stood := { row := streamSizesRow, standIns := [], harness := (true, "53c0a773714106d62894e55ad67a0e310ab16b5417f69cd9c2a47e2f61f32ed4"), looks := false }, kinds := [], alts := [], laidByText := true, laidKinds := [.data, .pinned], laidTests := true, laidLooks := .later }
def StreamSizesCardSaid : Prop := Claim7.holds Tryd.pinned (.plain (OpenSpec.ofChange streamSizesSpec)) streamSizesCard

/-- THE TIED CARD OF 'rootcellarlaw17.StreamApart'. -/
def streamApartCard : Claim7 := { stood := { row := streamApartRow, standIns := [], harness := (true, "53c0a773714106d62894e55ad67a0e310ab16b5417f69cd9c2a47e2f61f32ed4"), looks := false }, kinds := [], alts := [], laidByText := true, laidKinds := [.data, .pinned], laidTests := true, laidLooks := .later }
def StreamApartCardSaid : Prop := Claim7.holds Tryd.pinned (.plain (OpenSpec.ofChange streamApartSpec)) streamApartCard

/-- THE TIED CARD OF 'rootcellarlaw17.StreamTakes'. -/
def streamTakesCard : Claim7 := { stood := { row := streamTakesRow, standIns := [], harness := (true, "53c0a773714106d62894e55ad67a0e310ab16b5417f69cd9c2a47e2f61f32ed4"), looks := false }, kinds := [], alts := [], laidByText := true, laidKinds := [.data, .pinned], laidTests := true, laidLooks := .later }
def StreamTakesCardSaid : Prop := Claim7.holds Tryd.pinned (.plain (OpenSpec.ofChange streamTakesSpec)) streamTakesCard

/-- THE TIED CARD OF 'rootcellarlaw17.StreamBack'. -/
def streamBackCard : Claim7 := { stood := { row := streamBackRow, standIns := [], harness := (true, "53c0a773714106d62894e55ad67a0e310ab16b5417f69cd9c2a47e2f61f32ed4"), looks := false }, kinds := [], alts := [], laidByText := true, laidKinds := [.data, .pinned], laidTests := true, laidLooks := .later }
def StreamBackCardSaid : Prop := Claim7.holds Tryd.pinned (.plain (OpenSpec.ofChange streamBackSpec)) streamBackCard

/-- THE TIED CARD OF 'rootcellarlaw17.StreamFinds'. -/
def streamFindsCard : Claim7 := { stood := { row := streamFindsRow, standIns := [], harness := (true, "53c0a773714106d62894e55ad67a0e310ab16b5417f69cd9c2a47e2f61f32ed4"), looks := false }, kinds := [], alts := [], laidByText := true, laidKinds := [.data, .pinned], laidTests := true, laidLooks := .later }
def StreamFindsCardSaid : Prop := Claim7.holds Tryd.pinned (.plain (OpenSpec.ofChange streamFindsSpec)) streamFindsCard

/-- THE SECOND FORM's CARD OF 'rootcellarlaw17.StreamPuts'. -/
def streamPutsUptoCard : Claim7 := { stood := { row := streamPutsUptoRow, standIns := [], harness := (true, "53c0a773714106d62894e55ad67a0e310ab16b5417f69cd9c2a47e2f61f32ed4"), looks := false }, kinds := [], alts := [], laidByText := true, laidKinds := [.data, .pinned], laidTests := true, laidLooks := .later }
def StreamPutsUptoCardSaid : Prop := Claim7.holds Tryd.pinned (.plain (OpenSpec.upto streamPutsSpec)) streamPutsUptoCard

/-- THE SECOND FORM's CARD OF 'rootcellarlaw17.StreamSizes'. -/
def streamSizesUptoCard : Claim7 := { stood := { row := streamSizesUptoRow, standIns := [], harness := (true, "53c0a773714106d62894e55ad67a0e310ab16b5417f69cd9c2a47e2f61f32ed4"), looks := false }, kinds := [], alts := [], laidByText := true, laidKinds := [.data, .pinned], laidTests := true, laidLooks := .later }
def StreamSizesUptoCardSaid : Prop := Claim7.holds Tryd.pinned (.plain (OpenSpec.upto streamSizesSpec)) streamSizesUptoCard

/-- THE SECOND FORM's CARD OF 'rootcellarlaw17.StreamApart'. -/
def streamApartUptoCard : Claim7 := { stood := { row := streamApartUptoRow, standIns := [], harness := (true, "53c0a773714106d62894e55ad67a0e310ab16b5417f69cd9c2a47e2f61f32ed4"), looks := false }, kinds := [], alts := [], laidByText := true, laidKinds := [.data, .pinned], laidTests := true, laidLooks := .later }
def StreamApartUptoCardSaid : Prop := Claim7.holds Tryd.pinned (.plain (OpenSpec.upto streamApartSpec)) streamApartUptoCard

/-- THE SECOND FORM's CARD OF 'rootcellarlaw17.StreamTakes'. -/
def streamTakesUptoCard : Claim7 := { stood := { row := streamTakesUptoRow, standIns := [], harness := (true, "53c0a773714106d62894e55ad67a0e310ab16b5417f69cd9c2a47e2f61f32ed4"), looks := false }, kinds := [], alts := [], laidByText := true, laidKinds := [.data, .pinned], laidTests := true, laidLooks := .later }
def StreamTakesUptoCardSaid : Prop := Claim7.holds Tryd.pinned (.plain (OpenSpec.upto streamTakesSpec)) streamTakesUptoCard

/-- THE SECOND FORM's CARD OF 'rootcellarlaw17.StreamBack'. -/
def streamBackUptoCard : Claim7 := { stood := { row := streamBackUptoRow, standIns := [], harness := (true, "53c0a773714106d62894e55ad67a0e310ab16b5417f69cd9c2a47e2f61f32ed4"), looks := false }, kinds := [], alts := [], laidByText := true, laidKinds := [.data, .pinned], laidTests := true, laidLooks := .later }
def StreamBackUptoCardSaid : Prop := Claim7.holds Tryd.pinned (.plain (OpenSpec.upto streamBackSpec)) streamBackUptoCard

/-- THE SECOND FORM's CARD OF 'rootcellarlaw17.StreamFinds'. -/
def streamFindsUptoCard : Claim7 := { stood := { row := streamFindsUptoRow, standIns := [], harness := (true, "53c0a773714106d62894e55ad67a0e310ab16b5417f69cd9c2a47e2f61f32ed4"), looks := false }, kinds := [], alts := [], laidByText := true, laidKinds := [.data, .pinned], laidTests := true, laidLooks := .later }
def StreamFindsUptoCardSaid : Prop := Claim7.holds Tryd.pinned (.plain (OpenSpec.upto streamFindsSpec)) streamFindsUptoCard
end Rows
end Go.Proofs.YtfoniidbkbmjeaaDoor
