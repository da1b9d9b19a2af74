/-
  DERIVED. GIVEN WITH THE SEED: THE CARDS: each row of YticdookfhphphaaDoorRows.lean that lists a variable, with what it lists TIED to the program's text (the seventh form; the later family's looks); each row that meets fmt, with fmt's text TOLD by the authors' own Lean function (tested against real Go, not proved from fmt's source: count such statements apart). THE CARD IS WHAT COUNTS. Prove the row's statement (the work); the ties are given (YticdookfhphphaaDoorTie.lean); close each card by the builder's one call (the guide's Derived/Test/ToyasCard.lean, 'card_holds'). Laid BY PROGRAM, IN A SANDBOX (cutbox-door.mjs). By AI agents, Wed Nov 11 2026. No macro, syntax, notation, axiom, sorry.
-/
import Derived.Test.YticdookfhphphaaDoorRows
import GoSem.ClaimSeven
namespace Go.Proofs.YticdookfhphphaaDoor
namespace Rows

/-- THE TIED CARD OF 'rootcellarlaw15.DateDays'. -/
def dateDaysCard : Claim7 := { stood := { row := dateDaysRow, standIns := [], harness := (true, "830dfc4143cc8dfa3a56349df5bdd5ceb607141ae04af4e74774ba3a8bb8a4da"), looks := true }, kinds := [], alts := [], laidByText := true, laidKinds := [.data, .data, .data], laidTests := true, laidLooks := .later }
def DateDaysCardSaid : Prop := Claim7.holds Tryd.pinned (.plain (OpenSpec.ofChange dateDaysSpec)) dateDaysCard

/-- THE TIED CARD OF 'rootcellarlaw15.DateYears'. -/
def dateYearsCard : Claim7 := { stood := { row := dateYearsRow, standIns := [], harness := (true, "830dfc4143cc8dfa3a56349df5bdd5ceb607141ae04af4e74774ba3a8bb8a4da"), looks := true }, kinds := [], alts := [], laidByText := true, laidKinds := [.data, .data, .data], laidTests := true, laidLooks := .later }
def DateYearsCardSaid : Prop := Claim7.holds Tryd.pinned (.plain (OpenSpec.ofChange dateYearsSpec)) dateYearsCard

/-- THE TIED CARD OF 'rootcellarlaw15.DateClock'. -/
def dateClockCard : Claim7 := { stood := { row := dateClockRow, standIns := [], harness := (true, "830dfc4143cc8dfa3a56349df5bdd5ceb607141ae04af4e74774ba3a8bb8a4da"), looks := true }, kinds := [], alts := [], laidByText := true, laidKinds := [.data, .data, .data], laidTests := true, laidLooks := .later }
def DateClockCardSaid : Prop := Claim7.holds Tryd.pinned (.plain (OpenSpec.ofChange dateClockSpec)) dateClockCard

/-- THE TIED CARD OF 'rootcellarlaw15.DateBuckets'. -/
def dateBucketsCard : Claim7 := { stood := { row := dateBucketsRow, standIns := [], harness := (true, "830dfc4143cc8dfa3a56349df5bdd5ceb607141ae04af4e74774ba3a8bb8a4da"), looks := true }, kinds := [], alts := [], laidByText := true, laidKinds := [.data, .data, .data], laidTests := true, laidLooks := .later }
def DateBucketsCardSaid : Prop := Claim7.holds Tryd.pinned (.plain (OpenSpec.ofChange dateBucketsSpec)) dateBucketsCard

/-- THE TIED CARD OF 'rootcellarlaw15.DateRises'. -/
def dateRisesCard : Claim7 := { stood := { row := dateRisesRow, standIns := [], harness := (true, "830dfc4143cc8dfa3a56349df5bdd5ceb607141ae04af4e74774ba3a8bb8a4da"), looks := true }, kinds := [], alts := [], laidByText := true, laidKinds := [.data, .data, .data], laidTests := true, laidLooks := .later }
def DateRisesCardSaid : Prop := Claim7.holds Tryd.pinned (.plain (OpenSpec.ofChange dateRisesSpec)) dateRisesCard

/-- THE TIED CARD OF 'rootcellarlaw15.DateStamps'. -/
def dateStampsCard : Claim7 := { stood := { row := dateStampsRow, standIns := [], harness := (true, "830dfc4143cc8dfa3a56349df5bdd5ceb607141ae04af4e74774ba3a8bb8a4da"), looks := true }, kinds := [], alts := [], laidByText := true, laidKinds := [.data, .data, .data], laidTests := true, laidLooks := .later }
def DateStampsCardSaid : Prop := Claim7.holds Tryd.pinned (.plain (OpenSpec.ofChange dateStampsSpec)) dateStampsCard

/-- THE TIED CARD OF 'rootcellarlaw15.DateReads'. -/
def dateReadsCard : Claim7 := { stood := { row := dateReadsRow, standIns := [], harness := (true, "830dfc4143cc8dfa3a56349df5bdd5ceb607141ae04af4e74774ba3a8bb8a4da"), looks := true }, kinds := [], alts := [], laidByText := true, laidKinds := [.data, .data, .data, .data, .sentinel, .sentinel, .pinned], laidTests := true, laidLooks := .later }
def DateReadsCardSaid : Prop := Claim7.holds Tryd.pinned (.plain (OpenSpec.ofChange dateReadsSpec)) dateReadsCard

/-- THE TIED CARD OF 'rootcellarlaw15.DateBack'. -/
def dateBackCard : Claim7 := { stood := { row := dateBackRow, standIns := [], harness := (true, "830dfc4143cc8dfa3a56349df5bdd5ceb607141ae04af4e74774ba3a8bb8a4da"), looks := true }, kinds := [], alts := [], laidByText := true, laidKinds := [.data, .data, .data, .data, .sentinel, .sentinel, .pinned], laidTests := true, laidLooks := .later }
def DateBackCardSaid : Prop := Claim7.holds Tryd.pinned (.plain (OpenSpec.ofChange dateBackSpec)) dateBackCard

/-- THE SECOND FORM's CARD OF 'rootcellarlaw15.DateDays'. -/
def dateDaysUptoCard : Claim7 := { stood := { row := dateDaysUptoRow, standIns := [], harness := (true, "830dfc4143cc8dfa3a56349df5bdd5ceb607141ae04af4e74774ba3a8bb8a4da"), looks := true }, kinds := [], alts := [], laidByText := true, laidKinds := [.data, .data, .data], laidTests := true, laidLooks := .later }
def DateDaysUptoCardSaid : Prop := Claim7.holds Tryd.pinned (.plain (OpenSpec.upto dateDaysSpec)) dateDaysUptoCard

/-- THE SECOND FORM's CARD OF 'rootcellarlaw15.DateYears'. -/
def dateYearsUptoCard : Claim7 := { stood := { row := dateYearsUptoRow, standIns := [], harness := (true, "830dfc4143cc8dfa3a56349df5bdd5ceb607141ae04af4e74774ba3a8bb8a4da"), looks := true }, kinds := [], alts := [], laidByText := true, laidKinds := [.data, .data, .data], laidTests := true, laidLooks := .later }
def DateYearsUptoCardSaid : Prop := Claim7.holds Tryd.pinned (.plain (OpenSpec.upto dateYearsSpec)) dateYearsUptoCard

/-- THE SECOND FORM's CARD OF 'rootcellarlaw15.DateClock'. -/
def dateClockUptoCard : Claim7 := { stood := { row := dateClockUptoRow, standIns := [], harness := (true, "830dfc4143cc8dfa3a56349df5bdd5ceb607141ae04af4e74774ba3a8bb8a4da"), looks := true }, kinds := [], alts := [], laidByText := true, laidKinds := [.data, .data, .data], laidTests := true, laidLooks := .later }
def DateClockUptoCardSaid : Prop := Claim7.holds Tryd.pinned (.plain (OpenSpec.upto dateClockSpec)) dateClockUptoCard

/-- THE SECOND FORM's CARD OF 'rootcellarlaw15.DateBuckets'. -/
def dateBucketsUptoCard : Claim7 := { stood := { row := dateBucketsUptoRow, standIns := [], harness := (true, "830dfc4143cc8dfa3a56349df5bdd5ceb607141ae04af4e74774ba3a8bb8a4da"), looks := true }, kinds := [], alts := [], laidByText := true, laidKinds := [.data, .data, .data], laidTests := true, laidLooks := .later }
def DateBucketsUptoCardSaid : Prop := Claim7.holds Tryd.pinned (.plain (OpenSpec.upto dateBucketsSpec)) dateBucketsUptoCard

/-- THE SECOND FORM's CARD OF 'rootcellarlaw15.DateRises'. -/
def dateRisesUptoCard : Claim7 := { stood := { row := dateRisesUptoRow, standIns := [], harness := (true, "830dfc4143cc8dfa3a56349df5bdd5ceb607141ae04af4e74774ba3a8bb8a4da"), looks := true }, kinds := [], alts := [], laidByText := true, laidKinds := [.data, .data, .data], laidTests := true, laidLooks := .later }
def DateRisesUptoCardSaid : Prop := Claim7.holds Tryd.pinned (.plain (OpenSpec.upto dateRisesSpec)) dateRisesUptoCard

/-- THE SECOND FORM's CARD OF 'rootcellarlaw15.DateStamps'. -/
def dateStampsUptoCard : Claim7 := { stood := { row := dateStampsUptoRow, standIns := [], harness := (true, "830dfc4143cc8dfa3a56349df5bdd5ceb607141ae04af4e74774ba3a8bb8a4da"), looks := true }, kinds := [], alts := [], laidByText := true, laidKinds := [.data, .data, .data], laidTests := true, laidLooks := .later }
def DateStampsUptoCardSaid : Prop := Claim7.holds Tryd.pinned (.plain (OpenSpec.upto dateStampsSpec)) dateStampsUptoCard

/-- THE SECOND FORM's CARD OF 'rootcellarlaw15.DateReads'. -/
def dateReadsUptoCard : Claim7 := { stood := { row := dateReadsUptoRow, standIns := [], harness := (true, "830dfc4143cc8dfa3a56349df5bdd5ceb607141ae04af4e74774ba3a8bb8a4da"), looks := true }, kinds := [], alts := [], laidByText := true, laidKinds := [.data, .data, .data, .data, .sentinel, .sentinel, .pinned], laidTests := true, laidLooks := .later }
def DateReadsUptoCardSaid : Prop := Claim7.holds Tryd.pinned (.plain (OpenSpec.upto dateReadsSpec)) dateReadsUptoCard

/-- THE SECOND FORM's CARD OF 'rootcellarlaw15.DateBack'. -/
def dateBackUptoCard : Claim7 := { stood := { row := dateBackUptoRow, standIns := [], harness := (true, "830dfc4143cc8dfa3a56349df5bdd5ceb607141ae04af4e74774ba3a8bb8a4da"), looks := true }, kinds := [], alts := [], laidByText := true, laidKinds := [.data, .data, .data, .data, .sentinel, .sentinel, .pinned], laidTests := true, laidLooks := .later }
def DateBackUptoCardSaid : Prop := Claim7.holds Tryd.pinned (.plain (OpenSpec.upto dateBackSpec)) dateBackUptoCard
end Rows
end Go.Proofs.YticdookfhphphaaDoor
