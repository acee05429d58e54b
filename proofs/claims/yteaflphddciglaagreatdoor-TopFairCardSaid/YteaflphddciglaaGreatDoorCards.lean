/-
  DERIVED. GIVEN WITH THE SEED: THE CARDS: each row of YteaflphddciglaaGreatDoorRows.lean that lists a variable, with what it lists TIED to the program's text (the seventh form; the later family's looks); each row that meets fmt, with fmt's text TOLD by the authors' own Lean function (tested against real Go, not proved from fmt's source: count such statements apart). THE CARD IS WHAT COUNTS. Prove the row's statement (the work); the ties are given (YteaflphddciglaaGreatDoorTie.lean); close each card by the builder's one call (the guide's Derived/Test/ToyasCard.lean, 'card_holds'). Laid BY PROGRAM, IN A SANDBOX (cutbox-door.mjs). By AI agents, Wed Nov 11 2026. No macro, syntax, notation, axiom, sorry.
-/
import Derived.Test.YteaflphddciglaaGreatDoorRows
import GoSem.ClaimSeven
namespace Go.Proofs.YteaflphddciglaaGreatDoor
namespace Rows

/-- THE TIED CARD OF 'coachhousetop.TopStreams'. -/
def topStreamsCard : Claim7 := { stood := { row := topStreamsRow, standIns := [], harness := (true, "da921db523c78a138c649bcc7b90b5d74a08255aeadb3337f05c32b8381649e3"), looks := false }, kinds := [], alts := [], laidByText := true, laidKinds := [.data, .data, .data], laidTests := true, laidLooks := .later }
def TopStreamsCardSaid : Prop := Claim7.holds Tryz.pinned (.plain (OpenSpec.ofChange topStreamsSpec)) topStreamsCard

/-- THE TIED CARD OF 'coachhousetop.TopFair'. -/
def topFairCard : Claim7 := { stood := { row := topFairRow, standIns := [], harness := (true, "da921db523c78a138c649bcc7b90b5d74a08255aeadb3337f05c32b8381649e3"), looks := false }, kinds := [], alts := [], laidByText := true, laidKinds := [.data, .data, .data], laidTests := true, laidLooks := .later }
def TopFairCardSaid : Prop := Claim7.holds Tryz.pinned (.plain (OpenSpec.ofChange topFairSpec)) topFairCard

/-- THE TIED CARD OF 'coachhousetop.TopClosed'. -/
def topClosedCard : Claim7 := { stood := { row := topClosedRow, standIns := [], harness := (true, "da921db523c78a138c649bcc7b90b5d74a08255aeadb3337f05c32b8381649e3"), looks := false }, kinds := [], alts := [], laidByText := true, laidKinds := [.data, .data, .data], laidTests := true, laidLooks := .later }
def TopClosedCardSaid : Prop := Claim7.holds Tryz.pinned (.plain (OpenSpec.ofChange topClosedSpec)) topClosedCard

/-- THE TIED CARD OF 'coachhousetop.TopTimes'. -/
def topTimesCard : Claim7 := { stood := { row := topTimesRow, standIns := [], harness := (true, "da921db523c78a138c649bcc7b90b5d74a08255aeadb3337f05c32b8381649e3"), looks := false }, kinds := [], alts := [], laidByText := true, laidKinds := [.data, .data, .data], laidTests := true, laidLooks := .later }
def TopTimesCardSaid : Prop := Claim7.holds Tryz.pinned (.plain (OpenSpec.ofChange topTimesSpec)) topTimesCard

/-- THE SECOND FORM's CARD OF 'coachhousetop.TopStreams'. -/
def topStreamsUptoCard : Claim7 := { stood := { row := topStreamsUptoRow, standIns := [], harness := (true, "da921db523c78a138c649bcc7b90b5d74a08255aeadb3337f05c32b8381649e3"), looks := false }, kinds := [], alts := [], laidByText := true, laidKinds := [.data, .data, .data], laidTests := true, laidLooks := .later }
def TopStreamsUptoCardSaid : Prop := Claim7.holds Tryz.pinned (.plain (OpenSpec.upto topStreamsSpec)) topStreamsUptoCard

/-- THE SECOND FORM's CARD OF 'coachhousetop.TopFair'. -/
def topFairUptoCard : Claim7 := { stood := { row := topFairUptoRow, standIns := [], harness := (true, "da921db523c78a138c649bcc7b90b5d74a08255aeadb3337f05c32b8381649e3"), looks := false }, kinds := [], alts := [], laidByText := true, laidKinds := [.data, .data, .data], laidTests := true, laidLooks := .later }
def TopFairUptoCardSaid : Prop := Claim7.holds Tryz.pinned (.plain (OpenSpec.upto topFairSpec)) topFairUptoCard

/-- THE SECOND FORM's CARD OF 'coachhousetop.TopClosed'. -/
def topClosedUptoCard : Claim7 := { stood := { row := topClosedUptoRow, standIns := [], harness := (true, "da921db523c78a138c649bcc7b90b5d74a08255aeadb3337f05c32b8381649e3"), looks := false }, kinds := [], alts := [], laidByText := true, laidKinds := [.data, .data, .data], laidTests := true, laidLooks := .later }
def TopClosedUptoCardSaid : Prop := Claim7.holds Tryz.pinned (.plain (OpenSpec.upto topClosedSpec)) topClosedUptoCard

/-- THE SECOND FORM's CARD OF 'coachhousetop.TopTimes'. -/
def topTimesUptoCard : Claim7 := { stood := { row := topTimesUptoRow, standIns := [], harness := (true, "da921db523c78a138c649bcc7b90b5d74a08255aeadb3337f05c32b8381649e3"), looks := false }, kinds := [], alts := [], laidByText := true, laidKinds := [.data, .data, .data], laidTests := true, laidLooks := .later }
def TopTimesUptoCardSaid : Prop := Claim7.holds Tryz.pinned (.plain (OpenSpec.upto topTimesSpec)) topTimesUptoCard
end Rows
end Go.Proofs.YteaflphddciglaaGreatDoor
