/-
  DERIVED. GIVEN WITH THE SEED: THE CARDS: each row of YthfoljgaiincdaaGreatDoorRows.lean that lists a variable, with what it lists TIED to the program's text (the seventh form; the later family's looks); each row that meets fmt, with fmt's text TOLD by the authors' own Lean function (tested against real Go, not proved from fmt's source: count such statements apart). THE CARD IS WHAT COUNTS. Prove the row's statement (the work); the ties are given (YthfoljgaiincdaaGreatDoorTie.lean); close each card by the builder's one call (the guide's Derived/Test/ToyasCard.lean, 'card_holds'). Laid BY PROGRAM, IN A SANDBOX (cutbox-door.mjs). By AI agents, Wed Nov 11 2026. No macro, syntax, notation, axiom, sorry.
-/
import Derived.Test.YthfoljgaiincdaaGreatDoorRows
import GoSem.ClaimSeven
namespace Go.Proofs.YthfoljgaiincdaaGreatDoor
namespace Rows

/-- THE TIED CARD OF 'coachhouselaw19.StreamPlays'. -/
def streamPlaysCard : Claim7 := { stood := { row := streamPlaysRow, standIns := [], harness := (true, "3c372bf986510cf94c0e4cd72c839a1eb1e1b4cc5d4f3242d80d0230e98484aa"), looks := false }, kinds := [], alts := [], laidByText := true, laidKinds := [.data, .data, .data], laidTests := true, laidLooks := .later }
def StreamPlaysCardSaid : Prop := Claim7.holds Tryz.pinned (.plain (OpenSpec.ofChange streamPlaysSpec)) streamPlaysCard

/-- THE TIED CARD OF 'coachhouselaw18.GivePlays'. -/
def givePlaysCard : Claim7 := { stood := { row := givePlaysRow, standIns := [], harness := (true, "3c372bf986510cf94c0e4cd72c839a1eb1e1b4cc5d4f3242d80d0230e98484aa"), looks := false }, kinds := [], alts := [], laidByText := true, laidKinds := [.data], laidTests := true, laidLooks := .later }
def GivePlaysCardSaid : Prop := Claim7.holds Tryz.pinned (.plain (OpenSpec.ofChange givePlaysSpec)) givePlaysCard

/-- THE SECOND FORM's CARD OF 'coachhouselaw19.StreamPlays'. -/
def streamPlaysUptoCard : Claim7 := { stood := { row := streamPlaysUptoRow, standIns := [], harness := (true, "3c372bf986510cf94c0e4cd72c839a1eb1e1b4cc5d4f3242d80d0230e98484aa"), looks := false }, kinds := [], alts := [], laidByText := true, laidKinds := [.data, .data, .data], laidTests := true, laidLooks := .later }
def StreamPlaysUptoCardSaid : Prop := Claim7.holds Tryz.pinned (.plain (OpenSpec.upto streamPlaysSpec)) streamPlaysUptoCard

/-- THE SECOND FORM's CARD OF 'coachhouselaw18.GivePlays'. -/
def givePlaysUptoCard : Claim7 := { stood := { row := givePlaysUptoRow, standIns := [], harness := (true, "3c372bf986510cf94c0e4cd72c839a1eb1e1b4cc5d4f3242d80d0230e98484aa"), looks := false }, kinds := [], alts := [], laidByText := true, laidKinds := [.data], laidTests := true, laidLooks := .later }
def GivePlaysUptoCardSaid : Prop := Claim7.holds Tryz.pinned (.plain (OpenSpec.upto givePlaysSpec)) givePlaysUptoCard
end Rows
end Go.Proofs.YthfoljgaiincdaaGreatDoor
