/-
  DERIVED. GIVEN WITH THE SEED: THE CARDS: each row of YtcakklnacnnlaaaDoorRows.lean that lists a variable, with what it lists TIED to the program's text (the seventh form; the later family's looks); each row that meets fmt, with fmt's text TOLD by the authors' own Lean function (tested against real Go, not proved from fmt's source: count such statements apart). THE CARD IS WHAT COUNTS. Prove the row's statement (the work); the ties are given (YtcakklnacnnlaaaDoorTie.lean); close each card by the builder's one call (the guide's Derived/Test/ToyasCard.lean, 'card_holds'). Laid BY PROGRAM, IN A SANDBOX (cutbox-door.mjs). By AI agents, Wed Nov 11 2026. No macro, syntax, notation, axiom, sorry.
-/
import Derived.Test.YtcakklnacnnlaaaDoorRows
import GoSem.ClaimSeven
namespace Go.Proofs.YtcakklnacnnlaaaDoor
namespace Rows

/-- THE TIED CARD OF 'coachhouselaw14.FindFits'. -/
def findFitsCard : Claim7 := { stood := { row := findFitsRow, standIns := [], harness := (true, "7cf1a77d9ec8573d8df9a66ec7ed207e42a59d8c0a49aac4d104fdf8a242e1ea"), looks := false }, kinds := [], alts := [], laidByText := true, laidKinds := [.data], laidTests := true, laidLooks := .later }
def FindFitsCardSaid : Prop := Claim7.holds Tryd.pinned (.plain (OpenSpec.ofChange findFitsSpec)) findFitsCard

/-- THE TIED CARD OF 'coachhouselaw14.FindKinds'. -/
def findKindsCard : Claim7 := { stood := { row := findKindsRow, standIns := [], harness := (true, "7cf1a77d9ec8573d8df9a66ec7ed207e42a59d8c0a49aac4d104fdf8a242e1ea"), looks := false }, kinds := [], alts := [], laidByText := true, laidKinds := [.data], laidTests := true, laidLooks := .later }
def FindKindsCardSaid : Prop := Claim7.holds Tryd.pinned (.plain (OpenSpec.ofChange findKindsSpec)) findKindsCard

/-- THE TIED CARD OF 'coachhouselaw14.FindFrom'. -/
def findFromCard : Claim7 := { stood := { row := findFromRow, standIns := [], harness := (true, "7cf1a77d9ec8573d8df9a66ec7ed207e42a59d8c0a49aac4d104fdf8a242e1ea"), looks := false }, kinds := [], alts := [], laidByText := true, laidKinds := [.data], laidTests := true, laidLooks := .later }
def FindFromCardSaid : Prop := Claim7.holds Tryd.pinned (.plain (OpenSpec.ofChange findFromSpec)) findFromCard

/-- THE TIED CARD OF 'coachhouselaw14.FindWas'. -/
def findWasCard : Claim7 := { stood := { row := findWasRow, standIns := [], harness := (true, "7cf1a77d9ec8573d8df9a66ec7ed207e42a59d8c0a49aac4d104fdf8a242e1ea"), looks := false }, kinds := [], alts := [], laidByText := true, laidKinds := [.data], laidTests := true, laidLooks := .later }
def FindWasCardSaid : Prop := Claim7.holds Tryd.pinned (.plain (OpenSpec.ofChange findWasSpec)) findWasCard

/-- THE TIED CARD OF 'coachhouselaw14.FindFirst'. -/
def findFirstCard : Claim7 := { stood := { row := findFirstRow, standIns := [], harness := (true, "7cf1a77d9ec8573d8df9a66ec7ed207e42a59d8c0a49aac4d104fdf8a242e1ea"), looks := false }, kinds := [], alts := [], laidByText := true, laidKinds := [.data], laidTests := true, laidLooks := .later }
def FindFirstCardSaid : Prop := Claim7.holds Tryd.pinned (.plain (OpenSpec.ofChange findFirstSpec)) findFirstCard

/-- THE TIED CARD OF 'coachhouselaw14.FindPlays'. -/
def findPlaysCard : Claim7 := { stood := { row := findPlaysRow, standIns := [], harness := (true, "7cf1a77d9ec8573d8df9a66ec7ed207e42a59d8c0a49aac4d104fdf8a242e1ea"), looks := false }, kinds := [], alts := [], laidByText := true, laidKinds := [.data], laidTests := true, laidLooks := .later }
def FindPlaysCardSaid : Prop := Claim7.holds Tryd.pinned (.plain (OpenSpec.ofChange findPlaysSpec)) findPlaysCard

/-- THE TIED CARD OF 'coachhouselaw16.RetireAges'. -/
def retireAgesCard : Claim7 := { stood := { row := retireAgesRow, standIns := [], harness := (true, "7cf1a77d9ec8573d8df9a66ec7ed207e42a59d8c0a49aac4d104fdf8a242e1ea"), looks := false }, kinds := [], alts := [], laidByText := true, laidKinds := [.data], laidTests := true, laidLooks := .later }
def RetireAgesCardSaid : Prop := Claim7.holds Tryd.pinned (.plain (OpenSpec.ofChange retireAgesSpec)) retireAgesCard

/-- THE TIED CARD OF 'coachhouselaw16.RetireOne'. -/
def retireOneCard : Claim7 := { stood := { row := retireOneRow, standIns := [], harness := (true, "7cf1a77d9ec8573d8df9a66ec7ed207e42a59d8c0a49aac4d104fdf8a242e1ea"), looks := false }, kinds := [], alts := [], laidByText := true, laidKinds := [.data], laidTests := true, laidLooks := .later }
def RetireOneCardSaid : Prop := Claim7.holds Tryd.pinned (.plain (OpenSpec.ofChange retireOneSpec)) retireOneCard

/-- THE TIED CARD OF 'coachhouselaw16.RetireKeeps'. -/
def retireKeepsCard : Claim7 := { stood := { row := retireKeepsRow, standIns := [], harness := (true, "7cf1a77d9ec8573d8df9a66ec7ed207e42a59d8c0a49aac4d104fdf8a242e1ea"), looks := false }, kinds := [], alts := [], laidByText := true, laidKinds := [.data], laidTests := true, laidLooks := .later }
def RetireKeepsCardSaid : Prop := Claim7.holds Tryd.pinned (.plain (OpenSpec.ofChange retireKeepsSpec)) retireKeepsCard

/-- THE TIED CARD OF 'coachhouselaw16.RetirePlays'. -/
def retirePlaysCard : Claim7 := { stood := { row := retirePlaysRow, standIns := [], harness := (true, "7cf1a77d9ec8573d8df9a66ec7ed207e42a59d8c0a49aac4d104fdf8a242e1ea"), looks := false }, kinds := [], alts := [], laidByText := true, laidKinds := [.data], laidTests := true, laidLooks := .later }
def RetirePlaysCardSaid : Prop := Claim7.holds Tryd.pinned (.plain (OpenSpec.ofChange retirePlaysSpec)) retirePlaysCard

/-- THE SECOND FORM's CARD OF 'coachhouselaw14.FindFits'. -/
def findFitsUptoCard : Claim7 := { stood := { row := findFitsUptoRow, standIns := [], harness := (true, "7cf1a77d9ec8573d8df9a66ec7ed207e42a59d8c0a49aac4d104fdf8a242e1ea"), looks := false }, kinds := [], alts := [], laidByText := true, laidKinds := [.data], laidTests := true, laidLooks := .later }
def FindFitsUptoCardSaid : Prop := Claim7.holds Tryd.pinned (.plain (OpenSpec.upto findFitsSpec)) findFitsUptoCard

/-- THE SECOND FORM's CARD OF 'coachhouselaw14.FindKinds'. -/
def findKindsUptoCard : Claim7 := { stood := { row := findKindsUptoRow, standIns := [], harness := (true, "7cf1a77d9ec8573d8df9a66ec7ed207e42a59d8c0a49aac4d104fdf8a242e1ea"), looks := false }, kinds := [], alts := [], laidByText := true, laidKinds := [.data], laidTests := true, laidLooks := .later }
def FindKindsUptoCardSaid : Prop := Claim7.holds Tryd.pinned (.plain (OpenSpec.upto findKindsSpec)) findKindsUptoCard

/-- THE SECOND FORM's CARD OF 'coachhouselaw14.FindFrom'. -/
def findFromUptoCard : Claim7 := { stood := { row := findFromUptoRow, standIns := [], harness := (true, "7cf1a77d9ec8573d8df9a66ec7ed207e42a59d8c0a49aac4d104fdf8a242e1ea"), looks := false }, kinds := [], alts := [], laidByText := true, laidKinds := [.data], laidTests := true, laidLooks := .later }
def FindFromUptoCardSaid : Prop := Claim7.holds Tryd.pinned (.plain (OpenSpec.upto findFromSpec)) findFromUptoCard

/-- THE SECOND FORM's CARD OF 'coachhouselaw14.FindWas'. -/
def findWasUptoCard : Claim7 := { stood := { row := findWasUptoRow, standIns := [], harness := (true, "7cf1a77d9ec8573d8df9a66ec7ed207e42a59d8c0a49aac4d104fdf8a242e1ea"), looks := false }, kinds := [], alts := [], laidByText := true, laidKinds := [.data], laidTests := true, laidLooks := .later }
def FindWasUptoCardSaid : Prop := Claim7.holds Tryd.pinned (.plain (OpenSpec.upto findWasSpec)) findWasUptoCard

/-- THE SECOND FORM's CARD OF 'coachhouselaw14.FindFirst'. -/
def findFirstUptoCard : Claim7 := { stood := { row := findFirstUptoRow, standIns := [], harness := (true, "7cf1a77d9ec8573d8df9a66ec7ed207e42a59d8c0a49aac4d104fdf8a242e1ea"), looks := false }, kinds := [], alts := [], laidByText := true, laidKinds := [.data], laidTests := true, laidLooks := .later }
def FindFirstUptoCardSaid : Prop := Claim7.holds Tryd.pinned (.plain (OpenSpec.upto findFirstSpec)) findFirstUptoCard

/-- THE SECOND FORM's CARD OF 'coachhouselaw14.FindPlays'. -/
def findPlaysUptoCard : Claim7 := { stood := { row := findPlaysUptoRow, standIns := [], harness := (true, "7cf1a77d9ec8573d8df9a66ec7ed207e42a59d8c0a49aac4d104fdf8a242e1ea"), looks := false }, kinds := [], alts := [], laidByText := true, laidKinds := [.data], laidTests := true, laidLooks := .later }
def FindPlaysUptoCardSaid : Prop := Claim7.holds Tryd.pinned (.plain (OpenSpec.upto findPlaysSpec)) findPlaysUptoCard

/-- THE SECOND FORM's CARD OF 'coachhouselaw16.RetireAges'. -/
def retireAgesUptoCard : Claim7 := { stood := { row := retireAgesUptoRow, standIns := [], harness := (true, "7cf1a77d9ec8573d8df9a66ec7ed207e42a59d8c0a49aac4d104fdf8a242e1ea"), looks := false }, kinds := [], alts := [], laidByText := true, laidKinds := [.data], laidTests := true, laidLooks := .later }
def RetireAgesUptoCardSaid : Prop := Claim7.holds Tryd.pinned (.plain (OpenSpec.upto retireAgesSpec)) retireAgesUptoCard

/-- THE SECOND FORM's CARD OF 'coachhouselaw16.RetireOne'. -/
def retireOneUptoCard : Claim7 := { stood := { row := retireOneUptoRow, standIns := [], harness := (true, "7cf1a77d9ec8573d8df9a66ec7ed207e42a59d8c0a49aac4d104fdf8a242e1ea"), looks := false }, kinds := [], alts := [], laidByText := true, laidKinds := [.data], laidTests := true, laidLooks := .later }
def RetireOneUptoCardSaid : Prop := Claim7.holds Tryd.pinned (.plain (OpenSpec.upto retireOneSpec)) retireOneUptoCard

/-- THE SECOND FORM's CARD OF 'coachhouselaw16.RetireKeeps'. -/
def retireKeepsUptoCard : Claim7 := { stood := { row := retireKeepsUptoRow, standIns := [], harness := (true, "7cf1a77d9ec8573d8df9a66ec7ed207e42a59d8c0a49aac4d104fdf8a242e1ea"), looks := false }, kinds := [], alts := [], laidByText := true, laidKinds := [.data], laidTests := true, laidLooks := .later }
def RetireKeepsUptoCardSaid : Prop := Claim7.holds Tryd.pinned (.plain (OpenSpec.upto retireKeepsSpec)) retireKeepsUptoCard

/-- THE SECOND FORM's CARD OF 'coachhouselaw16.RetirePlays'. -/
def retirePlaysUptoCard : Claim7 := { stood := { row := retirePlaysUptoRow, standIns := [], harness := (true, "7cf1a77d9ec8573d8df9a66ec7ed207e42a59d8c0a49aac4d104fdf8a242e1ea"), looks := false }, kinds := [], alts := [], laidByText := true, laidKinds := [.data], laidTests := true, laidLooks := .later }
def RetirePlaysUptoCardSaid : Prop := Claim7.holds Tryd.pinned (.plain (OpenSpec.upto retirePlaysSpec)) retirePlaysUptoCard
end Rows
end Go.Proofs.YtcakklnacnnlaaaDoor
