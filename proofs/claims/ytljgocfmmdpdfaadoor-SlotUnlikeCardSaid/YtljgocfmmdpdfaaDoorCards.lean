/-
  DERIVED. GIVEN WITH THE SEED: THE CARDS: each row of YtljgocfmmdpdfaaDoorRows.lean that lists a variable, with what it lists TIED to the program's text (the seventh form; the later family's looks); each row that meets fmt, with fmt's text TOLD by the authors' own Lean function (tested against real Go, not proved from fmt's source: count such statements apart). THE CARD IS WHAT COUNTS. Prove the row's statement (the work); the ties are given (YtljgocfmmdpdfaaDoorTie.lean); close each card by the builder's one call (the guide's Derived/Test/ToyasCard.lean, 'card_holds'). Laid BY PROGRAM, IN A SANDBOX (cutbox-door.mjs). By AI agents, Wed Nov 11 2026. No macro, syntax, notation, axiom, sorry.
-/
import Derived.Test.YtljgocfmmdpdfaaDoorRows
import GoSem.ClaimSeven
namespace Go.Proofs.YtljgocfmmdpdfaaDoor
namespace Rows

/-- THE TIED CARD OF 'coachhouselaw07.SlotEncodes'. -/
def slotEncodesCard : Claim7 := { stood := { row := slotEncodesRow, standIns := [], harness := (true, "724b2f814feb4b9067872155d1ebfefa5076c483132b34856884e12f7c378353"), looks := false }, kinds := [], alts := [], laidByText := true, laidKinds := [.data], laidTests := true, laidLooks := .later }
def SlotEncodesCardSaid : Prop := Claim7.holds Tryd.pinned (.plain (OpenSpec.ofChange slotEncodesSpec)) slotEncodesCard

/-- THE TIED CARD OF 'coachhouselaw07.SlotDecodes'. -/
def slotDecodesCard : Claim7 := { stood := { row := slotDecodesRow, standIns := [], harness := (true, "724b2f814feb4b9067872155d1ebfefa5076c483132b34856884e12f7c378353"), looks := false }, kinds := [], alts := [], laidByText := true, laidKinds := [.data], laidTests := true, laidLooks := .later }
def SlotDecodesCardSaid : Prop := Claim7.holds Tryd.pinned (.plain (OpenSpec.ofChange slotDecodesSpec)) slotDecodesCard

/-- THE TIED CARD OF 'coachhouselaw07.SlotBack'. -/
def slotBackCard : Claim7 := { stood := { row := slotBackRow, standIns := [], harness := (true, "724b2f814feb4b9067872155d1ebfefa5076c483132b34856884e12f7c378353"), looks := false }, kinds := [], alts := [], laidByText := true, laidKinds := [.data], laidTests := true, laidLooks := .later }
def SlotBackCardSaid : Prop := Claim7.holds Tryd.pinned (.plain (OpenSpec.ofChange slotBackSpec)) slotBackCard

/-- THE TIED CARD OF 'coachhouselaw07.SlotUnlike'. -/
def slotUnlikeCard : Claim7 := { stood := { row := slotUnlikeRow, standIns := [], harness := (true, "724b2f814feb4b9067872155d1ebfefa5076c483132b34856884e12f7c378353"), looks := false }, kinds := [], alts := [], laidByText := true, laidKinds := [.data], laidTests := true, laidLooks := .later }
def SlotUnlikeCardSaid : Prop := Claim7.holds Tryd.pinned (.plain (OpenSpec.ofChange slotUnlikeSpec)) slotUnlikeCard

/-- THE TIED CARD OF 'coachhouselaw07.SlotParts'. -/
def slotPartsCard : Claim7 := { stood := { row := slotPartsRow, standIns := [], harness := (true, "724b2f814feb4b9067872155d1ebfefa5076c483132b34856884e12f7c378353"), looks := false }, kinds := [], alts := [], laidByText := true, laidKinds := [.data], laidTests := true, laidLooks := .later }
def SlotPartsCardSaid : Prop := Claim7.holds Tryd.pinned (.plain (OpenSpec.ofChange slotPartsSpec)) slotPartsCard

/-- THE SECOND FORM's CARD OF 'coachhouselaw07.SlotEncodes'. -/
def slotEncodesUptoCard : Claim7 := { stood := { row := slotEncodesUptoRow, standIns := [], harness := (true, "724b2f814feb4b9067872155d1ebfefa5076c483132b34856884e12f7c378353"), looks := false }, kinds := [], alts := [], laidByText := true, laidKinds := [.data], laidTests := true, laidLooks := .later }
def SlotEncodesUptoCardSaid : Prop := Claim7.holds Tryd.pinned (.plain (OpenSpec.upto slotEncodesSpec)) slotEncodesUptoCard

/-- THE SECOND FORM's CARD OF 'coachhouselaw07.SlotDecodes'. -/
def slotDecodesUptoCard : Claim7 := { stood := { row := slotDecodesUptoRow, standIns := [], harness := (true, "724b2f814feb4b9067872155d1ebfefa5076c483132b34856884e12f7c378353"), looks := false }, kinds := [], alts := [], laidByText := true, laidKinds := [.data], laidTests := true, laidLooks := .later }
def SlotDecodesUptoCardSaid : Prop := Claim7.holds Tryd.pinned (.plain (OpenSpec.upto slotDecodesSpec)) slotDecodesUptoCard

/-- THE SECOND FORM's CARD OF 'coachhouselaw07.SlotBack'. -/
def slotBackUptoCard : Claim7 := { stood := { row := slotBackUptoRow, standIns := [], harness := (true, "724b2f814feb4b9067872155d1ebfefa5076c483132b34856884e12f7c378353"), looks := false }, kinds := [], alts := [], laidByText := true, laidKinds := [.data], laidTests := true, laidLooks := .later }
def SlotBackUptoCardSaid : Prop := Claim7.holds Tryd.pinned (.plain (OpenSpec.upto slotBackSpec)) slotBackUptoCard

/-- THE SECOND FORM's CARD OF 'coachhouselaw07.SlotUnlike'. -/
def slotUnlikeUptoCard : Claim7 := { stood := { row := slotUnlikeUptoRow, standIns := [], harness := (true, "724b2f814feb4b9067872155d1ebfefa5076c483132b34856884e12f7c378353"), looks := false }, kinds := [], alts := [], laidByText := true, laidKinds := [.data], laidTests := true, laidLooks := .later }
def SlotUnlikeUptoCardSaid : Prop := Claim7.holds Tryd.pinned (.plain (OpenSpec.upto slotUnlikeSpec)) slotUnlikeUptoCard

/-- THE SECOND FORM's CARD OF 'coachhouselaw07.SlotParts'. -/
def slotPartsUptoCard : Claim7 := { stood := { row := slotPartsUptoRow, standIns := [], harness := (true, "724b2f814feb4b9067872155d1ebfefa5076c483132b34856884e12f7c378353"), looks := false }, kinds := [], alts := [], laidByText := true, laidKinds := [.data], laidTests := true, laidLooks := .later }
def SlotPartsUptoCardSaid : Prop := Claim7.holds Tryd.pinned (.plain (OpenSpec.upto slotPartsSpec)) slotPartsUptoCard
end Rows
end Go.Proofs.YtljgocfmmdpdfaaDoor
