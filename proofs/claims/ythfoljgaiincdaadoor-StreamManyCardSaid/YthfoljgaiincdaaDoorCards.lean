/-
  DERIVED. GIVEN WITH THE SEED: THE CARDS: each row of YthfoljgaiincdaaDoorRows.lean that lists a variable, with what it lists TIED to the program's text (the seventh form; the later family's looks); each row that meets fmt, with fmt's text TOLD by the authors' own Lean function (tested against real Go, not proved from fmt's source: count such statements apart). THE CARD IS WHAT COUNTS. Prove the row's statement (the work); the ties are given (YthfoljgaiincdaaDoorTie.lean); close each card by the builder's one call (the guide's Derived/Test/ToyasCard.lean, 'card_holds'). Laid BY PROGRAM, IN A SANDBOX (cutbox-door.mjs). By AI agents, Wed Nov 11 2026. No macro, syntax, notation, axiom, sorry.
-/
import Derived.Test.YthfoljgaiincdaaDoorRows
import GoSem.ClaimSeven
namespace Go.Proofs.YthfoljgaiincdaaDoor
namespace Rows

/-- THE TIED CARD OF 'coachhouselaw12.ConfTells'. -/
def confTellsCard : Claim7 := { stood := { row := confTellsRow, standIns := [], harness := (true, "a377572c15abfa81865006e96214e097f6e37c64c179ad42364a174bcf241ef0"), looks := false }, kinds := [], alts := [], laidByText := true, laidKinds := [.data], laidTests := true, laidLooks := .later }
def ConfTellsCardSaid : Prop := Claim7.holds Tryd.pinned (.plain (OpenSpec.ofChange confTellsSpec)) confTellsCard

/-- THE TIED CARD OF 'coachhouselaw12.ConfApart'. -/
def confApartCard : Claim7 := { stood := { row := confApartRow, standIns := [], harness := (true, "a377572c15abfa81865006e96214e097f6e37c64c179ad42364a174bcf241ef0"), looks := false }, kinds := [], alts := [], laidByText := true, laidKinds := [.data], laidTests := true, laidLooks := .later }
def ConfApartCardSaid : Prop := Claim7.holds Tryd.pinned (.plain (OpenSpec.ofChange confApartSpec)) confApartCard

/-- THE TIED CARD OF 'coachhouselaw12.ConfMore'. -/
def confMoreCard : Claim7 := { stood := { row := confMoreRow, standIns := [], harness := (true, "a377572c15abfa81865006e96214e097f6e37c64c179ad42364a174bcf241ef0"), looks := false }, kinds := [], alts := [], laidByText := true, laidKinds := [.data], laidTests := true, laidLooks := .later }
def ConfMoreCardSaid : Prop := Claim7.holds Tryd.pinned (.plain (OpenSpec.ofChange confMoreSpec)) confMoreCard

/-- THE TIED CARD OF 'coachhouselaw12.ConfSlots'. -/
def confSlotsCard : Claim7 := { stood := { row := confSlotsRow, standIns := [], harness := (true, "a377572c15abfa81865006e96214e097f6e37c64c179ad42364a174bcf241ef0"), looks := false }, kinds := [], alts := [], laidByText := true, laidKinds := [.data], laidTests := true, laidLooks := .later }
def ConfSlotsCardSaid : Prop := Claim7.holds Tryd.pinned (.plain (OpenSpec.ofChange confSlotsSpec)) confSlotsCard

/-- THE TIED CARD OF 'coachhouselaw19.StreamRace'. -/
def streamRaceCard : Claim7 := { stood := { row := streamRaceRow, standIns := [], harness := (true, "a377572c15abfa81865006e96214e097f6e37c64c179ad42364a174bcf241ef0"), looks := false }, kinds := [], alts := [], laidByText := true, laidKinds := [.data, .data, .data], laidTests := true, laidLooks := .later }
def StreamRaceCardSaid : Prop := Claim7.holds Tryd.pinned (.plain (OpenSpec.ofChange streamRaceSpec)) streamRaceCard

/-- THE TIED CARD OF 'coachhouselaw19.StreamMany'. -/
def streamManyCard : Claim7 := { stood := { row := streamManyRow, standIns := [], harness := (true, "a377572c15abfa81865006e96214e097f6e37c64c179ad42364a174bcf241ef0"), looks := false }, kinds := [], alts := [], laidByText := true, laidKinds := [.data, .data, .data], laidTests := true, laidLooks := .later }
def StreamManyCardSaid : Prop := Claim7.holds Tryd.pinned (.plain (OpenSpec.ofChange streamManySpec)) streamManyCard

/-- THE TIED CARD OF 'coachhouselaw19.StreamStranger'. -/
def streamStrangerCard : Claim7 := { stood := { row := streamStrangerRow, standIns := [], harness := (true, "a377572c15abfa81865006e96214e097f6e37c64c179ad42364a174bcf241ef0"), looks := false }, kinds := [], alts := [], laidByText := true, laidKinds := [.data, .data, .data], laidTests := true, laidLooks := .later }
def StreamStrangerCardSaid : Prop := Claim7.holds Tryd.pinned (.plain (OpenSpec.ofChange streamStrangerSpec)) streamStrangerCard

/-- THE TIED CARD OF 'coachhouselaw18.GiveRace'. -/
def giveRaceCard : Claim7 := { stood := { row := giveRaceRow, standIns := [], harness := (true, "a377572c15abfa81865006e96214e097f6e37c64c179ad42364a174bcf241ef0"), looks := false }, kinds := [], alts := [], laidByText := true, laidKinds := [.data], laidTests := true, laidLooks := .later }
def GiveRaceCardSaid : Prop := Claim7.holds Tryd.pinned (.plain (OpenSpec.ofChange giveRaceSpec)) giveRaceCard

/-- THE TIED CARD OF 'coachhouselaw18.GiveOnce'. -/
def giveOnceCard : Claim7 := { stood := { row := giveOnceRow, standIns := [], harness := (true, "a377572c15abfa81865006e96214e097f6e37c64c179ad42364a174bcf241ef0"), looks := false }, kinds := [], alts := [], laidByText := true, laidKinds := [.data], laidTests := true, laidLooks := .later }
def GiveOnceCardSaid : Prop := Claim7.holds Tryd.pinned (.plain (OpenSpec.ofChange giveOnceSpec)) giveOnceCard

/-- THE TIED CARD OF 'coachhouselaw18.GiveStranger'. -/
def giveStrangerCard : Claim7 := { stood := { row := giveStrangerRow, standIns := [], harness := (true, "a377572c15abfa81865006e96214e097f6e37c64c179ad42364a174bcf241ef0"), looks := false }, kinds := [], alts := [], laidByText := true, laidKinds := [.data], laidTests := true, laidLooks := .later }
def GiveStrangerCardSaid : Prop := Claim7.holds Tryd.pinned (.plain (OpenSpec.ofChange giveStrangerSpec)) giveStrangerCard

/-- THE SECOND FORM's CARD OF 'coachhouselaw12.ConfTells'. -/
def confTellsUptoCard : Claim7 := { stood := { row := confTellsUptoRow, standIns := [], harness := (true, "a377572c15abfa81865006e96214e097f6e37c64c179ad42364a174bcf241ef0"), looks := false }, kinds := [], alts := [], laidByText := true, laidKinds := [.data], laidTests := true, laidLooks := .later }
def ConfTellsUptoCardSaid : Prop := Claim7.holds Tryd.pinned (.plain (OpenSpec.upto confTellsSpec)) confTellsUptoCard

/-- THE SECOND FORM's CARD OF 'coachhouselaw12.ConfApart'. -/
def confApartUptoCard : Claim7 := { stood := { row := confApartUptoRow, standIns := [], harness := (true, "a377572c15abfa81865006e96214e097f6e37c64c179ad42364a174bcf241ef0"), looks := false }, kinds := [], alts := [], laidByText := true, laidKinds := [.data], laidTests := true, laidLooks := .later }
def ConfApartUptoCardSaid : Prop := Claim7.holds Tryd.pinned (.plain (OpenSpec.upto confApartSpec)) confApartUptoCard

/-- THE SECOND FORM's CARD OF 'coachhouselaw12.ConfMore'. -/
def confMoreUptoCard : Claim7 := { stood := { row := confMoreUptoRow, standIns := [], harness := (true, "a377572c15abfa81865006e96214e097f6e37c64c179ad42364a174bcf241ef0"), looks := false }, kinds := [], alts := [], laidByText := true, laidKinds := [.data], laidTests := true, laidLooks := .later }
def ConfMoreUptoCardSaid : Prop := Claim7.holds Tryd.pinned (.plain (OpenSpec.upto confMoreSpec)) confMoreUptoCard

/-- THE SECOND FORM's CARD OF 'coachhouselaw12.ConfSlots'. -/
def confSlotsUptoCard : Claim7 := { stood := { row := confSlotsUptoRow, standIns := [], harness := (true, "a377572c15abfa81865006e96214e097f6e37c64c179ad42364a174bcf241ef0"), looks := false }, kinds := [], alts := [], laidByText := true, laidKinds := [.data], laidTests := true, laidLooks := .later }
def ConfSlotsUptoCardSaid : Prop := Claim7.holds Tryd.pinned (.plain (OpenSpec.upto confSlotsSpec)) confSlotsUptoCard

/-- THE SECOND FORM's CARD OF 'coachhouselaw19.StreamRace'. -/
def streamRaceUptoCard : Claim7 := { stood := { row := streamRaceUptoRow, standIns := [], harness := (true, "a377572c15abfa81865006e96214e097f6e37c64c179ad42364a174bcf241ef0"), looks := false }, kinds := [], alts := [], laidByText := true, laidKinds := [.data, .data, .data], laidTests := true, laidLooks := .later }
def StreamRaceUptoCardSaid : Prop := Claim7.holds Tryd.pinned (.plain (OpenSpec.upto streamRaceSpec)) streamRaceUptoCard

/-- THE SECOND FORM's CARD OF 'coachhouselaw19.StreamMany'. -/
def streamManyUptoCard : Claim7 := { stood := { row := streamManyUptoRow, standIns := [], harness := (true, "a377572c15abfa81865006e96214e097f6e37c64c179ad42364a174bcf241ef0"), looks := false }, kinds := [], alts := [], laidByText := true, laidKinds := [.data, .data, .data], laidTests := true, laidLooks := .later }
def StreamManyUptoCardSaid : Prop := Claim7.holds Tryd.pinned (.plain (OpenSpec.upto streamManySpec)) streamManyUptoCard

/-- THE SECOND FORM's CARD OF 'coachhouselaw19.StreamStranger'. -/
def streamStrangerUptoCard : Claim7 := { stood := { row := streamStrangerUptoRow, standIns := [], harness := (true, "a377572c15abfa81865006e96214e097f6e37c64c179ad42364a174bcf241ef0"), looks := false }, kinds := [], alts := [], laidByText := true, laidKinds := [.data, .data, .data], laidTests := true, laidLooks := .later }
def StreamStrangerUptoCardSaid : Prop := Claim7.holds Tryd.pinned (.plain (OpenSpec.upto streamStrangerSpec)) streamStrangerUptoCard

/-- THE SECOND FORM's CARD OF 'coachhouselaw18.GiveRace'. -/
def giveRaceUptoCard : Claim7 := { stood := { row := giveRaceUptoRow, standIns := [], harness := (true, "a377572c15abfa81865006e96214e097f6e37c64c179ad42364a174bcf241ef0"), looks := false }, kinds := [], alts := [], laidByText := true, laidKinds := [.data], laidTests := true, laidLooks := .later }
def GiveRaceUptoCardSaid : Prop := Claim7.holds Tryd.pinned (.plain (OpenSpec.upto giveRaceSpec)) giveRaceUptoCard

/-- THE SECOND FORM's CARD OF 'coachhouselaw18.GiveOnce'. -/
def giveOnceUptoCard : Claim7 := { stood := { row := giveOnceUptoRow, standIns := [], harness := (true, "a377572c15abfa81865006e96214e097f6e37c64c179ad42364a174bcf241ef0"), looks := false }, kinds := [], alts := [], laidByText := true, laidKinds := [.data], laidTests := true, laidLooks := .later }
def GiveOnceUptoCardSaid : Prop := Claim7.holds Tryd.pinned (.plain (OpenSpec.upto giveOnceSpec)) giveOnceUptoCard

/-- THE SECOND FORM's CARD OF 'coachhouselaw18.GiveStranger'. -/
def giveStrangerUptoCard : Claim7 := { stood := { row := giveStrangerUptoRow, standIns := [], harness := (true, "a377572c15abfa81865006e96214e097f6e37c64c179ad42364a174bcf241ef0"), looks := false }, kinds := [], alts := [], laidByText := true, laidKinds := [.data], laidTests := true, laidLooks := .later }
def GiveStrangerUptoCardSaid : Prop := Claim7.holds Tryd.pinned (.plain (OpenSpec.upto giveStrangerSpec)) giveStrangerUptoCard
end Rows
end Go.Proofs.YthfoljgaiincdaaDoor
