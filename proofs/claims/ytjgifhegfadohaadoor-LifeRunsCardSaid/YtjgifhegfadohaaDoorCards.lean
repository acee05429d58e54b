/-
  DERIVED. GIVEN WITH THE SEED: THE CARDS: each row of YtjgifhegfadohaaDoorRows.lean that lists a variable, with what it lists TIED to the program's text (the seventh form; the later family's looks); each row that meets fmt, with fmt's text TOLD by the authors' own Lean function (tested against real Go, not proved from fmt's source: count such statements apart). THE CARD IS WHAT COUNTS. Prove the row's statement (the work); the ties are given (YtjgifhegfadohaaDoorTie.lean); close each card by the builder's one call (the guide's Derived/Test/ToyasCard.lean, 'card_holds'). Laid BY PROGRAM, IN A SANDBOX (cutbox-door.mjs). By AI agents, Wed Nov 11 2026. No macro, syntax, notation, axiom, sorry.
-/
import Derived.Test.YtjgifhegfadohaaDoorRows
import GoSem.ClaimSeven
namespace Go.Proofs.YtjgifhegfadohaaDoor
namespace Rows

/-- THE TIED CARD OF 'coachhouselaw12.ConfTells'. -/
def confTellsCard : Claim7 := { stood := { row := confTellsRow, standIns := [], harness := (true, "72d840ac2c57cec2964424c357da6dccb433c640753cc12310363cf1f06f690d"), looks := false }, kinds := [], alts := [], laidByText := true, laidKinds := [.data], laidTests := true, laidLooks := .later }
def ConfTellsCardSaid : Prop := Claim7.holds Tryd.pinned (.plain (OpenSpec.ofChange confTellsSpec)) confTellsCard

/-- THE TIED CARD OF 'coachhouselaw12.ConfApart'. -/
def confApartCard : Claim7 := { stood := { row := confApartRow, standIns := [], harness := (true, "72d840ac2c57cec2964424c357da6dccb433c640753cc12310363cf1f06f690d"), looks := false }, kinds := [], alts := [], laidByText := true, laidKinds := [.data], laidTests := true, laidLooks := .later }
def ConfApartCardSaid : Prop := Claim7.holds Tryd.pinned (.plain (OpenSpec.ofChange confApartSpec)) confApartCard

/-- THE TIED CARD OF 'coachhouselaw12.ConfMore'. -/
def confMoreCard : Claim7 := { stood := { row := confMoreRow, standIns := [], harness := (true, "72d840ac2c57cec2964424c357da6dccb433c640753cc12310363cf1f06f690d"), looks := false }, kinds := [], alts := [], laidByText := true, laidKinds := [.data], laidTests := true, laidLooks := .later }
def ConfMoreCardSaid : Prop := Claim7.holds Tryd.pinned (.plain (OpenSpec.ofChange confMoreSpec)) confMoreCard

/-- THE TIED CARD OF 'coachhouselaw12.ConfSlots'. -/
def confSlotsCard : Claim7 := { stood := { row := confSlotsRow, standIns := [], harness := (true, "72d840ac2c57cec2964424c357da6dccb433c640753cc12310363cf1f06f690d"), looks := false }, kinds := [], alts := [], laidByText := true, laidKinds := [.data], laidTests := true, laidLooks := .later }
def ConfSlotsCardSaid : Prop := Claim7.holds Tryd.pinned (.plain (OpenSpec.ofChange confSlotsSpec)) confSlotsCard

/-- THE TIED CARD OF 'coachhouselaw08.LifeTells'. -/
def lifeTellsCard : Claim7 := { stood := { row := lifeTellsRow, standIns := [], harness := (true, "72d840ac2c57cec2964424c357da6dccb433c640753cc12310363cf1f06f690d"), looks := false }, kinds := [], alts := [], laidByText := true, laidKinds := [.data], laidTests := true, laidLooks := .later }
def LifeTellsCardSaid : Prop := Claim7.holds Tryd.pinned (.plain (OpenSpec.ofChange lifeTellsSpec)) lifeTellsCard

/-- THE TIED CARD OF 'coachhouselaw08.LifeRight'. -/
def lifeRightCard : Claim7 := { stood := { row := lifeRightRow, standIns := [], harness := (true, "72d840ac2c57cec2964424c357da6dccb433c640753cc12310363cf1f06f690d"), looks := false }, kinds := [], alts := [], laidByText := true, laidKinds := [.data], laidTests := true, laidLooks := .later }
def LifeRightCardSaid : Prop := Claim7.holds Tryd.pinned (.plain (OpenSpec.ofChange lifeRightSpec)) lifeRightCard

/-- THE TIED CARD OF 'coachhouselaw08.LifeRuns'. -/
def lifeRunsCard : Claim7 := { stood := { row := lifeRunsRow, standIns := [], harness := (true, "72d840ac2c57cec2964424c357da6dccb433c640753cc12310363cf1f06f690d"), looks := false }, kinds := [], alts := [], laidByText := true, laidKinds := [.data], laidTests := true, laidLooks := .later }
def LifeRunsCardSaid : Prop := Claim7.holds Tryd.pinned (.plain (OpenSpec.ofChange lifeRunsSpec)) lifeRunsCard

/-- THE TIED CARD OF 'coachhouselaw08.LifeOwn'. -/
def lifeOwnCard : Claim7 := { stood := { row := lifeOwnRow, standIns := [], harness := (true, "72d840ac2c57cec2964424c357da6dccb433c640753cc12310363cf1f06f690d"), looks := false }, kinds := [], alts := [], laidByText := true, laidKinds := [.data], laidTests := true, laidLooks := .later }
def LifeOwnCardSaid : Prop := Claim7.holds Tryd.pinned (.plain (OpenSpec.ofChange lifeOwnSpec)) lifeOwnCard

/-- THE TIED CARD OF 'coachhouselaw08.LifeStreams'. -/
def lifeStreamsCard : Claim7 := { stood := { row := lifeStreamsRow, standIns := [], harness := (true, "72d840ac2c57cec2964424c357da6dccb433c640753cc12310363cf1f06f690d"), looks := false }, kinds := [], alts := [], laidByText := true, laidKinds := [.data], laidTests := true, laidLooks := .later }
def LifeStreamsCardSaid : Prop := Claim7.holds Tryd.pinned (.plain (OpenSpec.ofChange lifeStreamsSpec)) lifeStreamsCard

/-- THE TIED CARD OF 'coachhouselaw08.LifeBack'. -/
def lifeBackCard : Claim7 := { stood := { row := lifeBackRow, standIns := [], harness := (true, "72d840ac2c57cec2964424c357da6dccb433c640753cc12310363cf1f06f690d"), looks := false }, kinds := [], alts := [], laidByText := true, laidKinds := [.data], laidTests := true, laidLooks := .later }
def LifeBackCardSaid : Prop := Claim7.holds Tryd.pinned (.plain (OpenSpec.ofChange lifeBackSpec)) lifeBackCard

/-- THE TIED CARD OF 'coachhouselaw08.LifeLittle'. -/
def lifeLittleCard : Claim7 := { stood := { row := lifeLittleRow, standIns := [], harness := (true, "72d840ac2c57cec2964424c357da6dccb433c640753cc12310363cf1f06f690d"), looks := false }, kinds := [], alts := [], laidByText := true, laidKinds := [.data], laidTests := true, laidLooks := .later }
def LifeLittleCardSaid : Prop := Claim7.holds Tryd.pinned (.plain (OpenSpec.ofChange lifeLittleSpec)) lifeLittleCard

/-- THE SECOND FORM's CARD OF 'coachhouselaw12.ConfTells'. -/
def confTellsUptoCard : Claim7 := { stood := { row := confTellsUptoRow, standIns := [], harness := (true, "72d840ac2c57cec2964424c357da6dccb433c640753cc12310363cf1f06f690d"), looks := false }, kinds := [], alts := [], laidByText := true, laidKinds := [.data], laidTests := true, laidLooks := .later }
def ConfTellsUptoCardSaid : Prop := Claim7.holds Tryd.pinned (.plain (OpenSpec.upto confTellsSpec)) confTellsUptoCard

/-- THE SECOND FORM's CARD OF 'coachhouselaw12.ConfApart'. -/
def confApartUptoCard : Claim7 := { stood := { row := confApartUptoRow, standIns := [], harness := (true, "72d840ac2c57cec2964424c357da6dccb433c640753cc12310363cf1f06f690d"), looks := false }, kinds := [], alts := [], laidByText := true, laidKinds := [.data], laidTests := true, laidLooks := .later }
def ConfApartUptoCardSaid : Prop := Claim7.holds Tryd.pinned (.plain (OpenSpec.upto confApartSpec)) confApartUptoCard

/-- THE SECOND FORM's CARD OF 'coachhouselaw12.ConfMore'. -/
def confMoreUptoCard : Claim7 := { stood := { row := confMoreUptoRow, standIns := [], harness := (true, "72d840ac2c57cec2964424c357da6dccb433c640753cc12310363cf1f06f690d"), looks := false }, kinds := [], alts := [], laidByText := true, laidKinds := [.data], laidTests := true, laidLooks := .later }
def ConfMoreUptoCardSaid : Prop := Claim7.holds Tryd.pinned (.plain (OpenSpec.upto confMoreSpec)) confMoreUptoCard

/-- THE SECOND FORM's CARD OF 'coachhouselaw12.ConfSlots'. -/
def confSlotsUptoCard : Claim7 := { stood := { row := confSlotsUptoRow, standIns := [], harness := (true, "72d840ac2c57cec2964424c357da6dccb433c640753cc12310363cf1f06f690d"), looks := false }, kinds := [], alts := [], laidByText := true, laidKinds := [.data], laidTests := true, laidLooks := .later }
def ConfSlotsUptoCardSaid : Prop := Claim7.holds Tryd.pinned (.plain (OpenSpec.upto confSlotsSpec)) confSlotsUptoCard

/-- THE SECOND FORM's CARD OF 'coachhouselaw08.LifeTells'. -/
def lifeTellsUptoCard : Claim7 := { stood := { row := lifeTellsUptoRow, standIns := [], harness := (true, "72d840ac2c57cec2964424c357da6dccb433c640753cc12310363cf1f06f690d"), looks := false }, kinds := [], alts := [], laidByText := true, laidKinds := [.data], laidTests := true, laidLooks := .later }
def LifeTellsUptoCardSaid : Prop := Claim7.holds Tryd.pinned (.plain (OpenSpec.upto lifeTellsSpec)) lifeTellsUptoCard

/-- THE SECOND FORM's CARD OF 'coachhouselaw08.LifeRight'. -/
def lifeRightUptoCard : Claim7 := { stood := { row := lifeRightUptoRow, standIns := [], harness := (true, "72d840ac2c57cec2964424c357da6dccb433c640753cc12310363cf1f06f690d"), looks := false }, kinds := [], alts := [], laidByText := true, laidKinds := [.data], laidTests := true, laidLooks := .later }
def LifeRightUptoCardSaid : Prop := Claim7.holds Tryd.pinned (.plain (OpenSpec.upto lifeRightSpec)) lifeRightUptoCard

/-- THE SECOND FORM's CARD OF 'coachhouselaw08.LifeRuns'. -/
def lifeRunsUptoCard : Claim7 := { stood := { row := lifeRunsUptoRow, standIns := [], harness := (true, "72d840ac2c57cec2964424c357da6dccb433c640753cc12310363cf1f06f690d"), looks := false }, kinds := [], alts := [], laidByText := true, laidKinds := [.data], laidTests := true, laidLooks := .later }
def LifeRunsUptoCardSaid : Prop := Claim7.holds Tryd.pinned (.plain (OpenSpec.upto lifeRunsSpec)) lifeRunsUptoCard

/-- THE SECOND FORM's CARD OF 'coachhouselaw08.LifeOwn'. -/
def lifeOwnUptoCard : Claim7 := { stood := { row := lifeOwnUptoRow, standIns := [], harness := (true, "72d840ac2c57cec2964424c357da6dccb433c640753cc12310363cf1f06f690d"), looks := false }, kinds := [], alts := [], laidByText := true, laidKinds := [.data], laidTests := true, laidLooks := .later }
def LifeOwnUptoCardSaid : Prop := Claim7.holds Tryd.pinned (.plain (OpenSpec.upto lifeOwnSpec)) lifeOwnUptoCard

/-- THE SECOND FORM's CARD OF 'coachhouselaw08.LifeStreams'. -/
def lifeStreamsUptoCard : Claim7 := { stood := { row := lifeStreamsUptoRow, standIns := [], harness := (true, "72d840ac2c57cec2964424c357da6dccb433c640753cc12310363cf1f06f690d"), looks := false }, kinds := [], alts := [], laidByText := true, laidKinds := [.data], laidTests := true, laidLooks := .later }
def LifeStreamsUptoCardSaid : Prop := Claim7.holds Tryd.pinned (.plain (OpenSpec.upto lifeStreamsSpec)) lifeStreamsUptoCard

/-- THE SECOND FORM's CARD OF 'coachhouselaw08.LifeBack'. -/
def lifeBackUptoCard : Claim7 := { stood := { row := lifeBackUptoRow, standIns := [], harness := (true, "72d840ac2c57cec2964424c357da6dccb433c640753cc12310363cf1f06f690d"), looks := false }, kinds := [], alts := [], laidByText := true, laidKinds := [.data], laidTests := true, laidLooks := .later }
def LifeBackUptoCardSaid : Prop := Claim7.holds Tryd.pinned (.plain (OpenSpec.upto lifeBackSpec)) lifeBackUptoCard

/-- THE SECOND FORM's CARD OF 'coachhouselaw08.LifeLittle'. -/
def lifeLittleUptoCard : Claim7 := { stood := { row := lifeLittleUptoRow, standIns := [], harness := (true, "72d840ac2c57cec2964424c357da6dccb433c640753cc12310363cf1f06f690d"), looks := false }, kinds := [], alts := [], laidByText := true, laidKinds := [.data], laidTests := true, laidLooks := .later }
def LifeLittleUptoCardSaid : Prop := Claim7.holds Tryd.pinned (.plain (OpenSpec.upto lifeLittleSpec)) lifeLittleUptoCard
end Rows
end Go.Proofs.YtjgifhegfadohaaDoor
