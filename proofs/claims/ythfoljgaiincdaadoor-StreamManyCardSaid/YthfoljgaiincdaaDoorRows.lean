/-
  NARROWER THAN 'FOR EVERY INPUT', by the rows' own cells (each row's printed sentence says how): ConfTells: laid · ConfApart: laid · ConfMore: laid · ConfSlots: laid · StreamRace: laid · StreamMany: laid · StreamStranger: laid · GiveRace: laid · GiveOnce: laid · GiveStranger: laid.
  DERIVED. THE GIVEN ROWS OF THIS SEAT. 10 by the template 'for every input the law returns true; each argument reads behind the call as it read before'; 0 by the template 'total and deterministic' (their statements: YthfoljgaiincdaaDoorTotals.lean).
  GIVEN WITH THE SEED: the statements are not yours to turn. If you find one false, say at which input.
  Laid BY PROGRAM, IN A SANDBOX (cutbox-rows.mjs): the forced cells as the released guide's own fill.sh prints them over the translation 4c7cd1d683acdabd… (all of the seat's roots in one cut). By AI agents, Wed Nov 11 2026. No macro, syntax, notation, axiom, sorry.
-/
import Derived.Test.YthfoljgaiincdaaDoorChecked
import GoSem.Claim
import GoSem.ClaimJoined
import GoSem.ClaimMapViews
import Derived.JoinedTies
import Derived.KernelRfl
namespace Go.Proofs.YthfoljgaiincdaaDoor
/- THE CELL 'sum', in the pinned program and in every row, IS THE sha256 OF THE DUMP (.gsa) THAT YthfoljgaiincdaaDoorProg.lean LOADS. Nothing in Lean hashes anything: it is a label: what it is worth is what the hold of that sum in a sandbox is worth. -/
noncomputable def Tryd.pinned : Pinned := { name := "ythfoljgaiincdaadoor", sum := "4c7cd1d683acdabdfd0033407eff92839d06b3227220773efd1f854090547891", checked := Tryd.checked }
namespace Rows
def none {H : Type} : Left H := { results := [], args := [] }

/- WHAT THE LISTED PACKAGE-LEVEL VARIABLES READ AS WHEN THE CALL BEGINS. Each datum BY PROGRAM (the guide's laid-datum.mjs) off the statement by which the dump's own 'gosem.cut.vars' lays the variable. In a bare row this is a premise. The card (YthfoljgaiincdaaDoorCards.lean) ties it to the program's text. -/
def laid_coachhouse_slot_fields {H : Type} : DataW H := .agg [.agg [.lit (.int .i64 0), .lit (.int .i64 3)], .agg [.lit (.int .i64 3), .lit (.int .i64 4)], .agg [.lit (.int .i64 7), .lit (.int .i64 8)], .agg [.lit (.int .i64 15), .lit (.int .i64 1)], .agg [.lit (.int .i64 16), .lit (.int .i64 1)], .agg [.lit (.int .i64 17), .lit (.int .i64 6)], .agg [.lit (.int .i64 23), .lit (.int .i64 12)], .agg [.lit (.int .i64 35), .lit (.int .i64 12)], .agg [.lit (.int .i64 47), .lit (.int .i64 15)]]
def laid_math_bits_deBruijn32tab {H : Type} : DataW H := .agg [.lit (.int .u8 0), .lit (.int .u8 1), .lit (.int .u8 28), .lit (.int .u8 2), .lit (.int .u8 29), .lit (.int .u8 14), .lit (.int .u8 24), .lit (.int .u8 3), .lit (.int .u8 30), .lit (.int .u8 22), .lit (.int .u8 20), .lit (.int .u8 15), .lit (.int .u8 25), .lit (.int .u8 17), .lit (.int .u8 4), .lit (.int .u8 8), .lit (.int .u8 31), .lit (.int .u8 27), .lit (.int .u8 13), .lit (.int .u8 23), .lit (.int .u8 21), .lit (.int .u8 19), .lit (.int .u8 16), .lit (.int .u8 7), .lit (.int .u8 26), .lit (.int .u8 12), .lit (.int .u8 18), .lit (.int .u8 6), .lit (.int .u8 11), .lit (.int .u8 5), .lit (.int .u8 10), .lit (.int .u8 9)]
def laid_math_bits_deBruijn64tab {H : Type} : DataW H := .agg [.lit (.int .u8 0), .lit (.int .u8 1), .lit (.int .u8 56), .lit (.int .u8 2), .lit (.int .u8 57), .lit (.int .u8 49), .lit (.int .u8 28), .lit (.int .u8 3), .lit (.int .u8 61), .lit (.int .u8 58), .lit (.int .u8 42), .lit (.int .u8 50), .lit (.int .u8 38), .lit (.int .u8 29), .lit (.int .u8 17), .lit (.int .u8 4), .lit (.int .u8 62), .lit (.int .u8 47), .lit (.int .u8 59), .lit (.int .u8 36), .lit (.int .u8 45), .lit (.int .u8 43), .lit (.int .u8 51), .lit (.int .u8 22), .lit (.int .u8 53), .lit (.int .u8 39), .lit (.int .u8 33), .lit (.int .u8 30), .lit (.int .u8 24), .lit (.int .u8 18), .lit (.int .u8 12), .lit (.int .u8 5), .lit (.int .u8 63), .lit (.int .u8 55), .lit (.int .u8 48), .lit (.int .u8 27), .lit (.int .u8 60), .lit (.int .u8 41), .lit (.int .u8 37), .lit (.int .u8 16), .lit (.int .u8 46), .lit (.int .u8 35), .lit (.int .u8 44), .lit (.int .u8 21), .lit (.int .u8 52), .lit (.int .u8 32), .lit (.int .u8 23), .lit (.int .u8 11), .lit (.int .u8 54), .lit (.int .u8 26), .lit (.int .u8 40), .lit (.int .u8 15), .lit (.int .u8 34), .lit (.int .u8 20), .lit (.int .u8 31), .lit (.int .u8 10), .lit (.int .u8 25), .lit (.int .u8 14), .lit (.int .u8 19), .lit (.int .u8 9), .lit (.int .u8 13), .lit (.int .u8 8), .lit (.int .u8 7), .lit (.int .u8 6)]

/-- 'coachhouselaw12.ConfTells': WHATEVER THE INPUT: true; the input reads as it did. -/
def confTellsSpec : ChangeSpec := { name := "confTells", fn := fun _ => fun
  | [d1, d2, d3] => { results := [.lit (.bool true)], args := [d1, d2, d3] }
  | _ => none }
def confTellsRow : OpenClaim := { program := "ythfoljgaiincdaadoor", sum := "4c7cd1d683acdabdfd0033407eff92839d06b3227220773efd1f854090547891", func := "coachhouse/coachhouselaw12.ConfTells", spec := "confTells", unfollowed := true, recurses := true, named := ["coachhouse/slot.fields"], apart := false, laid := [("coachhouse/slot.fields", laid_coachhouse_slot_fields)] }
def ConfTellsSaid : Prop := confTellsRow.holds Tryd.pinned (OpenSpec.ofChange confTellsSpec)

/-- ITS FALSE NEIGHBOUR: 'it returns false'. Refute it at one input. -/
def confTellsWrong : ChangeSpec := { name := "confTells", fn := fun _ => fun
  | [d1, d2, d3] => { results := [.lit (.bool false)], args := [d1, d2, d3] }
  | _ => none }
def ConfTellsWrongFalsely : Prop := confTellsRow.holds Tryd.pinned (OpenSpec.ofChange confTellsWrong)

/-- 'coachhouselaw12.ConfApart': WHATEVER THE INPUT: true; the input reads as it did. -/
def confApartSpec : ChangeSpec := { name := "confApart", fn := fun _ => fun
  | [d] => { results := [.lit (.bool true)], args := [d] }
  | _ => none }
def confApartRow : OpenClaim := { program := "ythfoljgaiincdaadoor", sum := "4c7cd1d683acdabdfd0033407eff92839d06b3227220773efd1f854090547891", func := "coachhouse/coachhouselaw12.ConfApart", spec := "confApart", unfollowed := true, recurses := true, named := ["coachhouse/slot.fields"], apart := false, laid := [("coachhouse/slot.fields", laid_coachhouse_slot_fields)] }
def ConfApartSaid : Prop := confApartRow.holds Tryd.pinned (OpenSpec.ofChange confApartSpec)

/-- ITS FALSE NEIGHBOUR: 'it returns false'. Refute it at one input. -/
def confApartWrong : ChangeSpec := { name := "confApart", fn := fun _ => fun
  | [d] => { results := [.lit (.bool false)], args := [d] }
  | _ => none }
def ConfApartWrongFalsely : Prop := confApartRow.holds Tryd.pinned (OpenSpec.ofChange confApartWrong)

/-- 'coachhouselaw12.ConfMore': WHATEVER THE INPUT: true; the input reads as it did. -/
def confMoreSpec : ChangeSpec := { name := "confMore", fn := fun _ => fun
  | [d1, d2, d3] => { results := [.lit (.bool true)], args := [d1, d2, d3] }
  | _ => none }
def confMoreRow : OpenClaim := { program := "ythfoljgaiincdaadoor", sum := "4c7cd1d683acdabdfd0033407eff92839d06b3227220773efd1f854090547891", func := "coachhouse/coachhouselaw12.ConfMore", spec := "confMore", unfollowed := true, recurses := true, named := ["coachhouse/slot.fields"], apart := false, laid := [("coachhouse/slot.fields", laid_coachhouse_slot_fields)] }
def ConfMoreSaid : Prop := confMoreRow.holds Tryd.pinned (OpenSpec.ofChange confMoreSpec)

/-- ITS FALSE NEIGHBOUR: 'it returns false'. Refute it at one input. -/
def confMoreWrong : ChangeSpec := { name := "confMore", fn := fun _ => fun
  | [d1, d2, d3] => { results := [.lit (.bool false)], args := [d1, d2, d3] }
  | _ => none }
def ConfMoreWrongFalsely : Prop := confMoreRow.holds Tryd.pinned (OpenSpec.ofChange confMoreWrong)

/-- 'coachhouselaw12.ConfSlots': WHATEVER THE INPUT: true; the input reads as it did. -/
def confSlotsSpec : ChangeSpec := { name := "confSlots", fn := fun _ => fun
  | [d1, d2] => { results := [.lit (.bool true)], args := [d1, d2] }
  | _ => none }
def confSlotsRow : OpenClaim := { program := "ythfoljgaiincdaadoor", sum := "4c7cd1d683acdabdfd0033407eff92839d06b3227220773efd1f854090547891", func := "coachhouse/coachhouselaw12.ConfSlots", spec := "confSlots", unfollowed := true, recurses := true, named := ["coachhouse/slot.fields"], apart := false, laid := [("coachhouse/slot.fields", laid_coachhouse_slot_fields)] }
def ConfSlotsSaid : Prop := confSlotsRow.holds Tryd.pinned (OpenSpec.ofChange confSlotsSpec)

/-- ITS FALSE NEIGHBOUR: 'it returns false'. Refute it at one input. -/
def confSlotsWrong : ChangeSpec := { name := "confSlots", fn := fun _ => fun
  | [d1, d2] => { results := [.lit (.bool false)], args := [d1, d2] }
  | _ => none }
def ConfSlotsWrongFalsely : Prop := confSlotsRow.holds Tryd.pinned (OpenSpec.ofChange confSlotsWrong)

/-- 'coachhouselaw19.StreamRace': WHATEVER THE INPUT: true; the input reads as it did. -/
def streamRaceSpec : ChangeSpec := { name := "streamRace", fn := fun _ => fun
  | [d1, d2, d3] => { results := [.lit (.bool true)], args := [d1, d2, d3] }
  | _ => none }
def streamRaceRow : OpenClaim := { program := "ythfoljgaiincdaadoor", sum := "4c7cd1d683acdabdfd0033407eff92839d06b3227220773efd1f854090547891", func := "coachhouse/coachhouselaw19.StreamRace", spec := "streamRace", unfollowed := true, recurses := true, named := ["coachhouse/slot.fields", "math/bits.deBruijn32tab", "math/bits.deBruijn64tab"], apart := false, laid := [("math/bits.deBruijn32tab", laid_math_bits_deBruijn32tab), ("math/bits.deBruijn64tab", laid_math_bits_deBruijn64tab), ("coachhouse/slot.fields", laid_coachhouse_slot_fields)] }
def StreamRaceSaid : Prop := streamRaceRow.holds Tryd.pinned (OpenSpec.ofChange streamRaceSpec)

/-- ITS FALSE NEIGHBOUR: 'it returns false'. Refute it at one input. -/
def streamRaceWrong : ChangeSpec := { name := "streamRace", fn := fun _ => fun
  | [d1, d2, d3] => { results := [.lit (.bool false)], args := [d1, d2, d3] }
  | _ => none }
def StreamRaceWrongFalsely : Prop := streamRaceRow.holds Tryd.pinned (OpenSpec.ofChange streamRaceWrong)

/-- 'coachhouselaw19.StreamMany': WHATEVER THE INPUT: true; the input reads as it did. -/
def streamManySpec : ChangeSpec := { name := "streamMany", fn := fun _ => fun
  | [d1, d2] => { results := [.lit (.bool true)], args := [d1, d2] }
  | _ => none }
def streamManyRow : OpenClaim := { program := "ythfoljgaiincdaadoor", sum := "4c7cd1d683acdabdfd0033407eff92839d06b3227220773efd1f854090547891", func := "coachhouse/coachhouselaw19.StreamMany", spec := "streamMany", unfollowed := true, recurses := true, named := ["coachhouse/slot.fields", "math/bits.deBruijn32tab", "math/bits.deBruijn64tab"], apart := false, laid := [("math/bits.deBruijn32tab", laid_math_bits_deBruijn32tab), ("math/bits.deBruijn64tab", laid_math_bits_deBruijn64tab), ("coachhouse/slot.fields", laid_coachhouse_slot_fields)] }
def StreamManySaid : Prop := streamManyRow.holds Tryd.pinned (OpenSpec.ofChange streamManySpec)

/-- ITS FALSE NEIGHBOUR: 'it returns false'. Refute it at one input. -/
def streamManyWrong : ChangeSpec := { name := "streamMany", fn := fun _ => fun
  | [d1, d2] => { results := [.lit (.bool false)], args := [d1, d2] }
  | _ => none }
def StreamManyWrongFalsely : Prop := streamManyRow.holds Tryd.pinned (OpenSpec.ofChange streamManyWrong)

/-- 'coachhouselaw19.StreamStranger': WHATEVER THE INPUT: true; the input reads as it did. -/
def streamStrangerSpec : ChangeSpec := { name := "streamStranger", fn := fun _ => fun
  | [d1, d2, d3, d4, d5] => { results := [.lit (.bool true)], args := [d1, d2, d3, d4, d5] }
  | _ => none }
def streamStrangerRow : OpenClaim := { program := "ythfoljgaiincdaadoor", sum := "4c7cd1d683acdabdfd0033407eff92839d06b3227220773efd1f854090547891", func := "coachhouse/coachhouselaw19.StreamStranger", spec := "streamStranger", unfollowed := true, recurses := true, named := ["coachhouse/slot.fields", "math/bits.deBruijn32tab", "math/bits.deBruijn64tab"], apart := false, laid := [("math/bits.deBruijn32tab", laid_math_bits_deBruijn32tab), ("math/bits.deBruijn64tab", laid_math_bits_deBruijn64tab), ("coachhouse/slot.fields", laid_coachhouse_slot_fields)] }
def StreamStrangerSaid : Prop := streamStrangerRow.holds Tryd.pinned (OpenSpec.ofChange streamStrangerSpec)

/-- ITS FALSE NEIGHBOUR: 'it returns false'. Refute it at one input. -/
def streamStrangerWrong : ChangeSpec := { name := "streamStranger", fn := fun _ => fun
  | [d1, d2, d3, d4, d5] => { results := [.lit (.bool false)], args := [d1, d2, d3, d4, d5] }
  | _ => none }
def StreamStrangerWrongFalsely : Prop := streamStrangerRow.holds Tryd.pinned (OpenSpec.ofChange streamStrangerWrong)

/-- 'coachhouselaw18.GiveRace': WHATEVER THE INPUT: true; the input reads as it did. -/
def giveRaceSpec : ChangeSpec := { name := "giveRace", fn := fun _ => fun
  | [d1, d2, d3, d4] => { results := [.lit (.bool true)], args := [d1, d2, d3, d4] }
  | _ => none }
def giveRaceRow : OpenClaim := { program := "ythfoljgaiincdaadoor", sum := "4c7cd1d683acdabdfd0033407eff92839d06b3227220773efd1f854090547891", func := "coachhouse/coachhouselaw18.GiveRace", spec := "giveRace", unfollowed := true, recurses := true, named := ["coachhouse/slot.fields"], apart := false, laid := [("coachhouse/slot.fields", laid_coachhouse_slot_fields)] }
def GiveRaceSaid : Prop := giveRaceRow.holds Tryd.pinned (OpenSpec.ofChange giveRaceSpec)

/-- ITS FALSE NEIGHBOUR: 'it returns false'. Refute it at one input. -/
def giveRaceWrong : ChangeSpec := { name := "giveRace", fn := fun _ => fun
  | [d1, d2, d3, d4] => { results := [.lit (.bool false)], args := [d1, d2, d3, d4] }
  | _ => none }
def GiveRaceWrongFalsely : Prop := giveRaceRow.holds Tryd.pinned (OpenSpec.ofChange giveRaceWrong)

/-- 'coachhouselaw18.GiveOnce': WHATEVER THE INPUT: true; the input reads as it did. -/
def giveOnceSpec : ChangeSpec := { name := "giveOnce", fn := fun _ => fun
  | [d1, d2, d3] => { results := [.lit (.bool true)], args := [d1, d2, d3] }
  | _ => none }
def giveOnceRow : OpenClaim := { program := "ythfoljgaiincdaadoor", sum := "4c7cd1d683acdabdfd0033407eff92839d06b3227220773efd1f854090547891", func := "coachhouse/coachhouselaw18.GiveOnce", spec := "giveOnce", unfollowed := true, recurses := true, named := ["coachhouse/slot.fields"], apart := false, laid := [("coachhouse/slot.fields", laid_coachhouse_slot_fields)] }
def GiveOnceSaid : Prop := giveOnceRow.holds Tryd.pinned (OpenSpec.ofChange giveOnceSpec)

/-- ITS FALSE NEIGHBOUR: 'it returns false'. Refute it at one input. -/
def giveOnceWrong : ChangeSpec := { name := "giveOnce", fn := fun _ => fun
  | [d1, d2, d3] => { results := [.lit (.bool false)], args := [d1, d2, d3] }
  | _ => none }
def GiveOnceWrongFalsely : Prop := giveOnceRow.holds Tryd.pinned (OpenSpec.ofChange giveOnceWrong)

/-- 'coachhouselaw18.GiveStranger': WHATEVER THE INPUT: true; the input reads as it did. -/
def giveStrangerSpec : ChangeSpec := { name := "giveStranger", fn := fun _ => fun
  | [d1, d2, d3, d4, d5, d6] => { results := [.lit (.bool true)], args := [d1, d2, d3, d4, d5, d6] }
  | _ => none }
def giveStrangerRow : OpenClaim := { program := "ythfoljgaiincdaadoor", sum := "4c7cd1d683acdabdfd0033407eff92839d06b3227220773efd1f854090547891", func := "coachhouse/coachhouselaw18.GiveStranger", spec := "giveStranger", unfollowed := true, recurses := true, named := ["coachhouse/slot.fields"], apart := false, laid := [("coachhouse/slot.fields", laid_coachhouse_slot_fields)] }
def GiveStrangerSaid : Prop := giveStrangerRow.holds Tryd.pinned (OpenSpec.ofChange giveStrangerSpec)

/-- ITS FALSE NEIGHBOUR: 'it returns false'. Refute it at one input. -/
def giveStrangerWrong : ChangeSpec := { name := "giveStranger", fn := fun _ => fun
  | [d1, d2, d3, d4, d5, d6] => { results := [.lit (.bool false)], args := [d1, d2, d3, d4, d5, d6] }
  | _ => none }
def GiveStrangerWrongFalsely : Prop := giveStrangerRow.holds Tryd.pinned (OpenSpec.ofChange giveStrangerWrong)

/- THE SECOND FORM. 'bulk': how many values and letters a reading holds, each counted each time it is reached (what is shared counts as often as it is met; a slice's spare places count too). A statement '..UptoSaid' is the law's where the arguments, and the package variables that the reading takes, are together of bulk at most 1048576: NARROWER than '..Said'. Prove '..Said' where nothing that the law and all that it calls make is longer than what came in: it says more and counts as full. Else prove '..UptoSaid'. A law counts once. -/
mutual
def uptoBulk {H : Type} : DataW H → Nat
  | .lit (.string bytes) => bytes.length + 1
  | .lit _ => 1
  | .nil => 1
  | .ptr d => uptoBulk d + 1
  | .slice elems spare => uptoBulkAll elems + uptoBulkAll spare + 1
  | .agg parts => uptoBulkAll parts + 1
  | .iface _ d => uptoBulk d + 1
  | .map entries => uptoBulkEntries entries + 1
  | .held _ => 1
def uptoBulkAll {H : Type} : List (DataW H) → Nat
  | [] => 0
  | d :: r => uptoBulk d + uptoBulkAll r
def uptoBulkEntries {H : Type} : List (Lit × DataW H) → Nat
  | [] => 0
  | x :: r => uptoBulkEntry x + uptoBulkEntries r
def uptoBulkEntry {H : Type} : Lit × DataW H → Nat
  | (.string bytes, d) => bytes.length + uptoBulk d + 1
  | (_, d) => uptoBulk d + 1
 end
def uptoSmall : (H : Type) → List (DataW H) → Bool := fun _ ds => decide (uptoBulkAll ds ≤ 1048576)
def OpenSpec.upto (s : _root_.Go.ChangeSpec) : _root_.Go.OpenSpec := { _root_.Go.OpenSpec.ofChange s with cond := some uptoSmall }

/-- 'coachhouselaw12.ConfTells', WHERE WHAT IT READS IS OF BULK AT MOST 1048576: true; the input reads as it did. -/
def confTellsUptoRow : OpenClaim := { program := "ythfoljgaiincdaadoor", sum := "4c7cd1d683acdabdfd0033407eff92839d06b3227220773efd1f854090547891", func := "coachhouse/coachhouselaw12.ConfTells", spec := "confTells", unfollowed := true, recurses := true, named := ["coachhouse/slot.fields"], apart := false, laid := [("coachhouse/slot.fields", laid_coachhouse_slot_fields)], narrowed := true }
def ConfTellsUptoSaid : Prop := confTellsUptoRow.holds Tryd.pinned (OpenSpec.upto confTellsSpec)

/-- 'coachhouselaw12.ConfApart', WHERE WHAT IT READS IS OF BULK AT MOST 1048576: true; the input reads as it did. -/
def confApartUptoRow : OpenClaim := { program := "ythfoljgaiincdaadoor", sum := "4c7cd1d683acdabdfd0033407eff92839d06b3227220773efd1f854090547891", func := "coachhouse/coachhouselaw12.ConfApart", spec := "confApart", unfollowed := true, recurses := true, named := ["coachhouse/slot.fields"], apart := false, laid := [("coachhouse/slot.fields", laid_coachhouse_slot_fields)], narrowed := true }
def ConfApartUptoSaid : Prop := confApartUptoRow.holds Tryd.pinned (OpenSpec.upto confApartSpec)

/-- 'coachhouselaw12.ConfMore', WHERE WHAT IT READS IS OF BULK AT MOST 1048576: true; the input reads as it did. -/
def confMoreUptoRow : OpenClaim := { program := "ythfoljgaiincdaadoor", sum := "4c7cd1d683acdabdfd0033407eff92839d06b3227220773efd1f854090547891", func := "coachhouse/coachhouselaw12.ConfMore", spec := "confMore", unfollowed := true, recurses := true, named := ["coachhouse/slot.fields"], apart := false, laid := [("coachhouse/slot.fields", laid_coachhouse_slot_fields)], narrowed := true }
def ConfMoreUptoSaid : Prop := confMoreUptoRow.holds Tryd.pinned (OpenSpec.upto confMoreSpec)

/-- 'coachhouselaw12.ConfSlots', WHERE WHAT IT READS IS OF BULK AT MOST 1048576: true; the input reads as it did. -/
def confSlotsUptoRow : OpenClaim := { program := "ythfoljgaiincdaadoor", sum := "4c7cd1d683acdabdfd0033407eff92839d06b3227220773efd1f854090547891", func := "coachhouse/coachhouselaw12.ConfSlots", spec := "confSlots", unfollowed := true, recurses := true, named := ["coachhouse/slot.fields"], apart := false, laid := [("coachhouse/slot.fields", laid_coachhouse_slot_fields)], narrowed := true }
def ConfSlotsUptoSaid : Prop := confSlotsUptoRow.holds Tryd.pinned (OpenSpec.upto confSlotsSpec)

/-- 'coachhouselaw19.StreamRace', WHERE WHAT IT READS IS OF BULK AT MOST 1048576: true; the input reads as it did. -/
def streamRaceUptoRow : OpenClaim := { program := "ythfoljgaiincdaadoor", sum := "4c7cd1d683acdabdfd0033407eff92839d06b3227220773efd1f854090547891", func := "coachhouse/coachhouselaw19.StreamRace", spec := "streamRace", unfollowed := true, recurses := true, named := ["coachhouse/slot.fields", "math/bits.deBruijn32tab", "math/bits.deBruijn64tab"], apart := false, laid := [("math/bits.deBruijn32tab", laid_math_bits_deBruijn32tab), ("math/bits.deBruijn64tab", laid_math_bits_deBruijn64tab), ("coachhouse/slot.fields", laid_coachhouse_slot_fields)], narrowed := true }
def StreamRaceUptoSaid : Prop := streamRaceUptoRow.holds Tryd.pinned (OpenSpec.upto streamRaceSpec)

/-- 'coachhouselaw19.StreamMany', WHERE WHAT IT READS IS OF BULK AT MOST 1048576: true; the input reads as it did. -/
def streamManyUptoRow : OpenClaim := { program := "ythfoljgaiincdaadoor", sum := "4c7cd1d683acdabdfd0033407eff92839d06b3227220773efd1f854090547891", func := "coachhouse/coachhouselaw19.StreamMany", spec := "streamMany", unfollowed := true, recurses := true, named := ["coachhouse/slot.fields", "math/bits.deBruijn32tab", "math/bits.deBruijn64tab"], apart := false, laid := [("math/bits.deBruijn32tab", laid_math_bits_deBruijn32tab), ("math/bits.deBruijn64tab", laid_math_bits_deBruijn64tab), ("coachhouse/slot.fields", laid_coachhouse_slot_fields)], narrowed := true }
def StreamManyUptoSaid : Prop := streamManyUptoRow.holds Tryd.pinned (OpenSpec.upto streamManySpec)

/-- 'coachhouselaw19.StreamStranger', WHERE WHAT IT READS IS OF BULK AT MOST 1048576: true; the input reads as it did. -/
def streamStrangerUptoRow : OpenClaim := { program := "ythfoljgaiincdaadoor", sum := "4c7cd1d683acdabdfd0033407eff92839d06b3227220773efd1f854090547891", func := "coachhouse/coachhouselaw19.StreamStranger", spec := "streamStranger", unfollowed := true, recurses := true, named := ["coachhouse/slot.fields", "math/bits.deBruijn32tab", "math/bits.deBruijn64tab"], apart := false, laid := [("math/bits.deBruijn32tab", laid_math_bits_deBruijn32tab), ("math/bits.deBruijn64tab", laid_math_bits_deBruijn64tab), ("coachhouse/slot.fields", laid_coachhouse_slot_fields)], narrowed := true }
def StreamStrangerUptoSaid : Prop := streamStrangerUptoRow.holds Tryd.pinned (OpenSpec.upto streamStrangerSpec)

/-- 'coachhouselaw18.GiveRace', WHERE WHAT IT READS IS OF BULK AT MOST 1048576: true; the input reads as it did. -/
def giveRaceUptoRow : OpenClaim := { program := "ythfoljgaiincdaadoor", sum := "4c7cd1d683acdabdfd0033407eff92839d06b3227220773efd1f854090547891", func := "coachhouse/coachhouselaw18.GiveRace", spec := "giveRace", unfollowed := true, recurses := true, named := ["coachhouse/slot.fields"], apart := false, laid := [("coachhouse/slot.fields", laid_coachhouse_slot_fields)], narrowed := true }
def GiveRaceUptoSaid : Prop := giveRaceUptoRow.holds Tryd.pinned (OpenSpec.upto giveRaceSpec)

/-- 'coachhouselaw18.GiveOnce', WHERE WHAT IT READS IS OF BULK AT MOST 1048576: true; the input reads as it did. -/
def giveOnceUptoRow : OpenClaim := { program := "ythfoljgaiincdaadoor", sum := "4c7cd1d683acdabdfd0033407eff92839d06b3227220773efd1f854090547891", func := "coachhouse/coachhouselaw18.GiveOnce", spec := "giveOnce", unfollowed := true, recurses := true, named := ["coachhouse/slot.fields"], apart := false, laid := [("coachhouse/slot.fields", laid_coachhouse_slot_fields)], narrowed := true }
def GiveOnceUptoSaid : Prop := giveOnceUptoRow.holds Tryd.pinned (OpenSpec.upto giveOnceSpec)

/-- 'coachhouselaw18.GiveStranger', WHERE WHAT IT READS IS OF BULK AT MOST 1048576: true; the input reads as it did. -/
def giveStrangerUptoRow : OpenClaim := { program := "ythfoljgaiincdaadoor", sum := "4c7cd1d683acdabdfd0033407eff92839d06b3227220773efd1f854090547891", func := "coachhouse/coachhouselaw18.GiveStranger", spec := "giveStranger", unfollowed := true, recurses := true, named := ["coachhouse/slot.fields"], apart := false, laid := [("coachhouse/slot.fields", laid_coachhouse_slot_fields)], narrowed := true }
def GiveStrangerUptoSaid : Prop := giveStrangerUptoRow.holds Tryd.pinned (OpenSpec.upto giveStrangerSpec)

end Rows
end Go.Proofs.YthfoljgaiincdaaDoor
