/-
  NARROWER THAN 'FOR EVERY INPUT', by the rows' own cells (each row's printed sentence says how): SlotEncodes: laid · SlotDecodes: laid · SlotBack: laid · SlotUnlike: laid · SlotParts: laid.
  DERIVED. THE GIVEN ROWS OF THIS SEAT. 5 by the template 'for every input the law returns true; each argument reads behind the call as it read before'; 0 by the template 'total and deterministic' (their statements: YtljgocfmmdpdfaaDoorTotals.lean).
  GIVEN WITH THE SEED: the statements are not yours to turn. If you find one false, say at which input.
  Laid BY PROGRAM, IN A SANDBOX (cutbox-rows.mjs): the forced cells as the released guide's own fill.sh prints them over the translation f76962ddcaf5e9ba… (all of the seat's roots in one cut). By AI agents, Wed Nov 11 2026. No macro, syntax, notation, axiom, sorry.
-/
import Derived.Test.YtljgocfmmdpdfaaDoorChecked
import GoSem.Claim
import GoSem.ClaimJoined
import GoSem.ClaimMapViews
import Derived.JoinedTies
import Derived.KernelRfl
namespace Go.Proofs.YtljgocfmmdpdfaaDoor
/- THE CELL 'sum', in the pinned program and in every row, IS THE sha256 OF THE DUMP (.gsa) THAT YtljgocfmmdpdfaaDoorProg.lean LOADS. Nothing in Lean hashes anything: it is a label: what it is worth is what the hold of that sum in a sandbox is worth. -/
noncomputable def Tryd.pinned : Pinned := { name := "ytljgocfmmdpdfaadoor", sum := "f76962ddcaf5e9ba6e1421e6e4b514a5ebee2d6479cab93d3103981d797b95b8", checked := Tryd.checked }
namespace Rows
def none {H : Type} : Left H := { results := [], args := [] }

/- WHAT THE LISTED PACKAGE-LEVEL VARIABLES READ AS WHEN THE CALL BEGINS. Each datum BY PROGRAM (the guide's laid-datum.mjs) off the statement by which the dump's own 'gosem.cut.vars' lays the variable. In a bare row this is a premise. The card (YtljgocfmmdpdfaaDoorCards.lean) ties it to the program's text. -/
def laid_coachhouse_slot_fields {H : Type} : DataW H := .agg [.agg [.lit (.int .i64 0), .lit (.int .i64 3)], .agg [.lit (.int .i64 3), .lit (.int .i64 4)], .agg [.lit (.int .i64 7), .lit (.int .i64 8)], .agg [.lit (.int .i64 15), .lit (.int .i64 1)], .agg [.lit (.int .i64 16), .lit (.int .i64 1)], .agg [.lit (.int .i64 17), .lit (.int .i64 6)], .agg [.lit (.int .i64 23), .lit (.int .i64 12)], .agg [.lit (.int .i64 35), .lit (.int .i64 12)], .agg [.lit (.int .i64 47), .lit (.int .i64 15)]]

/-- 'coachhouselaw07.SlotEncodes': WHATEVER THE INPUT: true; the input reads as it did. -/
def slotEncodesSpec : ChangeSpec := { name := "slotEncodes", fn := fun _ => fun
  | [d] => { results := [.lit (.bool true)], args := [d] }
  | _ => none }
def slotEncodesRow : OpenClaim := { program := "ytljgocfmmdpdfaadoor", sum := "f76962ddcaf5e9ba6e1421e6e4b514a5ebee2d6479cab93d3103981d797b95b8", func := "coachhouse/coachhouselaw07.SlotEncodes", spec := "slotEncodes", unfollowed := true, recurses := true, named := ["coachhouse/slot.fields"], apart := false, laid := [("coachhouse/slot.fields", laid_coachhouse_slot_fields)] }
def SlotEncodesSaid : Prop := slotEncodesRow.holds Tryd.pinned (OpenSpec.ofChange slotEncodesSpec)

/-- ITS FALSE NEIGHBOUR: 'it returns false'. Refute it at one input. -/
def slotEncodesWrong : ChangeSpec := { name := "slotEncodes", fn := fun _ => fun
  | [d] => { results := [.lit (.bool false)], args := [d] }
  | _ => none }
def SlotEncodesWrongFalsely : Prop := slotEncodesRow.holds Tryd.pinned (OpenSpec.ofChange slotEncodesWrong)

/-- 'coachhouselaw07.SlotDecodes': WHATEVER THE INPUT: true; the input reads as it did. -/
def slotDecodesSpec : ChangeSpec := { name := "slotDecodes", fn := fun _ => fun
  | [d] => { results := [.lit (.bool true)], args := [d] }
  | _ => none }
def slotDecodesRow : OpenClaim := { program := "ytljgocfmmdpdfaadoor", sum := "f76962ddcaf5e9ba6e1421e6e4b514a5ebee2d6479cab93d3103981d797b95b8", func := "coachhouse/coachhouselaw07.SlotDecodes", spec := "slotDecodes", unfollowed := true, recurses := true, named := ["coachhouse/slot.fields"], apart := false, laid := [("coachhouse/slot.fields", laid_coachhouse_slot_fields)] }
def SlotDecodesSaid : Prop := slotDecodesRow.holds Tryd.pinned (OpenSpec.ofChange slotDecodesSpec)

/-- ITS FALSE NEIGHBOUR: 'it returns false'. Refute it at one input. -/
def slotDecodesWrong : ChangeSpec := { name := "slotDecodes", fn := fun _ => fun
  | [d] => { results := [.lit (.bool false)], args := [d] }
  | _ => none }
def SlotDecodesWrongFalsely : Prop := slotDecodesRow.holds Tryd.pinned (OpenSpec.ofChange slotDecodesWrong)

/-- 'coachhouselaw07.SlotBack': WHATEVER THE INPUT: true; the input reads as it did. -/
def slotBackSpec : ChangeSpec := { name := "slotBack", fn := fun _ => fun
  | [d1, d2] => { results := [.lit (.bool true)], args := [d1, d2] }
  | _ => none }
def slotBackRow : OpenClaim := { program := "ytljgocfmmdpdfaadoor", sum := "f76962ddcaf5e9ba6e1421e6e4b514a5ebee2d6479cab93d3103981d797b95b8", func := "coachhouse/coachhouselaw07.SlotBack", spec := "slotBack", unfollowed := true, recurses := true, named := ["coachhouse/slot.fields"], apart := false, laid := [("coachhouse/slot.fields", laid_coachhouse_slot_fields)] }
def SlotBackSaid : Prop := slotBackRow.holds Tryd.pinned (OpenSpec.ofChange slotBackSpec)

/-- ITS FALSE NEIGHBOUR: 'it returns false'. Refute it at one input. -/
def slotBackWrong : ChangeSpec := { name := "slotBack", fn := fun _ => fun
  | [d1, d2] => { results := [.lit (.bool false)], args := [d1, d2] }
  | _ => none }
def SlotBackWrongFalsely : Prop := slotBackRow.holds Tryd.pinned (OpenSpec.ofChange slotBackWrong)

/-- 'coachhouselaw07.SlotUnlike': WHATEVER THE INPUT: true; the input reads as it did. -/
def slotUnlikeSpec : ChangeSpec := { name := "slotUnlike", fn := fun _ => fun
  | [d1, d2, d3] => { results := [.lit (.bool true)], args := [d1, d2, d3] }
  | _ => none }
def slotUnlikeRow : OpenClaim := { program := "ytljgocfmmdpdfaadoor", sum := "f76962ddcaf5e9ba6e1421e6e4b514a5ebee2d6479cab93d3103981d797b95b8", func := "coachhouse/coachhouselaw07.SlotUnlike", spec := "slotUnlike", unfollowed := true, recurses := true, named := ["coachhouse/slot.fields"], apart := false, laid := [("coachhouse/slot.fields", laid_coachhouse_slot_fields)] }
def SlotUnlikeSaid : Prop := slotUnlikeRow.holds Tryd.pinned (OpenSpec.ofChange slotUnlikeSpec)

/-- ITS FALSE NEIGHBOUR: 'it returns false'. Refute it at one input. -/
def slotUnlikeWrong : ChangeSpec := { name := "slotUnlike", fn := fun _ => fun
  | [d1, d2, d3] => { results := [.lit (.bool false)], args := [d1, d2, d3] }
  | _ => none }
def SlotUnlikeWrongFalsely : Prop := slotUnlikeRow.holds Tryd.pinned (OpenSpec.ofChange slotUnlikeWrong)

/-- 'coachhouselaw07.SlotParts': WHATEVER THE INPUT: true; the input reads as it did. -/
def slotPartsSpec : ChangeSpec := { name := "slotParts", fn := fun _ => fun
  | [d] => { results := [.lit (.bool true)], args := [d] }
  | _ => none }
def slotPartsRow : OpenClaim := { program := "ytljgocfmmdpdfaadoor", sum := "f76962ddcaf5e9ba6e1421e6e4b514a5ebee2d6479cab93d3103981d797b95b8", func := "coachhouse/coachhouselaw07.SlotParts", spec := "slotParts", unfollowed := true, recurses := true, named := ["coachhouse/slot.fields"], apart := false, laid := [("coachhouse/slot.fields", laid_coachhouse_slot_fields)] }
def SlotPartsSaid : Prop := slotPartsRow.holds Tryd.pinned (OpenSpec.ofChange slotPartsSpec)

/-- ITS FALSE NEIGHBOUR: 'it returns false'. Refute it at one input. -/
def slotPartsWrong : ChangeSpec := { name := "slotParts", fn := fun _ => fun
  | [d] => { results := [.lit (.bool false)], args := [d] }
  | _ => none }
def SlotPartsWrongFalsely : Prop := slotPartsRow.holds Tryd.pinned (OpenSpec.ofChange slotPartsWrong)

/- THE SECOND FORM. 'bulk': how many values and letters a reading holds, each counted each time it is reached (what is shared counts as often as it is met; a slice's spare places count too). A statement '..UptoSaid' is the law's where the arguments, and the package variables that the reading takes, are together of bulk at most 1048576: NARROWER than '..Said'. Prove '..Said' where nothing that the law and all that it calls make is longer than what came in: it says more and counts as full. Else prove '..UptoSaid'. A law counts once. -/
mutual
def uptoBulk {H : Type} : DataW H → Nat
  | .lit (.string bytes) => bytes.length + 1
  | .lit _ => 1
  | .nil => 1
  | .ptr d => uptoBulk d + 1
  | .slice elems spare => uptoBulkAll elems + uptoBulkAll spare + 1
  | .agg parts => uptoBulkAll parts + 1
  | .iface _ d => uptoBulk d + 1
  | .map entries => uptoBulkEntries entries + 1
  | .held _ => 1
def uptoBulkAll {H : Type} : List (DataW H) → Nat
  | [] => 0
  | d :: r => uptoBulk d + uptoBulkAll r
def uptoBulkEntries {H : Type} : List (Lit × DataW H) → Nat
  | [] => 0
  | x :: r => uptoBulkEntry x + uptoBulkEntries r
def uptoBulkEntry {H : Type} : Lit × DataW H → Nat
  | (.string bytes, d) => bytes.length + uptoBulk d + 1
  | (_, d) => uptoBulk d + 1
 end
def uptoSmall : (H : Type) → List (DataW H) → Bool := fun _ ds => decide (uptoBulkAll ds ≤ 1048576)
def OpenSpec.upto (s : _root_.Go.ChangeSpec) : _root_.Go.OpenSpec := { _root_.Go.OpenSpec.ofChange s with cond := some uptoSmall }

/-- 'coachhouselaw07.SlotEncodes', WHERE WHAT IT READS IS OF BULK AT MOST 1048576: true; the input reads as it did. -/
def slotEncodesUptoRow : OpenClaim := { program := "ytljgocfmmdpdfaadoor", sum := "f76962ddcaf5e9ba6e1421e6e4b514a5ebee2d6479cab93d3103981d797b95b8", func := "coachhouse/coachhouselaw07.SlotEncodes", spec := "slotEncodes", unfollowed := true, recurses := true, named := ["coachhouse/slot.fields"], apart := false, laid := [("coachhouse/slot.fields", laid_coachhouse_slot_fields)], narrowed := true }
def SlotEncodesUptoSaid : Prop := slotEncodesUptoRow.holds Tryd.pinned (OpenSpec.upto slotEncodesSpec)

/-- 'coachhouselaw07.SlotDecodes', WHERE WHAT IT READS IS OF BULK AT MOST 1048576: true; the input reads as it did. -/
def slotDecodesUptoRow : OpenClaim := { program := "ytljgocfmmdpdfaadoor", sum := "f76962ddcaf5e9ba6e1421e6e4b514a5ebee2d6479cab93d3103981d797b95b8", func := "coachhouse/coachhouselaw07.SlotDecodes", spec := "slotDecodes", unfollowed := true, recurses := true, named := ["coachhouse/slot.fields"], apart := false, laid := [("coachhouse/slot.fields", laid_coachhouse_slot_fields)], narrowed := true }
def SlotDecodesUptoSaid : Prop := slotDecodesUptoRow.holds Tryd.pinned (OpenSpec.upto slotDecodesSpec)

/-- 'coachhouselaw07.SlotBack', WHERE WHAT IT READS IS OF BULK AT MOST 1048576: true; the input reads as it did. -/
def slotBackUptoRow : OpenClaim := { program := "ytljgocfmmdpdfaadoor", sum := "f76962ddcaf5e9ba6e1421e6e4b514a5ebee2d6479cab93d3103981d797b95b8", func := "coachhouse/coachhouselaw07.SlotBack", spec := "slotBack", unfollowed := true, recurses := true, named := ["coachhouse/slot.fields"], apart := false, laid := [("coachhouse/slot.fields", laid_coachhouse_slot_fields)], narrowed := true }
def SlotBackUptoSaid : Prop := slotBackUptoRow.holds Tryd.pinned (OpenSpec.upto slotBackSpec)

/-- 'coachhouselaw07.SlotUnlike', WHERE WHAT IT READS IS OF BULK AT MOST 1048576: true; the input reads as it did. -/
def slotUnlikeUptoRow : OpenClaim := { program := "ytljgocfmmdpdfaadoor", sum := "f76962ddcaf5e9ba6e1421e6e4b514a5ebee2d6479cab93d3103981d797b95b8", func := "coachhouse/coachhouselaw07.SlotUnlike", spec := "slotUnlike", unfollowed := true, recurses := true, named := ["coachhouse/slot.fields"], apart := false, laid := [("coachhouse/slot.fields", laid_coachhouse_slot_fields)], narrowed := true }
def SlotUnlikeUptoSaid : Prop := slotUnlikeUptoRow.holds Tryd.pinned (OpenSpec.upto slotUnlikeSpec)

/-- 'coachhouselaw07.SlotParts', WHERE WHAT IT READS IS OF BULK AT MOST 1048576: true; the input reads as it did. -/
def slotPartsUptoRow : OpenClaim := { program := "ytljgocfmmdpdfaadoor", sum := "f76962ddcaf5e9ba6e1421e6e4b514a5ebee2d6479cab93d3103981d797b95b8", func := "coachhouse/coachhouselaw07.SlotParts", spec := "slotParts", unfollowed := true, recurses := true, named := ["coachhouse/slot.fields"], apart := false, laid := [("coachhouse/slot.fields", laid_coachhouse_slot_fields)], narrowed := true }
def SlotPartsUptoSaid : Prop := slotPartsUptoRow.holds Tryd.pinned (OpenSpec.upto slotPartsSpec)

end Rows
end Go.Proofs.YtljgocfmmdpdfaaDoor
