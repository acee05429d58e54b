/-
  No cell of these rows narrows 'for every input' (looked for: loops, veiled, ifaces, maps, wideKeys, modest, calm, conditions, laid).
  DERIVED. THE GIVEN ROWS OF THIS SEAT. 8 by the template 'for every input the law returns true; each argument reads behind the call as it read before'; 0 by the template 'total and deterministic' (their statements: YtljgocfmmdpdfaaTotals.lean).
  GIVEN WITH THE SEED: the statements are not yours to turn. If you find one false, say at which input.
  Laid BY PROGRAM, IN A SANDBOX (cutbox-rows.mjs): the forced cells as the released guide's own fill.sh prints them over the translation 8cd9a3ad7a731ea0… (all of the seat's roots in one cut). By AI agents, Wed Nov 11 2026. No macro, syntax, notation, axiom, sorry.
-/
import Derived.Test.YtljgocfmmdpdfaaChecked
import GoSem.Claim
import GoSem.ClaimJoined
import GoSem.ClaimMapViews
import Derived.JoinedTies
import Derived.KernelRfl
namespace Go.Proofs.Ytljgocfmmdpdfaa
/- THE CELL 'sum', in the pinned program and in every row, IS THE sha256 OF THE DUMP (.gsa) THAT YtljgocfmmdpdfaaProg.lean LOADS. Nothing in Lean hashes anything: it is a label: what it is worth is what the hold of that sum in a sandbox is worth. -/
noncomputable def Try.pinned : Pinned := { name := "ytljgocfmmdpdfaa", sum := "8cd9a3ad7a731ea0c88058a8d6d43a92dad1517787cdbe9ca71b9094de3370d2", checked := Try.checked }
namespace Rows
def none {H : Type} : Left H := { results := [], args := [] }

/-- 'coachhouselaw01.FieldTells': WHATEVER THE INPUT: true; the input reads as it did. -/
def fieldTellsSpec : ChangeSpec := { name := "fieldTells", fn := fun _ => fun
  | [d1, d2, d3] => { results := [.lit (.bool true)], args := [d1, d2, d3] }
  | _ => none }
def fieldTellsRow : OpenClaim := { program := "ytljgocfmmdpdfaa", sum := "8cd9a3ad7a731ea0c88058a8d6d43a92dad1517787cdbe9ca71b9094de3370d2", func := "coachhouse/coachhouselaw01.FieldTells", spec := "fieldTells", unfollowed := true, recurses := true, apart := false }
def FieldTellsSaid : Prop := fieldTellsRow.holds Try.pinned (OpenSpec.ofChange fieldTellsSpec)

/-- ITS FALSE NEIGHBOUR: 'it returns false'. Refute it at one input. -/
def fieldTellsWrong : ChangeSpec := { name := "fieldTells", fn := fun _ => fun
  | [d1, d2, d3] => { results := [.lit (.bool false)], args := [d1, d2, d3] }
  | _ => none }
def FieldTellsWrongFalsely : Prop := fieldTellsRow.holds Try.pinned (OpenSpec.ofChange fieldTellsWrong)

/-- 'coachhouselaw01.FieldPacks': WHATEVER THE INPUT: true; the input reads as it did. -/
def fieldPacksSpec : ChangeSpec := { name := "fieldPacks", fn := fun _ => fun
  | [d1, d2, d3] => { results := [.lit (.bool true)], args := [d1, d2, d3] }
  | _ => none }
def fieldPacksRow : OpenClaim := { program := "ytljgocfmmdpdfaa", sum := "8cd9a3ad7a731ea0c88058a8d6d43a92dad1517787cdbe9ca71b9094de3370d2", func := "coachhouse/coachhouselaw01.FieldPacks", spec := "fieldPacks", unfollowed := true, recurses := true, apart := false }
def FieldPacksSaid : Prop := fieldPacksRow.holds Try.pinned (OpenSpec.ofChange fieldPacksSpec)

/-- ITS FALSE NEIGHBOUR: 'it returns false'. Refute it at one input. -/
def fieldPacksWrong : ChangeSpec := { name := "fieldPacks", fn := fun _ => fun
  | [d1, d2, d3] => { results := [.lit (.bool false)], args := [d1, d2, d3] }
  | _ => none }
def FieldPacksWrongFalsely : Prop := fieldPacksRow.holds Try.pinned (OpenSpec.ofChange fieldPacksWrong)

/-- 'coachhouselaw01.FieldBack': WHATEVER THE INPUT: true; the input reads as it did. -/
def fieldBackSpec : ChangeSpec := { name := "fieldBack", fn := fun _ => fun
  | [d1, d2, d3] => { results := [.lit (.bool true)], args := [d1, d2, d3] }
  | _ => none }
def fieldBackRow : OpenClaim := { program := "ytljgocfmmdpdfaa", sum := "8cd9a3ad7a731ea0c88058a8d6d43a92dad1517787cdbe9ca71b9094de3370d2", func := "coachhouse/coachhouselaw01.FieldBack", spec := "fieldBack", unfollowed := true, recurses := true, apart := false }
def FieldBackSaid : Prop := fieldBackRow.holds Try.pinned (OpenSpec.ofChange fieldBackSpec)

/-- ITS FALSE NEIGHBOUR: 'it returns false'. Refute it at one input. -/
def fieldBackWrong : ChangeSpec := { name := "fieldBack", fn := fun _ => fun
  | [d1, d2, d3] => { results := [.lit (.bool false)], args := [d1, d2, d3] }
  | _ => none }
def FieldBackWrongFalsely : Prop := fieldBackRow.holds Try.pinned (OpenSpec.ofChange fieldBackWrong)

/-- 'coachhouselaw01.FieldApart': WHATEVER THE INPUT: true; the input reads as it did. -/
def fieldApartSpec : ChangeSpec := { name := "fieldApart", fn := fun _ => fun
  | [d1, d2, d3, d4, d5] => { results := [.lit (.bool true)], args := [d1, d2, d3, d4, d5] }
  | _ => none }
def fieldApartRow : OpenClaim := { program := "ytljgocfmmdpdfaa", sum := "8cd9a3ad7a731ea0c88058a8d6d43a92dad1517787cdbe9ca71b9094de3370d2", func := "coachhouse/coachhouselaw01.FieldApart", spec := "fieldApart", unfollowed := true, recurses := true, apart := false }
def FieldApartSaid : Prop := fieldApartRow.holds Try.pinned (OpenSpec.ofChange fieldApartSpec)

/-- ITS FALSE NEIGHBOUR: 'it returns false'. Refute it at one input. -/
def fieldApartWrong : ChangeSpec := { name := "fieldApart", fn := fun _ => fun
  | [d1, d2, d3, d4, d5] => { results := [.lit (.bool false)], args := [d1, d2, d3, d4, d5] }
  | _ => none }
def FieldApartWrongFalsely : Prop := fieldApartRow.holds Try.pinned (OpenSpec.ofChange fieldApartWrong)

/-- 'coachhouselaw01.FieldParts': WHATEVER THE INPUT: true; the input reads as it did. -/
def fieldPartsSpec : ChangeSpec := { name := "fieldParts", fn := fun _ => fun
  | [d1, d2, d3] => { results := [.lit (.bool true)], args := [d1, d2, d3] }
  | _ => none }
def fieldPartsRow : OpenClaim := { program := "ytljgocfmmdpdfaa", sum := "8cd9a3ad7a731ea0c88058a8d6d43a92dad1517787cdbe9ca71b9094de3370d2", func := "coachhouse/coachhouselaw01.FieldParts", spec := "fieldParts", unfollowed := true, recurses := true, apart := false }
def FieldPartsSaid : Prop := fieldPartsRow.holds Try.pinned (OpenSpec.ofChange fieldPartsSpec)

/-- ITS FALSE NEIGHBOUR: 'it returns false'. Refute it at one input. -/
def fieldPartsWrong : ChangeSpec := { name := "fieldParts", fn := fun _ => fun
  | [d1, d2, d3] => { results := [.lit (.bool false)], args := [d1, d2, d3] }
  | _ => none }
def FieldPartsWrongFalsely : Prop := fieldPartsRow.holds Try.pinned (OpenSpec.ofChange fieldPartsWrong)

/-- 'coachhouselaw01.FieldTurns': WHATEVER THE INPUT: true; the input reads as it did. -/
def fieldTurnsSpec : ChangeSpec := { name := "fieldTurns", fn := fun _ => fun
  | [d1, d2, d3] => { results := [.lit (.bool true)], args := [d1, d2, d3] }
  | _ => none }
def fieldTurnsRow : OpenClaim := { program := "ytljgocfmmdpdfaa", sum := "8cd9a3ad7a731ea0c88058a8d6d43a92dad1517787cdbe9ca71b9094de3370d2", func := "coachhouse/coachhouselaw01.FieldTurns", spec := "fieldTurns", unfollowed := true, recurses := true, apart := false }
def FieldTurnsSaid : Prop := fieldTurnsRow.holds Try.pinned (OpenSpec.ofChange fieldTurnsSpec)

/-- ITS FALSE NEIGHBOUR: 'it returns false'. Refute it at one input. -/
def fieldTurnsWrong : ChangeSpec := { name := "fieldTurns", fn := fun _ => fun
  | [d1, d2, d3] => { results := [.lit (.bool false)], args := [d1, d2, d3] }
  | _ => none }
def FieldTurnsWrongFalsely : Prop := fieldTurnsRow.holds Try.pinned (OpenSpec.ofChange fieldTurnsWrong)

/-- 'coachhouselaw01.FieldSum': WHATEVER THE INPUT: true; the input reads as it did. -/
def fieldSumSpec : ChangeSpec := { name := "fieldSum", fn := fun _ => fun
  | [d1, d2] => { results := [.lit (.bool true)], args := [d1, d2] }
  | _ => none }
def fieldSumRow : OpenClaim := { program := "ytljgocfmmdpdfaa", sum := "8cd9a3ad7a731ea0c88058a8d6d43a92dad1517787cdbe9ca71b9094de3370d2", func := "coachhouse/coachhouselaw01.FieldSum", spec := "fieldSum", unfollowed := true, recurses := true, apart := false }
def FieldSumSaid : Prop := fieldSumRow.holds Try.pinned (OpenSpec.ofChange fieldSumSpec)

/-- ITS FALSE NEIGHBOUR: 'it returns false'. Refute it at one input. -/
def fieldSumWrong : ChangeSpec := { name := "fieldSum", fn := fun _ => fun
  | [d1, d2] => { results := [.lit (.bool false)], args := [d1, d2] }
  | _ => none }
def FieldSumWrongFalsely : Prop := fieldSumRow.holds Try.pinned (OpenSpec.ofChange fieldSumWrong)

/-- 'coachhouselaw01.FieldHigh': WHATEVER THE INPUT: true; the input reads as it did. -/
def fieldHighSpec : ChangeSpec := { name := "fieldHigh", fn := fun _ => fun
  | [d1, d2] => { results := [.lit (.bool true)], args := [d1, d2] }
  | _ => none }
def fieldHighRow : OpenClaim := { program := "ytljgocfmmdpdfaa", sum := "8cd9a3ad7a731ea0c88058a8d6d43a92dad1517787cdbe9ca71b9094de3370d2", func := "coachhouse/coachhouselaw01.FieldHigh", spec := "fieldHigh", unfollowed := true, recurses := true, apart := false }
def FieldHighSaid : Prop := fieldHighRow.holds Try.pinned (OpenSpec.ofChange fieldHighSpec)

/-- ITS FALSE NEIGHBOUR: 'it returns false'. Refute it at one input. -/
def fieldHighWrong : ChangeSpec := { name := "fieldHigh", fn := fun _ => fun
  | [d1, d2] => { results := [.lit (.bool false)], args := [d1, d2] }
  | _ => none }
def FieldHighWrongFalsely : Prop := fieldHighRow.holds Try.pinned (OpenSpec.ofChange fieldHighWrong)

/- THE SECOND FORM. 'bulk': how many values and letters a reading holds, each counted each time it is reached (what is shared counts as often as it is met; a slice's spare places count too). A statement '..UptoSaid' is the law's where the arguments, and the package variables that the reading takes, are together of bulk at most 1048576: NARROWER than '..Said'. Prove '..Said' where nothing that the law and all that it calls make is longer than what came in: it says more and counts as full. Else prove '..UptoSaid'. A law counts once. -/
mutual
def uptoBulk {H : Type} : DataW H → Nat
  | .lit (.string bytes) => bytes.length + 1
  | .lit _ => 1
  | .nil => 1
  | .ptr d => uptoBulk d + 1
  | .slice elems spare => uptoBulkAll elems + uptoBulkAll spare + 1
  | .agg parts => uptoBulkAll parts + 1
  | .iface _ d => uptoBulk d + 1
  | .map entries => uptoBulkEntries entries + 1
  | .held _ => 1
def uptoBulkAll {H : Type} : List (DataW H) → Nat
  | [] => 0
  | d :: r => uptoBulk d + uptoBulkAll r
def uptoBulkEntries {H : Type} : List (Lit × DataW H) → Nat
  | [] => 0
  | x :: r => uptoBulkEntry x + uptoBulkEntries r
def uptoBulkEntry {H : Type} : Lit × DataW H → Nat
  | (.string bytes, d) => bytes.length + uptoBulk d + 1
  | (_, d) => uptoBulk d + 1
 end
def uptoSmall : (H : Type) → List (DataW H) → Bool := fun _ ds => decide (uptoBulkAll ds ≤ 1048576)
def OpenSpec.upto (s : _root_.Go.ChangeSpec) : _root_.Go.OpenSpec := { _root_.Go.OpenSpec.ofChange s with cond := some uptoSmall }

/-- 'coachhouselaw01.FieldTells', WHERE WHAT IT READS IS OF BULK AT MOST 1048576: true; the input reads as it did. -/
def fieldTellsUptoRow : OpenClaim := { program := "ytljgocfmmdpdfaa", sum := "8cd9a3ad7a731ea0c88058a8d6d43a92dad1517787cdbe9ca71b9094de3370d2", func := "coachhouse/coachhouselaw01.FieldTells", spec := "fieldTells", unfollowed := true, recurses := true, apart := false, narrowed := true }
def FieldTellsUptoSaid : Prop := fieldTellsUptoRow.holds Try.pinned (OpenSpec.upto fieldTellsSpec)

/-- 'coachhouselaw01.FieldPacks', WHERE WHAT IT READS IS OF BULK AT MOST 1048576: true; the input reads as it did. -/
def fieldPacksUptoRow : OpenClaim := { program := "ytljgocfmmdpdfaa", sum := "8cd9a3ad7a731ea0c88058a8d6d43a92dad1517787cdbe9ca71b9094de3370d2", func := "coachhouse/coachhouselaw01.FieldPacks", spec := "fieldPacks", unfollowed := true, recurses := true, apart := false, narrowed := true }
def FieldPacksUptoSaid : Prop := fieldPacksUptoRow.holds Try.pinned (OpenSpec.upto fieldPacksSpec)

/-- 'coachhouselaw01.FieldBack', WHERE WHAT IT READS IS OF BULK AT MOST 1048576: true; the input reads as it did. -/
def fieldBackUptoRow : OpenClaim := { program := "ytljgocfmmdpdfaa", sum := "8cd9a3ad7a731ea0c88058a8d6d43a92dad1517787cdbe9ca71b9094de3370d2", func := "coachhouse/coachhouselaw01.FieldBack", spec := "fieldBack", unfollowed := true, recurses := true, apart := false, narrowed := true }
def FieldBackUptoSaid : Prop := fieldBackUptoRow.holds Try.pinned (OpenSpec.upto fieldBackSpec)

/-- 'coachhouselaw01.FieldApart', WHERE WHAT IT READS IS OF BULK AT MOST 1048576: true; the input reads as it did. -/
def fieldApartUptoRow : OpenClaim := { program := "ytljgocfmmdpdfaa", sum := "8cd9a3ad7a731ea0c88058a8d6d43a92dad1517787cdbe9ca71b9094de3370d2", func := "coachhouse/coachhouselaw01.FieldApart", spec := "fieldApart", unfollowed := true, recurses := true, apart := false, narrowed := true }
def FieldApartUptoSaid : Prop := fieldApartUptoRow.holds Try.pinned (OpenSpec.upto fieldApartSpec)

/-- 'coachhouselaw01.FieldParts', WHERE WHAT IT READS IS OF BULK AT MOST 1048576: true; the input reads as it did. -/
def fieldPartsUptoRow : OpenClaim := { program := "ytljgocfmmdpdfaa", sum := "8cd9a3ad7a731ea0c88058a8d6d43a92dad1517787cdbe9ca71b9094de3370d2", func := "coachhouse/coachhouselaw01.FieldParts", spec := "fieldParts", unfollowed := true, recurses := true, apart := false, narrowed := true }
def FieldPartsUptoSaid : Prop := fieldPartsUptoRow.holds Try.pinned (OpenSpec.upto fieldPartsSpec)

/-- 'coachhouselaw01.FieldTurns', WHERE WHAT IT READS IS OF BULK AT MOST 1048576: true; the input reads as it did. -/
def fieldTurnsUptoRow : OpenClaim := { program := "ytljgocfmmdpdfaa", sum := "8cd9a3ad7a731ea0c88058a8d6d43a92dad1517787cdbe9ca71b9094de3370d2", func := "coachhouse/coachhouselaw01.FieldTurns", spec := "fieldTurns", unfollowed := true, recurses := true, apart := false, narrowed := true }
def FieldTurnsUptoSaid : Prop := fieldTurnsUptoRow.holds Try.pinned (OpenSpec.upto fieldTurnsSpec)

/-- 'coachhouselaw01.FieldSum', WHERE WHAT IT READS IS OF BULK AT MOST 1048576: true; the input reads as it did. -/
def fieldSumUptoRow : OpenClaim := { program := "ytljgocfmmdpdfaa", sum := "8cd9a3ad7a731ea0c88058a8d6d43a92dad1517787cdbe9ca71b9094de3370d2", func := "coachhouse/coachhouselaw01.FieldSum", spec := "fieldSum", unfollowed := true, recurses := true, apart := false, narrowed := true }
def FieldSumUptoSaid : Prop := fieldSumUptoRow.holds Try.pinned (OpenSpec.upto fieldSumSpec)

/-- 'coachhouselaw01.FieldHigh', WHERE WHAT IT READS IS OF BULK AT MOST 1048576: true; the input reads as it did. -/
def fieldHighUptoRow : OpenClaim := { program := "ytljgocfmmdpdfaa", sum := "8cd9a3ad7a731ea0c88058a8d6d43a92dad1517787cdbe9ca71b9094de3370d2", func := "coachhouse/coachhouselaw01.FieldHigh", spec := "fieldHigh", unfollowed := true, recurses := true, apart := false, narrowed := true }
def FieldHighUptoSaid : Prop := fieldHighUptoRow.holds Try.pinned (OpenSpec.upto fieldHighSpec)

end Rows
end Go.Proofs.Ytljgocfmmdpdfaa
