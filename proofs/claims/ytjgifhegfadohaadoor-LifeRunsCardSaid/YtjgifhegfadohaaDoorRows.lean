/-
  NARROWER THAN 'FOR EVERY INPUT', by the rows' own cells (each row's printed sentence says how): ConfTells: laid · ConfApart: laid · ConfMore: laid · ConfSlots: laid · LifeTells: laid · LifeRight: laid · LifeRuns: laid · LifeOwn: laid · LifeStreams: laid · LifeBack: laid · LifeLittle: laid.
  DERIVED. THE GIVEN ROWS OF THIS SEAT. 11 by the template 'for every input the law returns true; each argument reads behind the call as it read before'; 0 by the template 'total and deterministic' (their statements: YtjgifhegfadohaaDoorTotals.lean).
  GIVEN WITH THE SEED: the statements are not yours to turn. If you find one false, say at which input.
  Laid BY PROGRAM, IN A SANDBOX (cutbox-rows.mjs): the forced cells as the released guide's own fill.sh prints them over the translation ada4cf732c3df4fd… (all of the seat's roots in one cut). By AI agents, Wed Nov 11 2026. No macro, syntax, notation, axiom, sorry.
-/
import Derived.Test.YtjgifhegfadohaaDoorChecked
import GoSem.Claim
import GoSem.ClaimJoined
import GoSem.ClaimMapViews
import Derived.JoinedTies
import Derived.KernelRfl
namespace Go.Proofs.YtjgifhegfadohaaDoor
/- THE CELL 'sum', in the pinned program and in every row, IS THE sha256 OF THE DUMP (.gsa) THAT YtjgifhegfadohaaDoorProg.lean LOADS. Nothing in Lean hashes anything: it is a label: what it is worth is what the hold of that sum in a sandbox is worth. -/
noncomputable def Tryd.pinned : Pinned := { name := "ytjgifhegfadohaadoor", sum := "ada4cf732c3df4fdf367b95a7c6e337f0432ba45f8b8c29f1cbf65350223a0d9", checked := Tryd.checked }
namespace Rows
def none {H : Type} : Left H := { results := [], args := [] }

/- WHAT THE LISTED PACKAGE-LEVEL VARIABLES READ AS WHEN THE CALL BEGINS. Each datum BY PROGRAM (the guide's laid-datum.mjs) off the statement by which the dump's own 'gosem.cut.vars' lays the variable. In a bare row this is a premise. The card (YtjgifhegfadohaaDoorCards.lean) ties it to the program's text. -/
def laid_coachhouse_slot_fields {H : Type} : DataW H := .agg [.agg [.lit (.int .i64 0), .lit (.int .i64 3)], .agg [.lit (.int .i64 3), .lit (.int .i64 4)], .agg [.lit (.int .i64 7), .lit (.int .i64 8)], .agg [.lit (.int .i64 15), .lit (.int .i64 1)], .agg [.lit (.int .i64 16), .lit (.int .i64 1)], .agg [.lit (.int .i64 17), .lit (.int .i64 6)], .agg [.lit (.int .i64 23), .lit (.int .i64 12)], .agg [.lit (.int .i64 35), .lit (.int .i64 12)], .agg [.lit (.int .i64 47), .lit (.int .i64 15)]]

/-- 'coachhouselaw12.ConfTells': WHATEVER THE INPUT: true; the input reads as it did. -/
def confTellsSpec : ChangeSpec := { name := "confTells", fn := fun _ => fun
  | [d1, d2, d3] => { results := [.lit (.bool true)], args := [d1, d2, d3] }
  | _ => none }
def confTellsRow : OpenClaim := { program := "ytjgifhegfadohaadoor", sum := "ada4cf732c3df4fdf367b95a7c6e337f0432ba45f8b8c29f1cbf65350223a0d9", func := "coachhouse/coachhouselaw12.ConfTells", spec := "confTells", unfollowed := true, recurses := true, named := ["coachhouse/slot.fields"], apart := false, laid := [("coachhouse/slot.fields", laid_coachhouse_slot_fields)] }
def ConfTellsSaid : Prop := confTellsRow.holds Tryd.pinned (OpenSpec.ofChange confTellsSpec)

/-- ITS FALSE NEIGHBOUR: 'it returns false'. Refute it at one input. -/
def confTellsWrong : ChangeSpec := { name := "confTells", fn := fun _ => fun
  | [d1, d2, d3] => { results := [.lit (.bool false)], args := [d1, d2, d3] }
  | _ => none }
def ConfTellsWrongFalsely : Prop := confTellsRow.holds Tryd.pinned (OpenSpec.ofChange confTellsWrong)

/-- 'coachhouselaw12.ConfApart': WHATEVER THE INPUT: true; the input reads as it did. -/
def confApartSpec : ChangeSpec := { name := "confApart", fn := fun _ => fun
  | [d] => { results := [.lit (.bool true)], args := [d] }
  | _ => none }
def confApartRow : OpenClaim := { program := "ytjgifhegfadohaadoor", sum := "ada4cf732c3df4fdf367b95a7c6e337f0432ba45f8b8c29f1cbf65350223a0d9", func := "coachhouse/coachhouselaw12.ConfApart", spec := "confApart", unfollowed := true, recurses := true, named := ["coachhouse/slot.fields"], apart := false, laid := [("coachhouse/slot.fields", laid_coachhouse_slot_fields)] }
def ConfApartSaid : Prop := confApartRow.holds Tryd.pinned (OpenSpec.ofChange confApartSpec)

/-- ITS FALSE NEIGHBOUR: 'it returns false'. Refute it at one input. -/
def confApartWrong : ChangeSpec := { name := "confApart", fn := fun _ => fun
  | [d] => { results := [.lit (.bool false)], args := [d] }
  | _ => none }
def ConfApartWrongFalsely : Prop := confApartRow.holds Tryd.pinned (OpenSpec.ofChange confApartWrong)

/-- 'coachhouselaw12.ConfMore': WHATEVER THE INPUT: true; the input reads as it did. -/
def confMoreSpec : ChangeSpec := { name := "confMore", fn := fun _ => fun
  | [d1, d2, d3] => { results := [.lit (.bool true)], args := [d1, d2, d3] }
  | _ => none }
def confMoreRow : OpenClaim := { program := "ytjgifhegfadohaadoor", sum := "ada4cf732c3df4fdf367b95a7c6e337f0432ba45f8b8c29f1cbf65350223a0d9", func := "coachhouse/coachhouselaw12.ConfMore", spec := "confMore", unfollowed := true, recurses := true, named := ["coachhouse/slot.fields"], apart := false, laid := [("coachhouse/slot.fields", laid_coachhouse_slot_fields)] }
def ConfMoreSaid : Prop := confMoreRow.holds Tryd.pinned (OpenSpec.ofChange confMoreSpec)

/-- ITS FALSE NEIGHBOUR: 'it returns false'. Refute it at one input. -/
def confMoreWrong : ChangeSpec := { name := "confMore", fn := fun _ => fun
  | [d1, d2, d3] => { results := [.lit (.bool false)], args := [d1, d2, d3] }
  | _ => none }
def ConfMoreWrongFalsely : Prop := confMoreRow.holds Tryd.pinned (OpenSpec.ofChange confMoreWrong)

/-- 'coachhouselaw12.ConfSlots': WHATEVER THE INPUT: true; the input reads as it did. -/
def confSlotsSpec : ChangeSpec := { name := "confSlots", fn := fun _ => fun
  | [d1, d2] => { results := [.lit (.bool true)], args := [d1, d2] }
  | _ => none }
def confSlotsRow : OpenClaim := { program := "ytjgifhegfadohaadoor", sum := "ada4cf732c3df4fdf367b95a7c6e337f0432ba45f8b8c29f1cbf65350223a0d9", func := "coachhouse/coachhouselaw12.ConfSlots", spec := "confSlots", unfollowed := true, recurses := true, named := ["coachhouse/slot.fields"], apart := false, laid := [("coachhouse/slot.fields", laid_coachhouse_slot_fields)] }
def ConfSlotsSaid : Prop := confSlotsRow.holds Tryd.pinned (OpenSpec.ofChange confSlotsSpec)

/-- ITS FALSE NEIGHBOUR: 'it returns false'. Refute it at one input. -/
def confSlotsWrong : ChangeSpec := { name := "confSlots", fn := fun _ => fun
  | [d1, d2] => { results := [.lit (.bool false)], args := [d1, d2] }
  | _ => none }
def ConfSlotsWrongFalsely : Prop := confSlotsRow.holds Tryd.pinned (OpenSpec.ofChange confSlotsWrong)

/-- 'coachhouselaw08.LifeTells': WHATEVER THE INPUT: true; the input reads as it did. -/
def lifeTellsSpec : ChangeSpec := { name := "lifeTells", fn := fun _ => fun
  | [d1, d2, d3, d4] => { results := [.lit (.bool true)], args := [d1, d2, d3, d4] }
  | _ => none }
def lifeTellsRow : OpenClaim := { program := "ytjgifhegfadohaadoor", sum := "ada4cf732c3df4fdf367b95a7c6e337f0432ba45f8b8c29f1cbf65350223a0d9", func := "coachhouse/coachhouselaw08.LifeTells", spec := "lifeTells", unfollowed := true, recurses := true, named := ["coachhouse/slot.fields"], apart := false, laid := [("coachhouse/slot.fields", laid_coachhouse_slot_fields)] }
def LifeTellsSaid : Prop := lifeTellsRow.holds Tryd.pinned (OpenSpec.ofChange lifeTellsSpec)

/-- ITS FALSE NEIGHBOUR: 'it returns false'. Refute it at one input. -/
def lifeTellsWrong : ChangeSpec := { name := "lifeTells", fn := fun _ => fun
  | [d1, d2, d3, d4] => { results := [.lit (.bool false)], args := [d1, d2, d3, d4] }
  | _ => none }
def LifeTellsWrongFalsely : Prop := lifeTellsRow.holds Tryd.pinned (OpenSpec.ofChange lifeTellsWrong)

/-- 'coachhouselaw08.LifeRight': WHATEVER THE INPUT: true; the input reads as it did. -/
def lifeRightSpec : ChangeSpec := { name := "lifeRight", fn := fun _ => fun
  | [d1, d2, d3, d4] => { results := [.lit (.bool true)], args := [d1, d2, d3, d4] }
  | _ => none }
def lifeRightRow : OpenClaim := { program := "ytjgifhegfadohaadoor", sum := "ada4cf732c3df4fdf367b95a7c6e337f0432ba45f8b8c29f1cbf65350223a0d9", func := "coachhouse/coachhouselaw08.LifeRight", spec := "lifeRight", unfollowed := true, recurses := true, named := ["coachhouse/slot.fields"], apart := false, laid := [("coachhouse/slot.fields", laid_coachhouse_slot_fields)] }
def LifeRightSaid : Prop := lifeRightRow.holds Tryd.pinned (OpenSpec.ofChange lifeRightSpec)

/-- ITS FALSE NEIGHBOUR: 'it returns false'. Refute it at one input. -/
def lifeRightWrong : ChangeSpec := { name := "lifeRight", fn := fun _ => fun
  | [d1, d2, d3, d4] => { results := [.lit (.bool false)], args := [d1, d2, d3, d4] }
  | _ => none }
def LifeRightWrongFalsely : Prop := lifeRightRow.holds Tryd.pinned (OpenSpec.ofChange lifeRightWrong)

/-- 'coachhouselaw08.LifeRuns': WHATEVER THE INPUT: true; the input reads as it did. -/
def lifeRunsSpec : ChangeSpec := { name := "lifeRuns", fn := fun _ => fun
  | [d1, d2] => { results := [.lit (.bool true)], args := [d1, d2] }
  | _ => none }
def lifeRunsRow : OpenClaim := { program := "ytjgifhegfadohaadoor", sum := "ada4cf732c3df4fdf367b95a7c6e337f0432ba45f8b8c29f1cbf65350223a0d9", func := "coachhouse/coachhouselaw08.LifeRuns", spec := "lifeRuns", unfollowed := true, recurses := true, named := ["coachhouse/slot.fields"], apart := false, laid := [("coachhouse/slot.fields", laid_coachhouse_slot_fields)] }
def LifeRunsSaid : Prop := lifeRunsRow.holds Tryd.pinned (OpenSpec.ofChange lifeRunsSpec)

/-- ITS FALSE NEIGHBOUR: 'it returns false'. Refute it at one input. -/
def lifeRunsWrong : ChangeSpec := { name := "lifeRuns", fn := fun _ => fun
  | [d1, d2] => { results := [.lit (.bool false)], args := [d1, d2] }
  | _ => none }
def LifeRunsWrongFalsely : Prop := lifeRunsRow.holds Tryd.pinned (OpenSpec.ofChange lifeRunsWrong)

/-- 'coachhouselaw08.LifeOwn': WHATEVER THE INPUT: true; the input reads as it did. -/
def lifeOwnSpec : ChangeSpec := { name := "lifeOwn", fn := fun _ => fun
  | [d1, d2, d3, d4] => { results := [.lit (.bool true)], args := [d1, d2, d3, d4] }
  | _ => none }
def lifeOwnRow : OpenClaim := { program := "ytjgifhegfadohaadoor", sum := "ada4cf732c3df4fdf367b95a7c6e337f0432ba45f8b8c29f1cbf65350223a0d9", func := "coachhouse/coachhouselaw08.LifeOwn", spec := "lifeOwn", unfollowed := true, recurses := true, named := ["coachhouse/slot.fields"], apart := false, laid := [("coachhouse/slot.fields", laid_coachhouse_slot_fields)] }
def LifeOwnSaid : Prop := lifeOwnRow.holds Tryd.pinned (OpenSpec.ofChange lifeOwnSpec)

/-- ITS FALSE NEIGHBOUR: 'it returns false'. Refute it at one input. -/
def lifeOwnWrong : ChangeSpec := { name := "lifeOwn", fn := fun _ => fun
  | [d1, d2, d3, d4] => { results := [.lit (.bool false)], args := [d1, d2, d3, d4] }
  | _ => none }
def LifeOwnWrongFalsely : Prop := lifeOwnRow.holds Tryd.pinned (OpenSpec.ofChange lifeOwnWrong)

/-- 'coachhouselaw08.LifeStreams': WHATEVER THE INPUT: true; the input reads as it did. -/
def lifeStreamsSpec : ChangeSpec := { name := "lifeStreams", fn := fun _ => fun
  | [d1, d2, d3] => { results := [.lit (.bool true)], args := [d1, d2, d3] }
  | _ => none }
def lifeStreamsRow : OpenClaim := { program := "ytjgifhegfadohaadoor", sum := "ada4cf732c3df4fdf367b95a7c6e337f0432ba45f8b8c29f1cbf65350223a0d9", func := "coachhouse/coachhouselaw08.LifeStreams", spec := "lifeStreams", unfollowed := true, recurses := true, named := ["coachhouse/slot.fields"], apart := false, laid := [("coachhouse/slot.fields", laid_coachhouse_slot_fields)] }
def LifeStreamsSaid : Prop := lifeStreamsRow.holds Tryd.pinned (OpenSpec.ofChange lifeStreamsSpec)

/-- ITS FALSE NEIGHBOUR: 'it returns false'. Refute it at one input. -/
def lifeStreamsWrong : ChangeSpec := { name := "lifeStreams", fn := fun _ => fun
  | [d1, d2, d3] => { results := [.lit (.bool false)], args := [d1, d2, d3] }
  | _ => none }
def LifeStreamsWrongFalsely : Prop := lifeStreamsRow.holds Tryd.pinned (OpenSpec.ofChange lifeStreamsWrong)

/-- 'coachhouselaw08.LifeBack': WHATEVER THE INPUT: true; the input reads as it did. -/
def lifeBackSpec : ChangeSpec := { name := "lifeBack", fn := fun _ => fun
  | [d1, d2, d3, d4] => { results := [.lit (.bool true)], args := [d1, d2, d3, d4] }
  | _ => none }
def lifeBackRow : OpenClaim := { program := "ytjgifhegfadohaadoor", sum := "ada4cf732c3df4fdf367b95a7c6e337f0432ba45f8b8c29f1cbf65350223a0d9", func := "coachhouse/coachhouselaw08.LifeBack", spec := "lifeBack", unfollowed := true, recurses := true, named := ["coachhouse/slot.fields"], apart := false, laid := [("coachhouse/slot.fields", laid_coachhouse_slot_fields)] }
def LifeBackSaid : Prop := lifeBackRow.holds Tryd.pinned (OpenSpec.ofChange lifeBackSpec)

/-- ITS FALSE NEIGHBOUR: 'it returns false'. Refute it at one input. -/
def lifeBackWrong : ChangeSpec := { name := "lifeBack", fn := fun _ => fun
  | [d1, d2, d3, d4] => { results := [.lit (.bool false)], args := [d1, d2, d3, d4] }
  | _ => none }
def LifeBackWrongFalsely : Prop := lifeBackRow.holds Tryd.pinned (OpenSpec.ofChange lifeBackWrong)

/-- 'coachhouselaw08.LifeLittle': WHATEVER THE INPUT: true; the input reads as it did. -/
def lifeLittleSpec : ChangeSpec := { name := "lifeLittle", fn := fun _ => fun
  | [d1, d2] => { results := [.lit (.bool true)], args := [d1, d2] }
  | _ => none }
def lifeLittleRow : OpenClaim := { program := "ytjgifhegfadohaadoor", sum := "ada4cf732c3df4fdf367b95a7c6e337f0432ba45f8b8c29f1cbf65350223a0d9", func := "coachhouse/coachhouselaw08.LifeLittle", spec := "lifeLittle", unfollowed := true, recurses := true, named := ["coachhouse/slot.fields"], apart := false, laid := [("coachhouse/slot.fields", laid_coachhouse_slot_fields)] }
def LifeLittleSaid : Prop := lifeLittleRow.holds Tryd.pinned (OpenSpec.ofChange lifeLittleSpec)

/-- ITS FALSE NEIGHBOUR: 'it returns false'. Refute it at one input. -/
def lifeLittleWrong : ChangeSpec := { name := "lifeLittle", fn := fun _ => fun
  | [d1, d2] => { results := [.lit (.bool false)], args := [d1, d2] }
  | _ => none }
def LifeLittleWrongFalsely : Prop := lifeLittleRow.holds Tryd.pinned (OpenSpec.ofChange lifeLittleWrong)

/- THE SECOND FORM. 'bulk': how many values and letters a reading holds, each counted each time it is reached (what is shared counts as often as it is met; a slice's spare places count too). A statement '..UptoSaid' is the law's where the arguments, and the package variables that the reading takes, are together of bulk at most 1048576: NARROWER than '..Said'. Prove '..Said' where nothing that the law and all that it calls make is longer than what came in: it says more and counts as full. Else prove '..UptoSaid'. A law counts once. -/
mutual
def uptoBulk {H : Type} : DataW H → Nat
  | .lit (.string bytes) => bytes.length + 1
  | .lit _ => 1
  | .nil => 1
  | .ptr d => uptoBulk d + 1
  | .slice elems spare => uptoBulkAll elems + uptoBulkAll spare + 1
  | .agg parts => uptoBulkAll parts + 1
  | .iface _ d => uptoBulk d + 1
  | .map entries => uptoBulkEntries entries + 1
  | .held _ => 1
def uptoBulkAll {H : Type} : List (DataW H) → Nat
  | [] => 0
  | d :: r => uptoBulk d + uptoBulkAll r
def uptoBulkEntries {H : Type} : List (Lit × DataW H) → Nat
  | [] => 0
  | x :: r => uptoBulkEntry x + uptoBulkEntries r
def uptoBulkEntry {H : Type} : Lit × DataW H → Nat
  | (.string bytes, d) => bytes.length + uptoBulk d + 1
  | (_, d) => uptoBulk d + 1
 end
def uptoSmall : (H : Type) → List (DataW H) → Bool := fun _ ds => decide (uptoBulkAll ds ≤ 1048576)
def OpenSpec.upto (s : _root_.Go.ChangeSpec) : _root_.Go.OpenSpec := { _root_.Go.OpenSpec.ofChange s with cond := some uptoSmall }

/-- 'coachhouselaw12.ConfTells', WHERE WHAT IT READS IS OF BULK AT MOST 1048576: true; the input reads as it did. -/
def confTellsUptoRow : OpenClaim := { program := "ytjgifhegfadohaadoor", sum := "ada4cf732c3df4fdf367b95a7c6e337f0432ba45f8b8c29f1cbf65350223a0d9", func := "coachhouse/coachhouselaw12.ConfTells", spec := "confTells", unfollowed := true, recurses := true, named := ["coachhouse/slot.fields"], apart := false, laid := [("coachhouse/slot.fields", laid_coachhouse_slot_fields)], narrowed := true }
def ConfTellsUptoSaid : Prop := confTellsUptoRow.holds Tryd.pinned (OpenSpec.upto confTellsSpec)

/-- 'coachhouselaw12.ConfApart', WHERE WHAT IT READS IS OF BULK AT MOST 1048576: true; the input reads as it did. -/
def confApartUptoRow : OpenClaim := { program := "ytjgifhegfadohaadoor", sum := "ada4cf732c3df4fdf367b95a7c6e337f0432ba45f8b8c29f1cbf65350223a0d9", func := "coachhouse/coachhouselaw12.ConfApart", spec := "confApart", unfollowed := true, recurses := true, named := ["coachhouse/slot.fields"], apart := false, laid := [("coachhouse/slot.fields", laid_coachhouse_slot_fields)], narrowed := true }
def ConfApartUptoSaid : Prop := confApartUptoRow.holds Tryd.pinned (OpenSpec.upto confApartSpec)

/-- 'coachhouselaw12.ConfMore', WHERE WHAT IT READS IS OF BULK AT MOST 1048576: true; the input reads as it did. -/
def confMoreUptoRow : OpenClaim := { program := "ytjgifhegfadohaadoor", sum := "ada4cf732c3df4fdf367b95a7c6e337f0432ba45f8b8c29f1cbf65350223a0d9", func := "coachhouse/coachhouselaw12.ConfMore", spec := "confMore", unfollowed := true, recurses := true, named := ["coachhouse/slot.fields"], apart := false, laid := [("coachhouse/slot.fields", laid_coachhouse_slot_fields)], narrowed := true }
def ConfMoreUptoSaid : Prop := confMoreUptoRow.holds Tryd.pinned (OpenSpec.upto confMoreSpec)

/-- 'coachhouselaw12.ConfSlots', WHERE WHAT IT READS IS OF BULK AT MOST 1048576: true; the input reads as it did. -/
def confSlotsUptoRow : OpenClaim := { program := "ytjgifhegfadohaadoor", sum := "ada4cf732c3df4fdf367b95a7c6e337f0432ba45f8b8c29f1cbf65350223a0d9", func := "coachhouse/coachhouselaw12.ConfSlots", spec := "confSlots", unfollowed := true, recurses := true, named := ["coachhouse/slot.fields"], apart := false, laid := [("coachhouse/slot.fields", laid_coachhouse_slot_fields)], narrowed := true }
def ConfSlotsUptoSaid : Prop := confSlotsUptoRow.holds Tryd.pinned (OpenSpec.upto confSlotsSpec)

/-- 'coachhouselaw08.LifeTells', WHERE WHAT IT READS IS OF BULK AT MOST 1048576: true; the input reads as it did. -/
def lifeTellsUptoRow : OpenClaim := { program := "ytjgifhegfadohaadoor", sum := "ada4cf732c3df4fdf367b95a7c6e337f0432ba45f8b8c29f1cbf65350223a0d9", func := "coachhouse/coachhouselaw08.LifeTells", spec := "lifeTells", unfollowed := true, recurses := true, named := ["coachhouse/slot.fields"], apart := false, laid := [("coachhouse/slot.fields", laid_coachhouse_slot_fields)], narrowed := true }
def LifeTellsUptoSaid : Prop := lifeTellsUptoRow.holds Tryd.pinned (OpenSpec.upto lifeTellsSpec)

/-- 'coachhouselaw08.LifeRight', WHERE WHAT IT READS IS OF BULK AT MOST 1048576: true; the input reads as it did. -/
def lifeRightUptoRow : OpenClaim := { program := "ytjgifhegfadohaadoor", sum := "ada4cf732c3df4fdf367b95a7c6e337f0432ba45f8b8c29f1cbf65350223a0d9", func := "coachhouse/coachhouselaw08.LifeRight", spec := "lifeRight", unfollowed := true, recurses := true, named := ["coachhouse/slot.fields"], apart := false, laid := [("coachhouse/slot.fields", laid_coachhouse_slot_fields)], narrowed := true }
def LifeRightUptoSaid : Prop := lifeRightUptoRow.holds Tryd.pinned (OpenSpec.upto lifeRightSpec)

/-- 'coachhouselaw08.LifeRuns', WHERE WHAT IT READS IS OF BULK AT MOST 1048576: true; the input reads as it did. -/
def lifeRunsUptoRow : OpenClaim := { program := "ytjgifhegfadohaadoor", sum := "ada4cf732c3df4fdf367b95a7c6e337f0432ba45f8b8c29f1cbf65350223a0d9", func := "coachhouse/coachhouselaw08.LifeRuns", spec := "lifeRuns", unfollowed := true, recurses := true, named := ["coachhouse/slot.fields"], apart := false, laid := [("coachhouse/slot.fields", laid_coachhouse_slot_fields)], narrowed := true }
def LifeRunsUptoSaid : Prop := lifeRunsUptoRow.holds Tryd.pinned (OpenSpec.upto lifeRunsSpec)

/-- 'coachhouselaw08.LifeOwn', WHERE WHAT IT READS IS OF BULK AT MOST 1048576: true; the input reads as it did. -/
def lifeOwnUptoRow : OpenClaim := { program := "ytjgifhegfadohaadoor", sum := "ada4cf732c3df4fdf367b95a7c6e337f0432ba45f8b8c29f1cbf65350223a0d9", func := "coachhouse/coachhouselaw08.LifeOwn", spec := "lifeOwn", unfollowed := true, recurses := true, named := ["coachhouse/slot.fields"], apart := false, laid := [("coachhouse/slot.fields", laid_coachhouse_slot_fields)], narrowed := true }
def LifeOwnUptoSaid : Prop := lifeOwnUptoRow.holds Tryd.pinned (OpenSpec.upto lifeOwnSpec)

/-- 'coachhouselaw08.LifeStreams', WHERE WHAT IT READS IS OF BULK AT MOST 1048576: true; the input reads as it did. -/
def lifeStreamsUptoRow : OpenClaim := { program := "ytjgifhegfadohaadoor", sum := "ada4cf732c3df4fdf367b95a7c6e337f0432ba45f8b8c29f1cbf65350223a0d9", func := "coachhouse/coachhouselaw08.LifeStreams", spec := "lifeStreams", unfollowed := true, recurses := true, named := ["coachhouse/slot.fields"], apart := false, laid := [("coachhouse/slot.fields", laid_coachhouse_slot_fields)], narrowed := true }
def LifeStreamsUptoSaid : Prop := lifeStreamsUptoRow.holds Tryd.pinned (OpenSpec.upto lifeStreamsSpec)

/-- 'coachhouselaw08.LifeBack', WHERE WHAT IT READS IS OF BULK AT MOST 1048576: true; the input reads as it did. -/
def lifeBackUptoRow : OpenClaim := { program := "ytjgifhegfadohaadoor", sum := "ada4cf732c3df4fdf367b95a7c6e337f0432ba45f8b8c29f1cbf65350223a0d9", func := "coachhouse/coachhouselaw08.LifeBack", spec := "lifeBack", unfollowed := true, recurses := true, named := ["coachhouse/slot.fields"], apart := false, laid := [("coachhouse/slot.fields", laid_coachhouse_slot_fields)], narrowed := true }
def LifeBackUptoSaid : Prop := lifeBackUptoRow.holds Tryd.pinned (OpenSpec.upto lifeBackSpec)

/-- 'coachhouselaw08.LifeLittle', WHERE WHAT IT READS IS OF BULK AT MOST 1048576: true; the input reads as it did. -/
def lifeLittleUptoRow : OpenClaim := { program := "ytjgifhegfadohaadoor", sum := "ada4cf732c3df4fdf367b95a7c6e337f0432ba45f8b8c29f1cbf65350223a0d9", func := "coachhouse/coachhouselaw08.LifeLittle", spec := "lifeLittle", unfollowed := true, recurses := true, named := ["coachhouse/slot.fields"], apart := false, laid := [("coachhouse/slot.fields", laid_coachhouse_slot_fields)], narrowed := true }
def LifeLittleUptoSaid : Prop := lifeLittleUptoRow.holds Tryd.pinned (OpenSpec.upto lifeLittleSpec)

end Rows
end Go.Proofs.YtjgifhegfadohaaDoor
