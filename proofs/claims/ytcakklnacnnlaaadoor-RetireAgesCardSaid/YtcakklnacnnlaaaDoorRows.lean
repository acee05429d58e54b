/-
  NARROWER THAN 'FOR EVERY INPUT', by the rows' own cells (each row's printed sentence says how): FindFits: laid · FindKinds: laid · FindFrom: laid · FindWas: laid · FindFirst: laid · FindPlays: laid · RetireAges: laid · RetireOne: laid · RetireKeeps: laid · RetirePlays: laid.
  DERIVED. THE GIVEN ROWS OF THIS SEAT. 10 by the template 'for every input the law returns true; each argument reads behind the call as it read before'; 0 by the template 'total and deterministic' (their statements: YtcakklnacnnlaaaDoorTotals.lean).
  GIVEN WITH THE SEED: the statements are not yours to turn. If you find one false, say at which input.
  Laid BY PROGRAM, IN A SANDBOX (cutbox-rows.mjs): the forced cells as the released guide's own fill.sh prints them over the translation cba377a1d9d0abd7… (all of the seat's roots in one cut). By AI agents, Wed Nov 11 2026. No macro, syntax, notation, axiom, sorry.
-/
import Derived.Test.YtcakklnacnnlaaaDoorChecked
import GoSem.Claim
import GoSem.ClaimJoined
import GoSem.ClaimMapViews
import Derived.JoinedTies
import Derived.KernelRfl
namespace Go.Proofs.YtcakklnacnnlaaaDoor
/- THE CELL 'sum', in the pinned program and in every row, IS THE sha256 OF THE DUMP (.gsa) THAT YtcakklnacnnlaaaDoorProg.lean LOADS. Nothing in Lean hashes anything: it is a label: what it is worth is what the hold of that sum in a sandbox is worth. -/
noncomputable def Tryd.pinned : Pinned := { name := "ytcakklnacnnlaaadoor", sum := "cba377a1d9d0abd728ecc1d8e294579e514c1a2305d2a4131fd5a4700b1f3f97", checked := Tryd.checked }
namespace Rows
def none {H : Type} : Left H := { results := [], args := [] }

/- WHAT THE LISTED PACKAGE-LEVEL VARIABLES READ AS WHEN THE CALL BEGINS. Each datum BY PROGRAM (the guide's laid-datum.mjs) off the statement by which the dump's own 'gosem.cut.vars' lays the variable. In a bare row this is a premise. The card (YtcakklnacnnlaaaDoorCards.lean) ties it to the program's text. -/
def laid_coachhouse_slot_fields {H : Type} : DataW H := .agg [.agg [.lit (.int .i64 0), .lit (.int .i64 3)], .agg [.lit (.int .i64 3), .lit (.int .i64 4)], .agg [.lit (.int .i64 7), .lit (.int .i64 8)], .agg [.lit (.int .i64 15), .lit (.int .i64 1)], .agg [.lit (.int .i64 16), .lit (.int .i64 1)], .agg [.lit (.int .i64 17), .lit (.int .i64 6)], .agg [.lit (.int .i64 23), .lit (.int .i64 12)], .agg [.lit (.int .i64 35), .lit (.int .i64 12)], .agg [.lit (.int .i64 47), .lit (.int .i64 15)]]

/-- 'coachhouselaw14.FindFits': WHATEVER THE INPUT: true; the input reads as it did. -/
def findFitsSpec : ChangeSpec := { name := "findFits", fn := fun _ => fun
  | [d1, d2, d3] => { results := [.lit (.bool true)], args := [d1, d2, d3] }
  | _ => none }
def findFitsRow : OpenClaim := { program := "ytcakklnacnnlaaadoor", sum := "cba377a1d9d0abd728ecc1d8e294579e514c1a2305d2a4131fd5a4700b1f3f97", func := "coachhouse/coachhouselaw14.FindFits", spec := "findFits", unfollowed := true, recurses := true, named := ["coachhouse/slot.fields"], apart := false, laid := [("coachhouse/slot.fields", laid_coachhouse_slot_fields)] }
def FindFitsSaid : Prop := findFitsRow.holds Tryd.pinned (OpenSpec.ofChange findFitsSpec)

/-- ITS FALSE NEIGHBOUR: 'it returns false'. Refute it at one input. -/
def findFitsWrong : ChangeSpec := { name := "findFits", fn := fun _ => fun
  | [d1, d2, d3] => { results := [.lit (.bool false)], args := [d1, d2, d3] }
  | _ => none }
def FindFitsWrongFalsely : Prop := findFitsRow.holds Tryd.pinned (OpenSpec.ofChange findFitsWrong)

/-- 'coachhouselaw14.FindKinds': WHATEVER THE INPUT: true; the input reads as it did. -/
def findKindsSpec : ChangeSpec := { name := "findKinds", fn := fun _ => fun
  | [d1, d2] => { results := [.lit (.bool true)], args := [d1, d2] }
  | _ => none }
def findKindsRow : OpenClaim := { program := "ytcakklnacnnlaaadoor", sum := "cba377a1d9d0abd728ecc1d8e294579e514c1a2305d2a4131fd5a4700b1f3f97", func := "coachhouse/coachhouselaw14.FindKinds", spec := "findKinds", unfollowed := true, recurses := true, named := ["coachhouse/slot.fields"], apart := false, laid := [("coachhouse/slot.fields", laid_coachhouse_slot_fields)] }
def FindKindsSaid : Prop := findKindsRow.holds Tryd.pinned (OpenSpec.ofChange findKindsSpec)

/-- ITS FALSE NEIGHBOUR: 'it returns false'. Refute it at one input. -/
def findKindsWrong : ChangeSpec := { name := "findKinds", fn := fun _ => fun
  | [d1, d2] => { results := [.lit (.bool false)], args := [d1, d2] }
  | _ => none }
def FindKindsWrongFalsely : Prop := findKindsRow.holds Tryd.pinned (OpenSpec.ofChange findKindsWrong)

/-- 'coachhouselaw14.FindFrom': WHATEVER THE INPUT: true; the input reads as it did. -/
def findFromSpec : ChangeSpec := { name := "findFrom", fn := fun _ => fun
  | [d1, d2, d3, d4] => { results := [.lit (.bool true)], args := [d1, d2, d3, d4] }
  | _ => none }
def findFromRow : OpenClaim := { program := "ytcakklnacnnlaaadoor", sum := "cba377a1d9d0abd728ecc1d8e294579e514c1a2305d2a4131fd5a4700b1f3f97", func := "coachhouse/coachhouselaw14.FindFrom", spec := "findFrom", unfollowed := true, recurses := true, named := ["coachhouse/slot.fields"], apart := false, laid := [("coachhouse/slot.fields", laid_coachhouse_slot_fields)] }
def FindFromSaid : Prop := findFromRow.holds Tryd.pinned (OpenSpec.ofChange findFromSpec)

/-- ITS FALSE NEIGHBOUR: 'it returns false'. Refute it at one input. -/
def findFromWrong : ChangeSpec := { name := "findFrom", fn := fun _ => fun
  | [d1, d2, d3, d4] => { results := [.lit (.bool false)], args := [d1, d2, d3, d4] }
  | _ => none }
def FindFromWrongFalsely : Prop := findFromRow.holds Tryd.pinned (OpenSpec.ofChange findFromWrong)

/-- 'coachhouselaw14.FindWas': WHATEVER THE INPUT: true; the input reads as it did. -/
def findWasSpec : ChangeSpec := { name := "findWas", fn := fun _ => fun
  | [d1, d2, d3, d4] => { results := [.lit (.bool true)], args := [d1, d2, d3, d4] }
  | _ => none }
def findWasRow : OpenClaim := { program := "ytcakklnacnnlaaadoor", sum := "cba377a1d9d0abd728ecc1d8e294579e514c1a2305d2a4131fd5a4700b1f3f97", func := "coachhouse/coachhouselaw14.FindWas", spec := "findWas", unfollowed := true, recurses := true, named := ["coachhouse/slot.fields"], apart := false, laid := [("coachhouse/slot.fields", laid_coachhouse_slot_fields)] }
def FindWasSaid : Prop := findWasRow.holds Tryd.pinned (OpenSpec.ofChange findWasSpec)

/-- ITS FALSE NEIGHBOUR: 'it returns false'. Refute it at one input. -/
def findWasWrong : ChangeSpec := { name := "findWas", fn := fun _ => fun
  | [d1, d2, d3, d4] => { results := [.lit (.bool false)], args := [d1, d2, d3, d4] }
  | _ => none }
def FindWasWrongFalsely : Prop := findWasRow.holds Tryd.pinned (OpenSpec.ofChange findWasWrong)

/-- 'coachhouselaw14.FindFirst': WHATEVER THE INPUT: true; the input reads as it did. -/
def findFirstSpec : ChangeSpec := { name := "findFirst", fn := fun _ => fun
  | [d1, d2, d3] => { results := [.lit (.bool true)], args := [d1, d2, d3] }
  | _ => none }
def findFirstRow : OpenClaim := { program := "ytcakklnacnnlaaadoor", sum := "cba377a1d9d0abd728ecc1d8e294579e514c1a2305d2a4131fd5a4700b1f3f97", func := "coachhouse/coachhouselaw14.FindFirst", spec := "findFirst", unfollowed := true, recurses := true, named := ["coachhouse/slot.fields"], apart := false, laid := [("coachhouse/slot.fields", laid_coachhouse_slot_fields)] }
def FindFirstSaid : Prop := findFirstRow.holds Tryd.pinned (OpenSpec.ofChange findFirstSpec)

/-- ITS FALSE NEIGHBOUR: 'it returns false'. Refute it at one input. -/
def findFirstWrong : ChangeSpec := { name := "findFirst", fn := fun _ => fun
  | [d1, d2, d3] => { results := [.lit (.bool false)], args := [d1, d2, d3] }
  | _ => none }
def FindFirstWrongFalsely : Prop := findFirstRow.holds Tryd.pinned (OpenSpec.ofChange findFirstWrong)

/-- 'coachhouselaw14.FindPlays': WHATEVER THE INPUT: true; the input reads as it did. -/
def findPlaysSpec : ChangeSpec := { name := "findPlays", fn := fun _ => fun
  | [d1, d2, d3, d4, d5, d6] => { results := [.lit (.bool true)], args := [d1, d2, d3, d4, d5, d6] }
  | _ => none }
def findPlaysRow : OpenClaim := { program := "ytcakklnacnnlaaadoor", sum := "cba377a1d9d0abd728ecc1d8e294579e514c1a2305d2a4131fd5a4700b1f3f97", func := "coachhouse/coachhouselaw14.FindPlays", spec := "findPlays", unfollowed := true, recurses := true, named := ["coachhouse/slot.fields"], apart := false, laid := [("coachhouse/slot.fields", laid_coachhouse_slot_fields)] }
def FindPlaysSaid : Prop := findPlaysRow.holds Tryd.pinned (OpenSpec.ofChange findPlaysSpec)

/-- ITS FALSE NEIGHBOUR: 'it returns false'. Refute it at one input. -/
def findPlaysWrong : ChangeSpec := { name := "findPlays", fn := fun _ => fun
  | [d1, d2, d3, d4, d5, d6] => { results := [.lit (.bool false)], args := [d1, d2, d3, d4, d5, d6] }
  | _ => none }
def FindPlaysWrongFalsely : Prop := findPlaysRow.holds Tryd.pinned (OpenSpec.ofChange findPlaysWrong)

/-- 'coachhouselaw16.RetireAges': WHATEVER THE INPUT: true; the input reads as it did. -/
def retireAgesSpec : ChangeSpec := { name := "retireAges", fn := fun _ => fun
  | [d1, d2, d3] => { results := [.lit (.bool true)], args := [d1, d2, d3] }
  | _ => none }
def retireAgesRow : OpenClaim := { program := "ytcakklnacnnlaaadoor", sum := "cba377a1d9d0abd728ecc1d8e294579e514c1a2305d2a4131fd5a4700b1f3f97", func := "coachhouse/coachhouselaw16.RetireAges", spec := "retireAges", unfollowed := true, recurses := true, named := ["coachhouse/slot.fields"], apart := false, laid := [("coachhouse/slot.fields", laid_coachhouse_slot_fields)] }
def RetireAgesSaid : Prop := retireAgesRow.holds Tryd.pinned (OpenSpec.ofChange retireAgesSpec)

/-- ITS FALSE NEIGHBOUR: 'it returns false'. Refute it at one input. -/
def retireAgesWrong : ChangeSpec := { name := "retireAges", fn := fun _ => fun
  | [d1, d2, d3] => { results := [.lit (.bool false)], args := [d1, d2, d3] }
  | _ => none }
def RetireAgesWrongFalsely : Prop := retireAgesRow.holds Tryd.pinned (OpenSpec.ofChange retireAgesWrong)

/-- 'coachhouselaw16.RetireOne': WHATEVER THE INPUT: true; the input reads as it did. -/
def retireOneSpec : ChangeSpec := { name := "retireOne", fn := fun _ => fun
  | [d1, d2, d3] => { results := [.lit (.bool true)], args := [d1, d2, d3] }
  | _ => none }
def retireOneRow : OpenClaim := { program := "ytcakklnacnnlaaadoor", sum := "cba377a1d9d0abd728ecc1d8e294579e514c1a2305d2a4131fd5a4700b1f3f97", func := "coachhouse/coachhouselaw16.RetireOne", spec := "retireOne", unfollowed := true, recurses := true, named := ["coachhouse/slot.fields"], apart := false, laid := [("coachhouse/slot.fields", laid_coachhouse_slot_fields)] }
def RetireOneSaid : Prop := retireOneRow.holds Tryd.pinned (OpenSpec.ofChange retireOneSpec)

/-- ITS FALSE NEIGHBOUR: 'it returns false'. Refute it at one input. -/
def retireOneWrong : ChangeSpec := { name := "retireOne", fn := fun _ => fun
  | [d1, d2, d3] => { results := [.lit (.bool false)], args := [d1, d2, d3] }
  | _ => none }
def RetireOneWrongFalsely : Prop := retireOneRow.holds Tryd.pinned (OpenSpec.ofChange retireOneWrong)

/-- 'coachhouselaw16.RetireKeeps': WHATEVER THE INPUT: true; the input reads as it did. -/
def retireKeepsSpec : ChangeSpec := { name := "retireKeeps", fn := fun _ => fun
  | [d1, d2, d3] => { results := [.lit (.bool true)], args := [d1, d2, d3] }
  | _ => none }
def retireKeepsRow : OpenClaim := { program := "ytcakklnacnnlaaadoor", sum := "cba377a1d9d0abd728ecc1d8e294579e514c1a2305d2a4131fd5a4700b1f3f97", func := "coachhouse/coachhouselaw16.RetireKeeps", spec := "retireKeeps", unfollowed := true, recurses := true, named := ["coachhouse/slot.fields"], apart := false, laid := [("coachhouse/slot.fields", laid_coachhouse_slot_fields)] }
def RetireKeepsSaid : Prop := retireKeepsRow.holds Tryd.pinned (OpenSpec.ofChange retireKeepsSpec)

/-- ITS FALSE NEIGHBOUR: 'it returns false'. Refute it at one input. -/
def retireKeepsWrong : ChangeSpec := { name := "retireKeeps", fn := fun _ => fun
  | [d1, d2, d3] => { results := [.lit (.bool false)], args := [d1, d2, d3] }
  | _ => none }
def RetireKeepsWrongFalsely : Prop := retireKeepsRow.holds Tryd.pinned (OpenSpec.ofChange retireKeepsWrong)

/-- 'coachhouselaw16.RetirePlays': WHATEVER THE INPUT: true; the input reads as it did. -/
def retirePlaysSpec : ChangeSpec := { name := "retirePlays", fn := fun _ => fun
  | [d1, d2, d3, d4, d5] => { results := [.lit (.bool true)], args := [d1, d2, d3, d4, d5] }
  | _ => none }
def retirePlaysRow : OpenClaim := { program := "ytcakklnacnnlaaadoor", sum := "cba377a1d9d0abd728ecc1d8e294579e514c1a2305d2a4131fd5a4700b1f3f97", func := "coachhouse/coachhouselaw16.RetirePlays", spec := "retirePlays", unfollowed := true, recurses := true, named := ["coachhouse/slot.fields"], apart := false, laid := [("coachhouse/slot.fields", laid_coachhouse_slot_fields)] }
def RetirePlaysSaid : Prop := retirePlaysRow.holds Tryd.pinned (OpenSpec.ofChange retirePlaysSpec)

/-- ITS FALSE NEIGHBOUR: 'it returns false'. Refute it at one input. -/
def retirePlaysWrong : ChangeSpec := { name := "retirePlays", fn := fun _ => fun
  | [d1, d2, d3, d4, d5] => { results := [.lit (.bool false)], args := [d1, d2, d3, d4, d5] }
  | _ => none }
def RetirePlaysWrongFalsely : Prop := retirePlaysRow.holds Tryd.pinned (OpenSpec.ofChange retirePlaysWrong)

/- THE SECOND FORM. 'bulk': how many values and letters a reading holds, each counted each time it is reached (what is shared counts as often as it is met; a slice's spare places count too). A statement '..UptoSaid' is the law's where the arguments, and the package variables that the reading takes, are together of bulk at most 1048576: NARROWER than '..Said'. Prove '..Said' where nothing that the law and all that it calls make is longer than what came in: it says more and counts as full. Else prove '..UptoSaid'. A law counts once. -/
mutual
def uptoBulk {H : Type} : DataW H → Nat
  | .lit (.string bytes) => bytes.length + 1
  | .lit _ => 1
  | .nil => 1
  | .ptr d => uptoBulk d + 1
  | .slice elems spare => uptoBulkAll elems + uptoBulkAll spare + 1
  | .agg parts => uptoBulkAll parts + 1
  | .iface _ d => uptoBulk d + 1
  | .map entries => uptoBulkEntries entries + 1
  | .held _ => 1
def uptoBulkAll {H : Type} : List (DataW H) → Nat
  | [] => 0
  | d :: r => uptoBulk d + uptoBulkAll r
def uptoBulkEntries {H : Type} : List (Lit × DataW H) → Nat
  | [] => 0
  | x :: r => uptoBulkEntry x + uptoBulkEntries r
def uptoBulkEntry {H : Type} : Lit × DataW H → Nat
  | (.string bytes, d) => bytes.length + uptoBulk d + 1
  | (_, d) => uptoBulk d + 1
 end
def uptoSmall : (H : Type) → List (DataW H) → Bool := fun _ ds => decide (uptoBulkAll ds ≤ 1048576)
def OpenSpec.upto (s : _root_.Go.ChangeSpec) : _root_.Go.OpenSpec := { _root_.Go.OpenSpec.ofChange s with cond := some uptoSmall }

/-- 'coachhouselaw14.FindFits', WHERE WHAT IT READS IS OF BULK AT MOST 1048576: true; the input reads as it did. -/
def findFitsUptoRow : OpenClaim := { program := "ytcakklnacnnlaaadoor", sum := "cba377a1d9d0abd728ecc1d8e294579e514c1a2305d2a4131fd5a4700b1f3f97", func := "coachhouse/coachhouselaw14.FindFits", spec := "findFits", unfollowed := true, recurses := true, named := ["coachhouse/slot.fields"], apart := false, laid := [("coachhouse/slot.fields", laid_coachhouse_slot_fields)], narrowed := true }
def FindFitsUptoSaid : Prop := findFitsUptoRow.holds Tryd.pinned (OpenSpec.upto findFitsSpec)

/-- 'coachhouselaw14.FindKinds', WHERE WHAT IT READS IS OF BULK AT MOST 1048576: true; the input reads as it did. -/
def findKindsUptoRow : OpenClaim := { program := "ytcakklnacnnlaaadoor", sum := "cba377a1d9d0abd728ecc1d8e294579e514c1a2305d2a4131fd5a4700b1f3f97", func := "coachhouse/coachhouselaw14.FindKinds", spec := "findKinds", unfollowed := true, recurses := true, named := ["coachhouse/slot.fields"], apart := false, laid := [("coachhouse/slot.fields", laid_coachhouse_slot_fields)], narrowed := true }
def FindKindsUptoSaid : Prop := findKindsUptoRow.holds Tryd.pinned (OpenSpec.upto findKindsSpec)

/-- 'coachhouselaw14.FindFrom', WHERE WHAT IT READS IS OF BULK AT MOST 1048576: true; the input reads as it did. -/
def findFromUptoRow : OpenClaim := { program := "ytcakklnacnnlaaadoor", sum := "cba377a1d9d0abd728ecc1d8e294579e514c1a2305d2a4131fd5a4700b1f3f97", func := "coachhouse/coachhouselaw14.FindFrom", spec := "findFrom", unfollowed := true, recurses := true, named := ["coachhouse/slot.fields"], apart := false, laid := [("coachhouse/slot.fields", laid_coachhouse_slot_fields)], narrowed := true }
def FindFromUptoSaid : Prop := findFromUptoRow.holds Tryd.pinned (OpenSpec.upto findFromSpec)

/-- 'coachhouselaw14.FindWas', WHERE WHAT IT READS IS OF BULK AT MOST 1048576: true; the input reads as it did. -/
def findWasUptoRow : OpenClaim := { program := "ytcakklnacnnlaaadoor", sum := "cba377a1d9d0abd728ecc1d8e294579e514c1a2305d2a4131fd5a4700b1f3f97", func := "coachhouse/coachhouselaw14.FindWas", spec := "findWas", unfollowed := true, recurses := true, named := ["coachhouse/slot.fields"], apart := false, laid := [("coachhouse/slot.fields", laid_coachhouse_slot_fields)], narrowed := true }
def FindWasUptoSaid : Prop := findWasUptoRow.holds Tryd.pinned (OpenSpec.upto findWasSpec)

/-- 'coachhouselaw14.FindFirst', WHERE WHAT IT READS IS OF BULK AT MOST 1048576: true; the input reads as it did. -/
def findFirstUptoRow : OpenClaim := { program := "ytcakklnacnnlaaadoor", sum := "cba377a1d9d0abd728ecc1d8e294579e514c1a2305d2a4131fd5a4700b1f3f97", func := "coachhouse/coachhouselaw14.FindFirst", spec := "findFirst", unfollowed := true, recurses := true, named := ["coachhouse/slot.fields"], apart := false, laid := [("coachhouse/slot.fields", laid_coachhouse_slot_fields)], narrowed := true }
def FindFirstUptoSaid : Prop := findFirstUptoRow.holds Tryd.pinned (OpenSpec.upto findFirstSpec)

/-- 'coachhouselaw14.FindPlays', WHERE WHAT IT READS IS OF BULK AT MOST 1048576: true; the input reads as it did. -/
def findPlaysUptoRow : OpenClaim := { program := "ytcakklnacnnlaaadoor", sum := "cba377a1d9d0abd728ecc1d8e294579e514c1a2305d2a4131fd5a4700b1f3f97", func := "coachhouse/coachhouselaw14.FindPlays", spec := "findPlays", unfollowed := true, recurses := true, named := ["coachhouse/slot.fields"], apart := false, laid := [("coachhouse/slot.fields", laid_coachhouse_slot_fields)], narrowed := true }
def FindPlaysUptoSaid : Prop := findPlaysUptoRow.holds Tryd.pinned (OpenSpec.upto findPlaysSpec)

/-- 'coachhouselaw16.RetireAges', WHERE WHAT IT READS IS OF BULK AT MOST 1048576: true; the input reads as it did. -/
def retireAgesUptoRow : OpenClaim := { program := "ytcakklnacnnlaaadoor", sum := "cba377a1d9d0abd728ecc1d8e294579e514c1a2305d2a4131fd5a4700b1f3f97", func := "coachhouse/coachhouselaw16.RetireAges", spec := "retireAges", unfollowed := true, recurses := true, named := ["coachhouse/slot.fields"], apart := false, laid := [("coachhouse/slot.fields", laid_coachhouse_slot_fields)], narrowed := true }
def RetireAgesUptoSaid : Prop := retireAgesUptoRow.holds Tryd.pinned (OpenSpec.upto retireAgesSpec)

/-- 'coachhouselaw16.RetireOne', WHERE WHAT IT READS IS OF BULK AT MOST 1048576: true; the input reads as it did. -/
def retireOneUptoRow : OpenClaim := { program := "ytcakklnacnnlaaadoor", sum := "cba377a1d9d0abd728ecc1d8e294579e514c1a2305d2a4131fd5a4700b1f3f97", func := "coachhouse/coachhouselaw16.RetireOne", spec := "retireOne", unfollowed := true, recurses := true, named := ["coachhouse/slot.fields"], apart := false, laid := [("coachhouse/slot.fields", laid_coachhouse_slot_fields)], narrowed := true }
def RetireOneUptoSaid : Prop := retireOneUptoRow.holds Tryd.pinned (OpenSpec.upto retireOneSpec)

/-- 'coachhouselaw16.RetireKeeps', WHERE WHAT IT READS IS OF BULK AT MOST 1048576: true; the input reads as it did. -/
def retireKeepsUptoRow : OpenClaim := { program := "ytcakklnacnnlaaadoor", sum := "cba377a1d9d0abd728ecc1d8e294579e514c1a2305d2a4131fd5a4700b1f3f97", func := "coachhouse/coachhouselaw16.RetireKeeps", spec := "retireKeeps", unfollowed := true, recurses := true, named := ["coachhouse/slot.fields"], apart := false, laid := [("coachhouse/slot.fields", laid_coachhouse_slot_fields)], narrowed := true }
def RetireKeepsUptoSaid : Prop := retireKeepsUptoRow.holds Tryd.pinned (OpenSpec.upto retireKeepsSpec)

/-- 'coachhouselaw16.RetirePlays', WHERE WHAT IT READS IS OF BULK AT MOST 1048576: true; the input reads as it did. -/
def retirePlaysUptoRow : OpenClaim := { program := "ytcakklnacnnlaaadoor", sum := "cba377a1d9d0abd728ecc1d8e294579e514c1a2305d2a4131fd5a4700b1f3f97", func := "coachhouse/coachhouselaw16.RetirePlays", spec := "retirePlays", unfollowed := true, recurses := true, named := ["coachhouse/slot.fields"], apart := false, laid := [("coachhouse/slot.fields", laid_coachhouse_slot_fields)], narrowed := true }
def RetirePlaysUptoSaid : Prop := retirePlaysUptoRow.holds Tryd.pinned (OpenSpec.upto retirePlaysSpec)

end Rows
end Go.Proofs.YtcakklnacnnlaaaDoor
