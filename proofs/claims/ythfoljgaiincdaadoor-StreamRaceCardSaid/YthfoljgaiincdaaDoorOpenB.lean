
/- A slice of Bools that comes in, opened. No condition of its own. -/
import Derived.Test.YthfoljgaiincdaaDoorOpenA
namespace Go.Proofs.YthfoljgaiincdaaDoor
open Go.ChangeShapes Go.WideShapes Go.ChangeAt Go.RowKit Go.Joins Go.Fld Go.Deep Go.Sx
set_option linter.unusedVariables false
set_option linter.unusedSimpArgs false
section
variable {H : Type} {enc : TypeId × Value → H} {w : World} {base : Nat} {held : Bool}
theorem open_bools {fuel : Nat} {v : Value} {x : DataW H × List MemPlace} (h : DataW.trod enc Tryd.prog w base (fun _ => true) held fuel 45 [v] = some x) : ∃ A n cap R, v = .slice A n cap ∧ R.ks = [.bo] ∧ ArgRow w A n cap 1 R :=
  open_row1 Tryd.underlying45 (by kernel_rfl) (by kernel_rfl) h
end
end Go.Proofs.YthfoljgaiincdaaDoor
