
/- The document's memory, words and slots, confs: what each of their functions does, in plain words. No condition of its own. -/
import Derived.Test.YthfoljgaiincdaaDoorMem

namespace Go.Proofs.YthfoljgaiincdaaDoor
open Go.RowKit Go.Fld Go.Sx
set_option linter.unusedVariables false
set_option linter.unusedSimpArgs false
/-! ### Memory of the document -/
noncomputable def refMemFns : List (FuncId × Func) := []
theorem refMemFns_ok : ∀ e ∈ refMemFns, FnOK Tryd.prog e.1 e.2 :=
  fns_ok_nil rfl
noncomputable def refMemEnv : Env := mkEnv Tryd.prog refMemFns [] [] []
theorem refMemEnv_ok (X : Nat → Prop) (w0 : World) (h0 : X 0) (hB : Bnd X w0) (hT : Tab w0) : EnvOK refMemEnv X w0 := mkEnv_ok (fun e he => by cases he) (by kernel_rfl) refMemFns_ok sounds_nil lpSounds_nil h0 hB hT
abbrev memR (n : Nat) (t : Int) (l : List Int) : List Go.Sx.Blk := [.cells true true [.slice (some ⟨1, 0, some 1⟩) n 0, .int .i64 t], .ints true true l]
def refLoadO : Orc := fun args lh => match args, lh with
  | [.pointer (some ⟨0, 0, none⟩), .int .i64 i], [.cells true true [.slice (some ⟨1, 0, some 1⟩) n 0, .int .i64 t], .ints true true l] => .br (okM n l) (.ret (.int .i64 (ldS n l i), memR n (tcS n i t) l)) .bad
  | _, _ => .bad
def refCasO : Orc := fun args lh => match args, lh with
  | [.pointer (some ⟨0, 0, none⟩), .int .i64 i, .int .i64 a, .int .i64 b], [.cells true true [.slice (some ⟨1, 0, some 1⟩) n 0, .int .i64 t], .ints true true l] => .br (okM n l) (.ret (.bool (casB n l i a), memR n (tcS n i t) (casS n l i a b))) .bad
  | _, _ => .bad
def refAddO : Orc := fun args lh => match args, lh with
  | [.pointer (some ⟨0, 0, none⟩), .int .i64 i, .int .i64 d], [.cells true true [.slice (some ⟨1, 0, some 1⟩) n 0, .int .i64 t], .ints true true l] => .br (okM n l) (.ret (.int .i64 (ldS n l i), memR n (tcS n i t) (addS n l i d))) .bad
  | _, _ => .bad
theorem inRange_in {n : Nat} {i : Int} (h : inR n i = true) : inRange i n = true := h
def refMemOrcs : List (FuncId × Orc) := []
theorem refMemOrcs_ok : Sounds Tryd.prog Tab refMemOrcs := sounds_nil
end Go.Proofs.YthfoljgaiincdaaDoor
