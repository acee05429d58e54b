
/- The tables of the stream's laws, out of the row's list; a world for the witness. No condition of its own. -/
import Derived.Test.YthfoljgaiincdaaDoorSlotOpen
import Derived.Test.YthfoljgaiincdaaDoorStrK
namespace Go.Proofs.YthfoljgaiincdaaDoor
open Go.ChangeShapes Go.WideShapes Go.ChangeAt Go.RowKit Go.Joins Go.Fld Go.Deep Go.Sx
set_option linter.unusedVariables false
theorem laid_tail {P : Program} {x : String × DataW Unit} {r : List (String × DataW Unit)} {w : World} (h : laidMet P (x :: r) w) : laidMet P r w := by
  obtain ⟨ps, hv, hnd, hrows⟩ := h
  obtain ⟨n, d⟩ := x
  obtain ⟨g, t, cs, fuel, p, q, _, _, _, _, hq, rfl⟩ := hv
  exact ⟨q, hq, List.Nodup.sublist (List.sublist_append_right _ _) hnd, fun b off hm => hrows b off (List.mem_append_right _ hm)⟩
def tab2Z : List Int := [0, 1, 56, 2, 57, 49, 28, 3, 61, 58, 42, 50, 38, 29, 17, 4, 62, 47, 59, 36, 45, 43, 51, 22, 53, 39, 33, 30, 24, 18, 12, 5, 63, 55, 48, 27, 60, 41, 37, 16, 46, 35, 44, 21, 52, 32, 23, 11, 54, 26, 40, 15, 34, 20, 31, 10, 25, 14, 19, 9, 13, 8, 7, 6]
theorem tab2_of {r : List (String × DataW Unit)} {W : World} (h : laidMet Tryd.prog (("math/bits.deBruijn64tab", Rows.laid_math_bits_deBruijn64tab) :: r) W) : Tab2 W := by
  have ht : Lib.TabIs Tryd.prog W "math/bits.deBruijn64tab" .u8 tab2Z := Lib.tabIs_of_head (g := 2) (t := 140) (e := 5) (n := 64) (by kernel_rfl) (by kernel_rfl) Tryd.underlying140 Tryd.underlying5 (by kernel_rfl) (by kernel_rfl) h
  unfold Lib.TabIs World.var? at ht
  rw [show Tryd.prog.globalNamed "math/bits.deBruijn64tab" = some 2 by kernel_rfl] at ht
  simp only [Option.bind_some] at ht
  split at ht
  · rename_i c t fr hb
    refine ⟨t, fr, hb.trans ?_⟩
    rw [Option.some.inj ht]
    rfl
  · cases ht
/-- What the row's list gives. -/
theorem tables {W : World} (h : laidMetH Tryd.prog [("math/bits.deBruijn32tab", Rows.laid_math_bits_deBruijn32tab), ("math/bits.deBruijn64tab", Rows.laid_math_bits_deBruijn64tab), ("coachhouse/slot.fields", Rows.laid_coachhouse_slot_fields)] W) : TT W := by
  have h' : laidMet Tryd.prog [("math/bits.deBruijn32tab", Rows.laid_math_bits_deBruijn32tab), ("math/bits.deBruijn64tab", Rows.laid_math_bits_deBruijn64tab), ("coachhouse/slot.fields", Rows.laid_coachhouse_slot_fields)] W := h
  exact ⟨table (show laidMetH Tryd.prog [("coachhouse/slot.fields", Rows.laid_coachhouse_slot_fields)] W from laid_tail (laid_tail h')), tab2_of (laid_tail h')⟩
def tab1C : Array Value := #[.int .u8 0, .int .u8 1, .int .u8 28, .int .u8 2, .int .u8 29, .int .u8 14, .int .u8 24, .int .u8 3, .int .u8 30, .int .u8 22, .int .u8 20, .int .u8 15, .int .u8 25, .int .u8 17, .int .u8 4, .int .u8 8, .int .u8 31, .int .u8 27, .int .u8 13, .int .u8 23, .int .u8 21, .int .u8 19, .int .u8 16, .int .u8 7, .int .u8 26, .int .u8 12, .int .u8 18, .int .u8 6, .int .u8 11, .int .u8 5, .int .u8 10, .int .u8 9]
/-- A world for the witness: the settled one, with the tables in their variables. -/
noncomputable def laidWorld3 (os : Os) : World :=
  { laidWorld os with heap := ((laidWorld os).heap.modify 1 fun
      | .cells _ t frozen => .cells tab1C t frozen
      | o => o).modify 2 fun
      | .cells _ t frozen => .cells tab2C t frozen
      | o => o }
end Go.Proofs.YthfoljgaiincdaaDoor
