/- SlotParts: the symbolic run's ways all answer true. No condition of its own. -/
import Derived.Test.YtljgocfmmdpdfaaDoorSlotUnlikeW
namespace Go.Proofs.YtljgocfmmdpdfaaDoor
open Go.RowKit Go.Fld Go.Sx
set_option linter.unusedVariables false
theorem parts_tree (s : Slt) : (call slotEnv 200 7 [s.val] []).run (Option Value) none (fun r => some r.1) =
    bif !(encS s).isSome then some (.bool ((encS s).getD 0 == 0)) else
    bif bits .and .i64 ((encS s).getD 0) 7 == s.st then
      bif bits .and .i64 (((encS s).getD 0).fdiv (2 ^ min (Int.toNat 3) IntKind.i64.bits)) 15 == s.own then
        bif ((encS s).getD 0).fdiv (2 ^ min (Int.toNat 47) IntKind.i64.bits) == s.ver then
          bif (encS { s with ver := 0 }).isSome then
            some (.bool (IntKind.i64.wrap ((encS s).getD 0 - (encS { s with ver := 0 }).getD 0) == IntKind.i64.wrap (s.ver * 2 ^ min (Int.toNat 47) IntKind.i64.bits)))
          else some (.bool false)
        else some (.bool false)
      else some (.bool false)
    else some (.bool false) := by kernel_rfl
theorem parts_true (s : Slt) : (call slotEnv 200 7 [s.val] []).run (Option Value) none (fun r => some r.1) = some (.bool true) := by
  rw [parts_tree]
  cases hs : encS s with
  | none => rfl
  | some x =>
    obtain ⟨hr, hx⟩ := encS_right hs
    obtain ⟨hraw, hx0, hx1⟩ := dec_enc s x hs
    have hu := encS_of_right (right_ver hr (v := 0) (by omega) (by omega))
    rw [hu]
    simp only [Option.isSome_some, Bool.not_true, cond_false, Option.getD_some, cond_true]
    have p3 : (2 : Int) ^ min (Int.toNat 3) IntKind.i64.bits = 8 := by decide
    have p47 : (2 : Int) ^ min (Int.toNat 47) IntKind.i64.bits = 140737488355328 := by decide
    have d3 : x.fdiv 8 = x / 8 := Int.fdiv_eq_ediv_of_nonneg x (by omega)
    have d47 : x.fdiv 140737488355328 = x / 140737488355328 := Int.fdiv_eq_ediv_of_nonneg x (by omega)
    have a3 : bits .and .i64 x 7 = x % 8 := and_low x 3 (by omega)
    have a4 : bits .and .i64 (x / 8) 15 = (x / 8) % 16 := and_low (x / 8) 4 (by omega)
    rw [p3, p47, d3, d47, a3, a4]
    have r1 : x % 8 = s.st := by
      have := congrArg Slt.st hraw
      simpa [rawS, getZ] using this
    have r2 : x / 8 % 16 = s.own := by
      have := congrArg Slt.own hraw
      simpa [rawS, getZ] using this
    have r3 : x / 140737488355328 = s.ver := by
      have := congrArg Slt.ver hraw
      simp [rawS, getZ] at this
      omega
    have r4 : x - sumS { s with ver := 0 } = s.ver * 140737488355328 := by
      rw [hx]
      simp [sumS, sumW]
      omega
    rw [r1, r2, r3, r4]
    simp
theorem parts_walk (s : Slt) (w : World) (hT : Tab w) :
    Calls Tryd.prog 7 #[s.val] w fun e w' => e = .returned (.bool true) ∧ Below w.heap.size w w' :=
  call_value (slotEnv_ok hT hT.lt) (parts_true s) rfl start_hr (VRA.plain [s.val] (by simp [Slt.val, Go.Sx.plain, plain1]))
end Go.Proofs.YtljgocfmmdpdfaaDoor
