import Derived.Test.YtljgocfmmdpdfaaFieldAwake
namespace Go.Proofs.Ytljgocfmmdpdfaa
open Go.RowKit Go.Fld
set_option linter.unusedVariables false
attribute [local go_sem ↓] Go.wp_at_zero Go.wp_at_succ

set_option maxHeartbeats 2000000 in
theorem tells_walk (a d x : Int) (hx : I64 x) (v : Int) (hv : I64 v) (w : World) : Calls Try.prog 3 #[.agg #[.int .i64 a, .int .i64 d], .int .i64 x, .int .i64 v] w fun e w' => e = .returned (.bool true) ∧ Below w.heap.size w w' := by
  go_enter Try.func3, Try.ntmps3
  go_wp2_with fail
  refine (awake_any _).mono ?_
  rintro e w1 ⟨rfl, hb⟩
  have hB1 := ((Below.refl w.heap.size w).alloc (Nat.le_refl _) (.cells #[.int .i64 a, .int .i64 d] 23)).trans (hb.mono (by simp))
  have hc0 : w1.cell? ⟨w.heap.size, 0, none⟩ = some (.int .i64 a) := (hb.cell (p := ⟨w.heap.size, 0, none⟩) (by simp)).trans (cell_new rfl rfl)
  have hc1 : w1.cell? ⟨w.heap.size, 1, none⟩ = some (.int .i64 d) := (hb.cell (p := ⟨w.heap.size, 1, none⟩) (by simp)).trans (cell_new rfl rfl)
  clear hb
  go_wp2_with fail
  refine (refRight_any a d _).mono ?_
  rintro e w2 ⟨rfl, hb⟩
  have hB2 := hB1.trans (hb.mono hB1.size)
  replace hc0 : w2.cell? ⟨w.heap.size, 0, none⟩ = some (.int .i64 a) := (hb.cell (p := ⟨w.heap.size, 0, none⟩) (cell_lt hc0)).trans hc0
  replace hc1 : w2.cell? ⟨w.heap.size, 1, none⟩ = some (.int .i64 d) := (hb.cell (p := ⟨w.heap.size, 1, none⟩) (cell_lt hc1)).trans hc1
  clear hb hB1
  go_wp2_with fail
  refine (right_any a d _).mono ?_
  rintro e w3 ⟨rfl, hb⟩
  have hB3 := hB2.trans (hb.mono hB2.size)
  replace hc0 : w3.cell? ⟨w.heap.size, 0, none⟩ = some (.int .i64 a) := (hb.cell (p := ⟨w.heap.size, 0, none⟩) (cell_lt hc0)).trans hc0
  replace hc1 : w3.cell? ⟨w.heap.size, 1, none⟩ = some (.int .i64 d) := (hb.cell (p := ⟨w.heap.size, 1, none⟩) (cell_lt hc1)).trans hc1
  clear hb hB2
  have hne : (rightB a d != rightB a d) = false := by simp
  by_cases hr : rightB a d = true
  · have hz := cell_lt hc0
    go_wp2_with fail
    go_region_held3 (fun w' => w'.cell? ⟨w.heap.size, 0, none⟩ = some (.int .i64 a) ∧ w'.cell? ⟨w.heap.size, 1, none⟩ = some (.int .i64 d) ∧ Below w.heap.size w w' ∧ w.heap.size < w'.heap.size)
      (first | exact ⟨hc0, hc1, hB3.drew, hz⟩ | (obtain ⟨g1, g2, gB, gZ⟩ := ‹World.cell? _ _ = _ ∧ _ ∧ Below _ _ _ ∧ _ < _›; exact ⟨(hb.cell (p := ⟨w.heap.size, 0, none⟩) gZ).trans g1, (hb.cell (p := ⟨w.heap.size, 1, none⟩) gZ).trans g2, gB.trans (hb.mono (Nat.le_of_lt gZ)), Nat.lt_of_lt_of_le gZ hb.size⟩))
      (first | (go_at_call 14; refine (max_yes _ _ _ hr).mono ?_; rintro e w4 ⟨rfl, hb⟩) | (go_at_call 15; refine (refMax_any _ _ hr _).mono ?_; rintro e w4 ⟨rfl, hb⟩) | (go_at_call 16; refine (get_yes _ _ _ _ hr).mono ?_; rintro e w4 ⟨rfl, hb⟩) | (go_at_call 17; refine (refGet_any _ _ _ hr _).mono ?_; rintro e w4 ⟨rfl, hb⟩) | (go_at_call 18; refine (put_yes _ _ _ _ hx _ hr).mono ?_; rintro e w4 ⟨rfl, hb⟩) | (go_at_call 19; refine (refPut_any _ _ _ _ hx hr _).mono ?_; rintro e w4 ⟨rfl, hb⟩))
    go_wp2
    go_ret
    exact ⟨rfl, ‹World.cell? w4 _ = _ ∧ _ ∧ Below _ _ _ ∧ _ < _›.2.2.1⟩
  · have hr' : rightB a d = false := by simpa using hr
    clear hr
    go_wp2_with fail
    go_ret
    exact ⟨rfl, hB3⟩
end Go.Proofs.Ytljgocfmmdpdfaa
