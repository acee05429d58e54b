import Derived.Test.YtljgocfmmdpdfaaFieldAwake
namespace Go.Proofs.Ytljgocfmmdpdfaa
open Go.RowKit Go.Fld
set_option linter.unusedVariables false
attribute [local go_sem ↓] Go.wp_at_zero Go.wp_at_succ

set_option maxHeartbeats 4000000 in
theorem back_walk (a d x : Int) (hx : I64 x) (v : Int) (hv : I64 v) (w : World) : Calls Try.prog 5 #[.agg #[.int .i64 a, .int .i64 d], .int .i64 x, .int .i64 v] w fun e w' => e = .returned (.bool true) ∧ Below w.heap.size w w' := by
  go_enter Try.func5, Try.ntmps5
  go_wp2_with fail
  refine (awake_any _).mono ?_
  rintro e w1 ⟨rfl, hb⟩
  have hB1 := ((Below.refl w.heap.size w).alloc (Nat.le_refl _) (.cells #[.int .i64 a, .int .i64 d] 23)).trans (hb.mono (by simp))
  have hc0 : w1.cell? ⟨w.heap.size, 0, none⟩ = some (.int .i64 a) := (hb.cell (p := ⟨w.heap.size, 0, none⟩) (by simp)).trans (cell_new rfl rfl)
  have hc1 : w1.cell? ⟨w.heap.size, 1, none⟩ = some (.int .i64 d) := (hb.cell (p := ⟨w.heap.size, 1, none⟩) (by simp)).trans (cell_new rfl rfl)
  clear hb
  go_wp2_with fail
  refine (right_any a d _).mono ?_
  rintro e w2 ⟨rfl, hb⟩
  have hB2 := hB1.trans (hb.mono hB1.size)
  replace hc0 : w2.cell? ⟨w.heap.size, 0, none⟩ = some (.int .i64 a) := (hb.cell (p := ⟨w.heap.size, 0, none⟩) (cell_lt hc0)).trans hc0
  replace hc1 : w2.cell? ⟨w.heap.size, 1, none⟩ = some (.int .i64 d) := (hb.cell (p := ⟨w.heap.size, 1, none⟩) (cell_lt hc1)).trans hc1
  clear hb
  by_cases hr : rightB a d = true
  · have h := rightB_t.1 hr
    have HR := Lib.hid hr
    obtain ⟨P, hP⟩ : ∃ P, P = putZ x a.toNat d.toNat v := ⟨_, rfl⟩
    obtain ⟨M, hM⟩ : ∃ M, M = (2 : Int) ^ d.toNat - 1 := ⟨_, rfl⟩
    obtain ⟨G, hG⟩ : ∃ G, G = getZ x a.toNat d.toNat := ⟨_, rfl⟩
    have hpw : (2 : Int) ^ 1 ≤ 2 ^ d.toNat := pow_le (by omega)
    have hM1 : 1 ≤ M := by rw [hM]; omega
    have hG0 : 0 ≤ G := by rw [hG]; exact getZ_nonneg _ _ _
    have hG1 : G ≤ M := by have := getZ_lt x a.toNat d.toNat; rw [hG, hM]; omega
    have hIP : I64 P := by rw [hP]; exact (putZ_I64 hx _ _ (by omega) v).1
    have e1 : getZ P a.toNat d.toNat = bits .and .i64 v M := by rw [hP, get_put, hM, and_low _ _ (by omega)]
    have e2 : putZ P a.toNat d.toNat v = P := by rw [hP, put_put]
    have e3 : putZ P a.toNat d.toNat G = x := by rw [hP, put_put, hG, put_get]
    have HP := Lib.hid hP.symm
    have HM := Lib.hid hM.symm
    have HG := Lib.hid hG.symm
    have E1 := Lib.hid e1
    have E2 := Lib.hid e2
    have E3 := Lib.hid e3
    have HX := Lib.hid hx
    have HIP := Lib.hid hIP
    clear hP hM hG e1 e2 e3 hx hIP hr hpw h hv
    simp only [HR.out]
    go_wp2_with fail
    refine (put_yes _ _ _ _ HX.out _ HR.out).mono ?_
    rintro e w3 ⟨rfl, hb⟩
    rw [HP.out]
    have hB3 := hB2.trans (hb.mono hB2.size)
    replace hc0 : w3.cell? ⟨w.heap.size, 0, none⟩ = some (.int .i64 a) := (hb.cell (p := ⟨w.heap.size, 0, none⟩) (cell_lt hc0)).trans hc0
    replace hc1 : w3.cell? ⟨w.heap.size, 1, none⟩ = some (.int .i64 d) := (hb.cell (p := ⟨w.heap.size, 1, none⟩) (cell_lt hc1)).trans hc1
    clear hb
    go_wp2_with fail
    refine (max_yes _ _ _ HR.out).mono ?_
    rintro e w4 ⟨rfl, hb⟩
    rw [HM.out]
    have hB4 := hB3.trans (hb.mono hB3.size)
    replace hc0 : w4.cell? ⟨w.heap.size, 0, none⟩ = some (.int .i64 a) := (hb.cell (p := ⟨w.heap.size, 0, none⟩) (cell_lt hc0)).trans hc0
    replace hc1 : w4.cell? ⟨w.heap.size, 1, none⟩ = some (.int .i64 d) := (hb.cell (p := ⟨w.heap.size, 1, none⟩) (cell_lt hc1)).trans hc1
    clear hb
    go_wp2_with fail
    have hz := cell_lt hc0
    go_region_held3 (fun w' => w'.cell? ⟨w.heap.size, 0, none⟩ = some (.int .i64 a) ∧ w'.cell? ⟨w.heap.size, 1, none⟩ = some (.int .i64 d) ∧ Below w.heap.size w w' ∧ w.heap.size < w'.heap.size)
      (first | exact ⟨hc0, hc1, hB4.drew, hz⟩ | (obtain ⟨g1, g2, gB, gZ⟩ := ‹World.cell? _ _ = _ ∧ _ ∧ Below _ _ _ ∧ _ < _›; exact ⟨(hb.cell (p := ⟨w.heap.size, 0, none⟩) gZ).trans g1, (hb.cell (p := ⟨w.heap.size, 1, none⟩) gZ).trans g2, gB.trans (hb.mono (Nat.le_of_lt gZ)), Nat.lt_of_lt_of_le gZ hb.size⟩))
      (first | (go_at_call 16; refine (get_yes _ _ _ _ HR.out).mono ?_; rintro e w5 ⟨rfl, hb⟩; (first | rw [E1.out] | rw [HG.out])) | (go_at_call 18; refine (put_yes _ _ _ _ ?_ _ HR.out).mono ?_; exact HIP.out; rintro e w5 ⟨rfl, hb⟩; (first | rw [E2.out] | rw [E3.out])))
    go_wp2
    go_ret
    exact ⟨rfl, ‹World.cell? w5 _ = _ ∧ _ ∧ Below _ _ _ ∧ _ < _›.2.2.1⟩
  · have hr' : rightB a d = false := by simpa using hr
    clear hr
    go_wp2_with fail
    go_ret
    exact ⟨rfl, hB2⟩
end Go.Proofs.Ytljgocfmmdpdfaa
