import Derived.Test.YtljgocfmmdpdfaaFieldAwake
namespace Go.Proofs.Ytljgocfmmdpdfaa
open Go.RowKit Go.Fld
set_option linter.unusedVariables false
attribute [local go_sem ↓] Go.wp_at_zero Go.wp_at_succ

set_option maxHeartbeats 4000000 in
theorem high_walk (a d x : Int) (hx : I64 x) (w : World) : Calls Try.prog 10 #[.agg #[.int .i64 a, .int .i64 d], .int .i64 x] w fun e w' => e = .returned (.bool true) ∧ Below w.heap.size w w' := by
  go_enter Try.func10, Try.ntmps10
  go_wp2_with fail
  refine (awake_any _).mono ?_
  rintro e w1 ⟨rfl, hb⟩
  have hB1 := ((Below.refl w.heap.size w).alloc (Nat.le_refl _) (.cells #[.int .i64 a, .int .i64 d] 23)).trans (hb.mono (by simp))
  have hc0 : w1.cell? ⟨w.heap.size, 0, none⟩ = some (.int .i64 a) := (hb.cell (p := ⟨w.heap.size, 0, none⟩) (by simp)).trans (cell_new rfl rfl)
  have hc1 : w1.cell? ⟨w.heap.size, 1, none⟩ = some (.int .i64 d) := (hb.cell (p := ⟨w.heap.size, 1, none⟩) (by simp)).trans (cell_new rfl rfl)
  clear hb
  go_wp2_with fail
  refine (right_any a d _).mono ?_
  rintro e w2 ⟨rfl, hb⟩
  have hB2 := hB1.trans (hb.mono hB1.size)
  replace hc0 : w2.cell? ⟨w.heap.size, 0, none⟩ = some (.int .i64 a) := (hb.cell (p := ⟨w.heap.size, 0, none⟩) (cell_lt hc0)).trans hc0
  replace hc1 : w2.cell? ⟨w.heap.size, 1, none⟩ = some (.int .i64 d) := (hb.cell (p := ⟨w.heap.size, 1, none⟩) (cell_lt hc1)).trans hc1
  clear hb
  by_cases hr : rightB a d = true
  · have h := rightB_t.1 hr
    have HR := Lib.hid hr
    obtain ⟨M, hM⟩ : ∃ M, M = (2 : Int) ^ d.toNat - 1 := ⟨_, rfl⟩
    obtain ⟨X, hX⟩ : ∃ X, X = putZ x a.toNat d.toNat M := ⟨_, rfl⟩
    obtain ⟨Y, hY⟩ : ∃ Y, Y = putZ x a.toNat d.toNat (M + 1) := ⟨_, rfl⟩
    obtain ⟨T, hT⟩ : ∃ T, T = (2 : Int) ^ a.toNat := ⟨_, rfl⟩
    have hpw := pow_bd d.toNat (by omega)
    have hmb := mask_bd a.toNat d.toNat (by omega)
    have hM0 : 0 ≤ M := by rw [hM]; omega
    have hM1 : M ≤ 4611686018427387903 := by rw [hM]; omega
    have hIY : I64 Y := by rw [hY]; exact (putZ_I64 hx _ _ (by omega) _).1
    have e0 : IntKind.i64.wrap (M * T) = M * T := by rw [hM, hT]; exact IntWalk.i64_in _ (by omega)
    have ha0 : bits .andNot .i64 x (M * T) = x - getZ x a.toNat d.toNat * 2 ^ a.toNat := by
      have hi := putZ_I64 hx a.toNat d.toNat (by omega) 0
      rw [hM, hT, andNot_sub, and_shifted _ _ _ (by omega)]
      rw [and_shifted _ _ _ (by omega)]; exact hi.2
    have e1 : bits .or .i64 x (M * T) = X := by
      have hp := put_bits x hx a.toNat d.toNat (by omega) M
      rw [← hX] at hp
      have hMm : M % 2 ^ d.toNat = M := Int.emod_eq_of_lt hM0 (by rw [hM]; omega)
      rw [hMm] at hp
      rw [← hp, ← hM, ← hT]
      rw [or_bv, or_bv, andNot_bv, BitVec.ofInt_toInt]
      congr 1
      ext i hi
      simp only [BitVec.getElem_or, BitVec.getElem_and, BitVec.getElem_not]
      cases (BitVec.ofInt 64 x)[i] <;> cases (BitVec.ofInt 64 (M * T))[i] <;> rfl
    have e2 : bits .andNot .i64 x (M * T) = Y := by
      rw [ha0, hY]
      unfold putZ
      have : (M + 1) % 2 ^ d.toNat = 0 := by rw [hM, show (2 : Int) ^ d.toNat - 1 + 1 = 2 ^ d.toNat by omega, Int.emod_self]
      rw [this]
      omega
    have e3 : getZ Y a.toNat d.toNat = 0 := by rw [hY, get_put, hM, show (2 : Int) ^ d.toNat - 1 + 1 = 2 ^ d.toNat by omega, Int.emod_self]
    have e4 : putZ Y a.toNat d.toNat (-1) = X := by
      rw [hY, put_put, hX]
      apply put_same
      have hp := two_pow_pos' d.toNat
      rw [hM, show (-1 : Int) = (2 ^ d.toNat - 1) + (-1) * 2 ^ d.toNat by omega, Int.add_mul_emod_self_right]
    have HX := Lib.hid hX.symm
    have HY := Lib.hid hY.symm
    have HM := Lib.hid hM.symm
    have HT := Lib.hid hT.symm
    have E0 := Lib.hid e0
    have E1 := Lib.hid e1
    have E2 := Lib.hid e2
    have E3 := Lib.hid e3
    have E4 := Lib.hid e4
    have HXX := Lib.hid hx
    have HIY := Lib.hid hIY
    have hq1 : (X == bits .or .i64 x (wrap64 (M * 2 ^ a.toNat))) = true := by rw [← hT, ← IntWalk.i64_left, e0, e1]; simp
    have hq2 : (Y == bits .andNot .i64 x (wrap64 (M * 2 ^ a.toNat))) = true := by rw [← hT, ← IntWalk.i64_left, e0, e2]; simp
    have hsh0 : 0 ≤ a := h.1
    have hsh1 : a ≤ 64 := by omega
    clear hX hY hM hT e0 e1 e2 e3 e4 ha0 hx hIY hr hpw hmb h
    simp only [HR.out]
    go_wp2_with fail
    refine (max_yes _ _ _ HR.out).mono ?_
    rintro e w3 ⟨rfl, hb⟩
    rw [HM.out]
    have hB3 := hB2.trans (hb.mono hB2.size)
    replace hc0 : w3.cell? ⟨w.heap.size, 0, none⟩ = some (.int .i64 a) := (hb.cell (p := ⟨w.heap.size, 0, none⟩) (cell_lt hc0)).trans hc0
    replace hc1 : w3.cell? ⟨w.heap.size, 1, none⟩ = some (.int .i64 d) := (hb.cell (p := ⟨w.heap.size, 1, none⟩) (cell_lt hc1)).trans hc1
    clear hb
    go_wp2_with fail
    refine (put_yes _ _ _ _ HXX.out _ HR.out).mono ?_
    rintro e w4 ⟨rfl, hb⟩
    rw [HX.out]
    have hB4 := hB3.trans (hb.mono hB3.size)
    replace hc0 : w4.cell? ⟨w.heap.size, 0, none⟩ = some (.int .i64 a) := (hb.cell (p := ⟨w.heap.size, 0, none⟩) (cell_lt hc0)).trans hc0
    replace hc1 : w4.cell? ⟨w.heap.size, 1, none⟩ = some (.int .i64 d) := (hb.cell (p := ⟨w.heap.size, 1, none⟩) (cell_lt hc1)).trans hc1
    clear hb
    go_wp2_with fail
    refine (put_yes _ _ _ _ HXX.out _ HR.out).mono ?_
    rintro e w5 ⟨rfl, hb⟩
    rw [HY.out]
    have hB5 := hB4.trans (hb.mono hB4.size)
    replace hc0 : w5.cell? ⟨w.heap.size, 0, none⟩ = some (.int .i64 a) := (hb.cell (p := ⟨w.heap.size, 0, none⟩) (cell_lt hc0)).trans hc0
    replace hc1 : w5.cell? ⟨w.heap.size, 1, none⟩ = some (.int .i64 d) := (hb.cell (p := ⟨w.heap.size, 1, none⟩) (cell_lt hc1)).trans hc1
    clear hb
    go_wp2_with fail
    refine (get_yes _ _ _ _ HR.out).mono ?_
    rintro e w6 ⟨rfl, hb⟩
    rw [E3.out]
    have hB6 := hB5.trans (hb.mono hB5.size)
    replace hc0 : w6.cell? ⟨w.heap.size, 0, none⟩ = some (.int .i64 a) := (hb.cell (p := ⟨w.heap.size, 0, none⟩) (cell_lt hc0)).trans hc0
    replace hc1 : w6.cell? ⟨w.heap.size, 1, none⟩ = some (.int .i64 d) := (hb.cell (p := ⟨w.heap.size, 1, none⟩) (cell_lt hc1)).trans hc1
    clear hb
    go_wp2_with fail
    refine (put_yes _ _ _ _ HIY.out _ HR.out).mono ?_
    rintro e w7 ⟨rfl, hb⟩
    rw [E4.out]
    have hB7 := hB6.trans (hb.mono hB6.size)
    replace hc0 : w7.cell? ⟨w.heap.size, 0, none⟩ = some (.int .i64 a) := (hb.cell (p := ⟨w.heap.size, 0, none⟩) (cell_lt hc0)).trans hc0
    replace hc1 : w7.cell? ⟨w.heap.size, 1, none⟩ = some (.int .i64 d) := (hb.cell (p := ⟨w.heap.size, 1, none⟩) (cell_lt hc1)).trans hc1
    clear hb
    go_wp2
    go_ret
    exact ⟨rfl, hB7⟩
  · have hr' : rightB a d = false := by simpa using hr
    clear hr
    go_wp2_with fail
    go_ret
    exact ⟨rfl, hB2⟩
end Go.Proofs.Ytljgocfmmdpdfaa
