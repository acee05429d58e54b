
import Derived.Test.YthfoljgaiincdaaDoorSlotE
import Derived.BigQuiet
namespace Go.Proofs.YthfoljgaiincdaaDoor
open Go.RowKit Go.Fld
set_option linter.unusedVariables false
attribute [local go_sem ↓] Go.wp_at_zero Go.wp_at_succ
theorem from0_any (n m : Int) (w : World) : Calls Tryd.prog 84 #[.int .i64 n, .int .i64 m] w fun e w' => e = .returned (.bool (fr n m)) ∧ w = w' := by
  by_cases h0 : 0 ≤ n
  · have e0 : decide (0 ≤ n) = true := by simpa using h0
    have hq : fr n m = decide (n ≤ m) := by unfold fr; rw [e0]; rfl
    rw [hq]
    clear hq h0
    go_enter Tryd.func84, Tryd.ntmps84
    go_wp2
    go_ret
    exact ⟨rfl, rfl⟩
  · have e0 : decide (0 ≤ n) = false := by simpa using h0
    have hq : fr n m = false := by unfold fr; rw [e0]; rfl
    rw [hq]
    clear hq h0
    go_enter Tryd.func84, Tryd.ntmps84
    go_wp2
    go_ret
    exact ⟨rfl, rfl⟩
theorem from0_at {n m : Int} {q : Bool} (h : Hid (fr n m = q)) (w : World) : Calls Tryd.prog 84 #[.int .i64 n, .int .i64 m] w fun e w' => e = .returned (.bool q) ∧ w = w' := by
  rw [← h.out]
  exact from0_any n m w
set_option maxHeartbeats 4000000 in
theorem rightR_any (a b c : Int) (d e : Bool) (f g h i : Int) (w : World) :
    Calls Tryd.prog 68 #[.agg #[.int .i64 a, .int .i64 b, .int .i64 c, .bool d, .bool e, .int .i64 f, .int .i64 g, .int .i64 h, .int .i64 i]] w fun en w' => en = .returned (.bool (rightR ⟨a, b, c, d, e, f, g, h, i⟩)) ∧ Below w.heap.size w w' := by
  obtain ⟨W1, hW1⟩ : ∃ W1, w.alloc (.cells #[.int .i64 a, .int .i64 b, .int .i64 c, .bool d, .bool e, .int .i64 f, .int .i64 g, .int .i64 h, .int .i64 i] 49) = W1 := ⟨_, rfl⟩
  have hB1 : Below w.heap.size w W1 := by rw [← hW1]; exact (Below.refl _ _).alloc (Nat.le_refl _) _
  have hcs : ∀ j, W1.cell? ⟨w.heap.size, j, none⟩ = (#[.int .i64 a, .int .i64 b, .int .i64 c, .bool d, .bool e, .int .i64 f, .int .i64 g, .int .i64 h, .int .i64 i] : Array Value)[j]? := fun j => by rw [← hW1]; exact (Blk.new w 49 _).cell j
  have c0 : W1.cell? ⟨w.heap.size, 0, none⟩ = some (.int .i64 a) := hcs 0
  have c1 : W1.cell? ⟨w.heap.size, 1, none⟩ = some (.int .i64 b) := hcs 1
  have c2 : W1.cell? ⟨w.heap.size, 2, none⟩ = some (.int .i64 c) := hcs 2
  have c3 : W1.cell? ⟨w.heap.size, 3, none⟩ = some (.bool d) := hcs 3
  have c4 : W1.cell? ⟨w.heap.size, 4, none⟩ = some (.bool e) := hcs 4
  have c5 : W1.cell? ⟨w.heap.size, 5, none⟩ = some (.int .i64 f) := hcs 5
  have c6 : W1.cell? ⟨w.heap.size, 6, none⟩ = some (.int .i64 g) := hcs 6
  have c7 : W1.cell? ⟨w.heap.size, 7, none⟩ = some (.int .i64 h) := hcs 7
  have c8 : W1.cell? ⟨w.heap.size, 8, none⟩ = some (.int .i64 i) := hcs 8
  obtain ⟨r, hr⟩ : ∃ r, r = rightR ⟨a, b, c, d, e, f, g, h, i⟩ := ⟨_, rfl⟩
  have HR := Lib.hid hr
  rw [← hr]
  obtain ⟨q0, h0⟩ : ∃ q, fr a 6 = q := ⟨_, rfl⟩
  obtain ⟨q1, h1⟩ : ∃ q, fr b 15 = q := ⟨_, rfl⟩
  obtain ⟨q2, h2⟩ : ∃ q, fr c 255 = q := ⟨_, rfl⟩
  obtain ⟨q3, h3⟩ : ∃ q, fr f 63 = q := ⟨_, rfl⟩
  obtain ⟨q4, h4⟩ : ∃ q, fr g 4095 = q := ⟨_, rfl⟩
  obtain ⟨q5, h5⟩ : ∃ q, fr h 4095 = q := ⟨_, rfl⟩
  obtain ⟨q6, h6⟩ : ∃ q, fr i 32767 = q := ⟨_, rfl⟩
  have H0 := Lib.hid h0
  have H1 := Lib.hid h1
  have H2 := Lib.hid h2
  have H3 := Lib.hid h3
  have H4 := Lib.hid h4
  have H5 := Lib.hid h5
  have H6 := Lib.hid h6
  clear hcs hr h0 h1 h2 h3 h4 h5 h6
  go_enter Tryd.func68, Tryd.ntmps68
  cases q0 with
  | false =>
    go_wp2_with (first | (with_reducible refine (from0_at H0 _).mono ?_; rintro en w1 ⟨rfl, rfl⟩) | (with_reducible refine (from0_at H1 _).mono ?_; rintro en w1 ⟨rfl, rfl⟩) | (with_reducible refine (from0_at H2 _).mono ?_; rintro en w1 ⟨rfl, rfl⟩) | (with_reducible refine (from0_at H3 _).mono ?_; rintro en w1 ⟨rfl, rfl⟩) | (with_reducible refine (from0_at H4 _).mono ?_; rintro en w1 ⟨rfl, rfl⟩) | (with_reducible refine (from0_at H5 _).mono ?_; rintro en w1 ⟨rfl, rfl⟩) | (with_reducible refine (from0_at H6 _).mono ?_; rintro en w1 ⟨rfl, rfl⟩))
    go_ret
    exact ⟨ret_bool (by rw [HR.out]; simp [rightR, livesS, H0.out]), hB1⟩
  | true =>
    cases q1 with
    | false =>
      go_wp2_with (first | (with_reducible refine (from0_at H0 _).mono ?_; rintro en w1 ⟨rfl, rfl⟩) | (with_reducible refine (from0_at H1 _).mono ?_; rintro en w1 ⟨rfl, rfl⟩) | (with_reducible refine (from0_at H2 _).mono ?_; rintro en w1 ⟨rfl, rfl⟩) | (with_reducible refine (from0_at H3 _).mono ?_; rintro en w1 ⟨rfl, rfl⟩) | (with_reducible refine (from0_at H4 _).mono ?_; rintro en w1 ⟨rfl, rfl⟩) | (with_reducible refine (from0_at H5 _).mono ?_; rintro en w1 ⟨rfl, rfl⟩) | (with_reducible refine (from0_at H6 _).mono ?_; rintro en w1 ⟨rfl, rfl⟩))
      go_ret
      exact ⟨ret_bool (by rw [HR.out]; simp [rightR, livesS, H0.out, H1.out]), hB1⟩
    | true =>
      cases q2 with
      | false =>
        go_wp2_with (first | (with_reducible refine (from0_at H0 _).mono ?_; rintro en w1 ⟨rfl, rfl⟩) | (with_reducible refine (from0_at H1 _).mono ?_; rintro en w1 ⟨rfl, rfl⟩) | (with_reducible refine (from0_at H2 _).mono ?_; rintro en w1 ⟨rfl, rfl⟩) | (with_reducible refine (from0_at H3 _).mono ?_; rintro en w1 ⟨rfl, rfl⟩) | (with_reducible refine (from0_at H4 _).mono ?_; rintro en w1 ⟨rfl, rfl⟩) | (with_reducible refine (from0_at H5 _).mono ?_; rintro en w1 ⟨rfl, rfl⟩) | (with_reducible refine (from0_at H6 _).mono ?_; rintro en w1 ⟨rfl, rfl⟩))
        go_ret
        exact ⟨ret_bool (by rw [HR.out]; simp [rightR, livesS, H0.out, H1.out, H2.out]), hB1⟩
      | true =>
        cases q3 with
        | false =>
          go_wp2_with (first | (with_reducible refine (from0_at H0 _).mono ?_; rintro en w1 ⟨rfl, rfl⟩) | (with_reducible refine (from0_at H1 _).mono ?_; rintro en w1 ⟨rfl, rfl⟩) | (with_reducible refine (from0_at H2 _).mono ?_; rintro en w1 ⟨rfl, rfl⟩) | (with_reducible refine (from0_at H3 _).mono ?_; rintro en w1 ⟨rfl, rfl⟩) | (with_reducible refine (from0_at H4 _).mono ?_; rintro en w1 ⟨rfl, rfl⟩) | (with_reducible refine (from0_at H5 _).mono ?_; rintro en w1 ⟨rfl, rfl⟩) | (with_reducible refine (from0_at H6 _).mono ?_; rintro en w1 ⟨rfl, rfl⟩))
          go_ret
          exact ⟨ret_bool (by rw [HR.out]; simp [rightR, livesS, H0.out, H1.out, H2.out, H3.out]), hB1⟩
        | true =>
          cases q4 with
          | false =>
            go_wp2_with (first | (with_reducible refine (from0_at H0 _).mono ?_; rintro en w1 ⟨rfl, rfl⟩) | (with_reducible refine (from0_at H1 _).mono ?_; rintro en w1 ⟨rfl, rfl⟩) | (with_reducible refine (from0_at H2 _).mono ?_; rintro en w1 ⟨rfl, rfl⟩) | (with_reducible refine (from0_at H3 _).mono ?_; rintro en w1 ⟨rfl, rfl⟩) | (with_reducible refine (from0_at H4 _).mono ?_; rintro en w1 ⟨rfl, rfl⟩) | (with_reducible refine (from0_at H5 _).mono ?_; rintro en w1 ⟨rfl, rfl⟩) | (with_reducible refine (from0_at H6 _).mono ?_; rintro en w1 ⟨rfl, rfl⟩))
            go_ret
            exact ⟨ret_bool (by rw [HR.out]; simp [rightR, livesS, H0.out, H1.out, H2.out, H3.out, H4.out]), hB1⟩
          | true =>
            cases q5 with
            | false =>
              go_wp2_with (first | (with_reducible refine (from0_at H0 _).mono ?_; rintro en w1 ⟨rfl, rfl⟩) | (with_reducible refine (from0_at H1 _).mono ?_; rintro en w1 ⟨rfl, rfl⟩) | (with_reducible refine (from0_at H2 _).mono ?_; rintro en w1 ⟨rfl, rfl⟩) | (with_reducible refine (from0_at H3 _).mono ?_; rintro en w1 ⟨rfl, rfl⟩) | (with_reducible refine (from0_at H4 _).mono ?_; rintro en w1 ⟨rfl, rfl⟩) | (with_reducible refine (from0_at H5 _).mono ?_; rintro en w1 ⟨rfl, rfl⟩) | (with_reducible refine (from0_at H6 _).mono ?_; rintro en w1 ⟨rfl, rfl⟩))
              go_ret
              exact ⟨ret_bool (by rw [HR.out]; simp [rightR, livesS, H0.out, H1.out, H2.out, H3.out, H4.out, H5.out]), hB1⟩
            | true =>
              cases q6 with
              | false =>
                go_wp2_with (first | (with_reducible refine (from0_at H0 _).mono ?_; rintro en w1 ⟨rfl, rfl⟩) | (with_reducible refine (from0_at H1 _).mono ?_; rintro en w1 ⟨rfl, rfl⟩) | (with_reducible refine (from0_at H2 _).mono ?_; rintro en w1 ⟨rfl, rfl⟩) | (with_reducible refine (from0_at H3 _).mono ?_; rintro en w1 ⟨rfl, rfl⟩) | (with_reducible refine (from0_at H4 _).mono ?_; rintro en w1 ⟨rfl, rfl⟩) | (with_reducible refine (from0_at H5 _).mono ?_; rintro en w1 ⟨rfl, rfl⟩) | (with_reducible refine (from0_at H6 _).mono ?_; rintro en w1 ⟨rfl, rfl⟩))
                go_ret
                exact ⟨ret_bool (by rw [HR.out]; simp [rightR, livesS, H0.out, H1.out, H2.out, H3.out, H4.out, H5.out, H6.out]), hB1⟩
              | true =>
                have hcases : a = 0 ∨ a = 2 ∨ a = 3 ∨ a = 4 ∨ a = 6 ∨ (a ≠ 0 ∧ a ≠ 2 ∧ a ≠ 3 ∧ a ≠ 4 ∧ a ≠ 6) := by omega
                rcases hcases with ha | ha | ha | ha | ha | ⟨ha0, ha2, ha3, ha4, ha6⟩
                case inr.inr.inr.inr.inr =>
                  have s0 : (a == 0) = false := by simp [ha0]
                  have s2 : (a == 2) = false := by simp [ha2]
                  have s3 : (a == 3) = false := by simp [ha3]
                  have s4 : (a == 4) = false := by simp [ha4]
                  have s6 : (a == 6) = false := by simp [ha6]
                  have t2 : (a != 2) = true := by simp [ha2]
                  have t3 : (a != 3) = true := by simp [ha3]
                  have HA0 := Lib.hid ha0
                  have HA6 := Lib.hid ha6
                  have hp : decide (0 < a) = true := by have := H0.out; unfold fr at this; simp at this; simp; omega
                  have hp6 : decide (a < 6) = true := by have := H0.out; unfold fr at this; simp at this; simp; omega
                  clear ha0 ha2 ha3 ha4 ha6
                  go_wp2_with (first | (with_reducible refine (from0_at H0 _).mono ?_; rintro en w1 ⟨rfl, rfl⟩) | (with_reducible refine (from0_at H1 _).mono ?_; rintro en w1 ⟨rfl, rfl⟩) | (with_reducible refine (from0_at H2 _).mono ?_; rintro en w1 ⟨rfl, rfl⟩) | (with_reducible refine (from0_at H3 _).mono ?_; rintro en w1 ⟨rfl, rfl⟩) | (with_reducible refine (from0_at H4 _).mono ?_; rintro en w1 ⟨rfl, rfl⟩) | (with_reducible refine (from0_at H5 _).mono ?_; rintro en w1 ⟨rfl, rfl⟩) | (with_reducible refine (from0_at H6 _).mono ?_; rintro en w1 ⟨rfl, rfl⟩))
                  all_goals (clear c0 c1 c2 c3 c4 c5 c6 c7 c8; go_ret)
                  all_goals (refine ⟨ret_bool ?_, hB1⟩; rw [HR.out]; simp only [rightR, livesS, H0.out, H1.out, H2.out, H3.out, H4.out, H5.out, H6.out])
                  all_goals (first | (simp [*]; done) | (simp [*]; omega))
                all_goals
                  subst ha
                  go_wp2_with (first | (with_reducible refine (from0_at H0 _).mono ?_; rintro en w1 ⟨rfl, rfl⟩) | (with_reducible refine (from0_at H1 _).mono ?_; rintro en w1 ⟨rfl, rfl⟩) | (with_reducible refine (from0_at H2 _).mono ?_; rintro en w1 ⟨rfl, rfl⟩) | (with_reducible refine (from0_at H3 _).mono ?_; rintro en w1 ⟨rfl, rfl⟩) | (with_reducible refine (from0_at H4 _).mono ?_; rintro en w1 ⟨rfl, rfl⟩) | (with_reducible refine (from0_at H5 _).mono ?_; rintro en w1 ⟨rfl, rfl⟩) | (with_reducible refine (from0_at H6 _).mono ?_; rintro en w1 ⟨rfl, rfl⟩))
                  all_goals (clear c0 c1 c2 c3 c4 c5 c6 c7 c8; go_ret)
                  all_goals (refine ⟨ret_bool ?_, hB1⟩; rw [HR.out]; simp only [rightR, livesS, H0.out, H1.out, H2.out, H3.out, H4.out, H5.out, H6.out])
                  all_goals (first | (simp [*]; done) | (simp [*]; omega))
end Go.Proofs.YthfoljgaiincdaaDoor
