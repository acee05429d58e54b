
import Derived.Test.YthfoljgaiincdaaDoorSlotR
namespace Go.Proofs.YthfoljgaiincdaaDoor
open Go.RowKit Go.Fld
set_option linter.unusedVariables false
attribute [local go_sem ↓] Go.wp_at_zero Go.wp_at_succ
set_option maxHeartbeats 4000000 in
theorem encR_any (a b c : Int) (d e : Bool) (f g h i : Int) (w : World) :
    Calls Tryd.prog 57 #[.agg #[.int .i64 a, .int .i64 b, .int .i64 c, .bool d, .bool e, .int .i64 f, .int .i64 g, .int .i64 h, .int .i64 i]] w fun en w' => en = .returned (packR (encR ⟨a, b, c, d, e, f, g, h, i⟩)) ∧ Below w.heap.size w w' := by
  obtain ⟨W1, hW1⟩ : ∃ W1, w.alloc (.cells #[.int .i64 a, .int .i64 b, .int .i64 c, .bool d, .bool e, .int .i64 f, .int .i64 g, .int .i64 h, .int .i64 i] 49) = W1 := ⟨_, rfl⟩
  have hB1 : Below w.heap.size w W1 := by rw [← hW1]; exact (Below.refl _ _).alloc (Nat.le_refl _) _
  have hR1 : Blk W1 w.heap.size 49 #[.int .i64 a, .int .i64 b, .int .i64 c, .bool d, .bool e, .int .i64 f, .int .i64 g, .int .i64 h, .int .i64 i] := by rw [← hW1]; exact Blk.new w 49 _
  have c0 : W1.cell? ⟨w.heap.size, 0, none⟩ = some (.int .i64 a) := hR1.cell 0
  have c1 : W1.cell? ⟨w.heap.size, 1, none⟩ = some (.int .i64 b) := hR1.cell 1
  have c2 : W1.cell? ⟨w.heap.size, 2, none⟩ = some (.int .i64 c) := hR1.cell 2
  have c3 : W1.cell? ⟨w.heap.size, 3, none⟩ = some (.bool d) := hR1.cell 3
  have c4 : W1.cell? ⟨w.heap.size, 4, none⟩ = some (.bool e) := hR1.cell 4
  have c5 : W1.cell? ⟨w.heap.size, 5, none⟩ = some (.int .i64 f) := hR1.cell 5
  have c6 : W1.cell? ⟨w.heap.size, 6, none⟩ = some (.int .i64 g) := hR1.cell 6
  have c7 : W1.cell? ⟨w.heap.size, 7, none⟩ = some (.int .i64 h) := hR1.cell 7
  have c8 : W1.cell? ⟨w.heap.size, 8, none⟩ = some (.int .i64 i) := hR1.cell 8
  obtain ⟨r, hr⟩ : ∃ r, rightR ⟨a, b, c, d, e, f, g, h, i⟩ = r := ⟨_, rfl⟩
  have HR := Lib.hid hr
  clear hr
  obtain ⟨R, hRR⟩ : ∃ R, R = encR ⟨a, b, c, d, e, f, g, h, i⟩ := ⟨_, rfl⟩
  rw [← hRR]
  have HRR := Lib.hid hRR
  clear hRR
  go_enter Tryd.func57, Tryd.ntmps57
  go_wp2_with fail
  refine (rightR_any _ _ _ _ _ _ _ _ _ _).mono ?_
  rintro en w2 ⟨rfl, hb⟩
  rw [HR.out]
  have hB2 := hB1.trans (hb.mono hB1.size)
  have hR2 := hR1.below hb hR1.lt
  clear c0 c1 c2 c3 c4 c5 c6 c7 c8 hW1
  have c0 : w2.cell? ⟨w.heap.size, 0, none⟩ = some (.int .i64 a) := hR2.cell 0
  have c1 : w2.cell? ⟨w.heap.size, 1, none⟩ = some (.int .i64 b) := hR2.cell 1
  have c2 : w2.cell? ⟨w.heap.size, 2, none⟩ = some (.int .i64 c) := hR2.cell 2
  have c3 : w2.cell? ⟨w.heap.size, 3, none⟩ = some (.bool d) := hR2.cell 3
  have c4 : w2.cell? ⟨w.heap.size, 4, none⟩ = some (.bool e) := hR2.cell 4
  have c5 : w2.cell? ⟨w.heap.size, 5, none⟩ = some (.int .i64 f) := hR2.cell 5
  have c6 : w2.cell? ⟨w.heap.size, 6, none⟩ = some (.int .i64 g) := hR2.cell 6
  have c7 : w2.cell? ⟨w.heap.size, 7, none⟩ = some (.int .i64 h) := hR2.cell 7
  have c8 : w2.cell? ⟨w.heap.size, 8, none⟩ = some (.int .i64 i) := hR2.cell 8
  clear hR1 hR2 hb hB1
  cases r with
  | false =>
    have HZ : R = none := by rw [HRR.out]; unfold encR; rw [HR.out]; rfl
    subst HZ
    go_wp2
    go_ret2
    exact ⟨rfl, hB2⟩
  | true =>
    have HZ : R = some (sumS ⟨a, b, c, d, e, f, g, h, i⟩) := by rw [HRR.out]; unfold encR; rw [HR.out]; rfl
    obtain ⟨S, hS⟩ : ∃ S, S = sumS ⟨a, b, c, d, e, f, g, h, i⟩ := ⟨_, rfl⟩
    rw [← hS] at HZ
    subst HZ
    have HS := Lib.hid hS
    have hq := HR.out
    simp [rightR, fr] at hq
    obtain ⟨⟨⟨⟨⟨⟨⟨⟨⟨ba, ba'⟩, bb, bb'⟩, bc, bc'⟩, bf, bf'⟩, bg, bg'⟩, bh, bh'⟩, bi, bi'⟩, -⟩, -⟩ := hq
    clear hS
    go_wp2
    all_goals
      clear c0 c1 c2 c3 c4 c5 c6 c7 c8
      go_ret2
      refine ⟨?_, hB2⟩
      have hS := HS.out
      simp [sumS, sumW, *] at hS
      rw [hS]
      rfl
end Go.Proofs.YthfoljgaiincdaaDoor
