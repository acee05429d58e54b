import Derived.Test.YtljgocfmmdpdfaaDoorSlotPD
namespace Go.Proofs.YtljgocfmmdpdfaaDoor
open Go.RowKit Go.Fld
set_option linter.unusedVariables false
attribute [local go_sem ↓] Go.wp_at_zero Go.wp_at_succ slot_equal
set_option maxHeartbeats 2000000 in
theorem encodes_walk (a b c : Int) (d e : Bool) (f g h i : Int) (w : World) (hT : Tab w) :
    Calls Tryd.prog 3 #[.agg #[.int .i64 a, .int .i64 b, .int .i64 c, .bool d, .bool e, .int .i64 f, .int .i64 g, .int .i64 h, .int .i64 i]] w fun en w' => en = .returned (.bool true) ∧ Below w.heap.size w w' := by
  obtain ⟨D, hD⟩ : ∃ D, encS ⟨a, b, c, d, e, f, g, h, i⟩ = D := ⟨_, rfl⟩
  have HD := Lib.hid hD
  have HR := Lib.hid (show encR ⟨a, b, c, d, e, f, g, h, i⟩ = D by rw [← encS_eq, hD])
  have HQ := Lib.hid (show rightR ⟨a, b, c, d, e, f, g, h, i⟩ = D.isSome by
    rw [← hD, encS_eq]; unfold encR
    cases rightR ⟨a, b, c, d, e, f, g, h, i⟩ <;> rfl)
  clear hD
  go_enter Tryd.func3, Tryd.ntmps3
  go_wp2_with fail
  obtain ⟨W1, hW1⟩ : ∃ W1, w.alloc (.cells #[.int .i64 a, .int .i64 b, .int .i64 c, .bool d, .bool e, .int .i64 f, .int .i64 g, .int .i64 h, .int .i64 i] 23) = W1 := ⟨_, rfl⟩
  have hB1 : Below w.heap.size w W1 := by rw [← hW1]; exact (Below.refl _ _).alloc (Nat.le_refl _) _
  have hR1 : Blk W1 w.heap.size 23 #[.int .i64 a, .int .i64 b, .int .i64 c, .bool d, .bool e, .int .i64 f, .int .i64 g, .int .i64 h, .int .i64 i] := by rw [← hW1]; exact Blk.new w 23 _
  rw [hW1]
  have hT1 := hT.below hB1
  refine (awake_any _ hT1).mono ?_
  rintro en w1 ⟨rfl, hb⟩
  have hB2 := hB1.trans (hb.mono hB1.size)
  have hR2 := hR1.below hb hR1.lt
  have hT2 := hT1.below hb
  clear hb hR1 hB1 hT1 hW1
  have c0 := hR2.cell 0
  have c1 := hR2.cell 1
  have c2 := hR2.cell 2
  have c3 := hR2.cell 3
  have c4 := hR2.cell 4
  have c5 := hR2.cell 5
  have c6 := hR2.cell 6
  have c7 := hR2.cell 7
  have c8 := hR2.cell 8
  simp at c0 c1 c2 c3 c4 c5 c6 c7 c8
  go_wp2_with fail
  refine (enc_any _ _ _ _ _ _ _ _ _ _ hT2).mono ?_
  rintro en w3 ⟨rfl, hb⟩
  rw [HD.out, packR_eq]
  have hB3 := hB2.trans (hb.mono hB2.size)
  have hR3 := hR2.below hb hR2.lt
  have hT3 := hT2.below hb
  clear hb hR2 hB2 hT2 c0 c1 c2 c3 c4 c5 c6 c7 c8
  have c0 := hR3.cell 0
  have c1 := hR3.cell 1
  have c2 := hR3.cell 2
  have c3 := hR3.cell 3
  have c4 := hR3.cell 4
  have c5 := hR3.cell 5
  have c6 := hR3.cell 6
  have c7 := hR3.cell 7
  have c8 := hR3.cell 8
  simp at c0 c1 c2 c3 c4 c5 c6 c7 c8
  go_wp2_with fail
  refine (encR_any _ _ _ _ _ _ _ _ _ _).mono ?_
  rintro en w4 ⟨rfl, hb⟩
  rw [HR.out, packR_eq]
  have hB4 := hB3.trans (hb.mono hB3.size)
  have hR4 := hR3.below hb hR3.lt
  have hT4 := hT3.below hb
  clear hb hR3 hB3 hT3 c0 c1 c2 c3 c4 c5 c6 c7 c8
  have c0 := hR4.cell 0
  have c1 := hR4.cell 1
  have c2 := hR4.cell 2
  have c3 := hR4.cell 3
  have c4 := hR4.cell 4
  have c5 := hR4.cell 5
  have c6 := hR4.cell 6
  have c7 := hR4.cell 7
  have c8 := hR4.cell 8
  simp at c0 c1 c2 c3 c4 c5 c6 c7 c8
  go_wp2_with fail
  have hZ4 := hR4.lt
  go_region_held3 (fun w' => w'.cell? ⟨w.heap.size, 0, none⟩ = some (.int .i64 a) ∧ w'.cell? ⟨w.heap.size, 1, none⟩ = some (.int .i64 b) ∧ w'.cell? ⟨w.heap.size, 2, none⟩ = some (.int .i64 c) ∧ w'.cell? ⟨w.heap.size, 3, none⟩ = some (.bool d) ∧ w'.cell? ⟨w.heap.size, 4, none⟩ = some (.bool e) ∧ w'.cell? ⟨w.heap.size, 5, none⟩ = some (.int .i64 f) ∧ w'.cell? ⟨w.heap.size, 6, none⟩ = some (.int .i64 g) ∧ w'.cell? ⟨w.heap.size, 7, none⟩ = some (.int .i64 h) ∧ w'.cell? ⟨w.heap.size, 8, none⟩ = some (.int .i64 i) ∧ Tab w' ∧ Below w.heap.size w w' ∧ w.heap.size < w'.heap.size)
    (first | assumption | exact ⟨c0, c1, c2, c3, c4, c5, c6, c7, c8, hT4, hB4.drew, hZ4⟩ | (obtain ⟨g0, g1, g2, g3, g4, g5, g6, g7, g8, gT, gB, gZ⟩ := ‹World.cell? _ _ = _ ∧ _ ∧ _ ∧ _ ∧ _ ∧ _ ∧ _ ∧ _ ∧ _ ∧ Tab _ ∧ Below _ _ _ ∧ _ < _›; first | exact ⟨(hb.cell (p := ⟨w.heap.size, 0, none⟩) gZ).trans g0, (hb.cell (p := ⟨w.heap.size, 1, none⟩) gZ).trans g1, (hb.cell (p := ⟨w.heap.size, 2, none⟩) gZ).trans g2, (hb.cell (p := ⟨w.heap.size, 3, none⟩) gZ).trans g3, (hb.cell (p := ⟨w.heap.size, 4, none⟩) gZ).trans g4, (hb.cell (p := ⟨w.heap.size, 5, none⟩) gZ).trans g5, (hb.cell (p := ⟨w.heap.size, 6, none⟩) gZ).trans g6, (hb.cell (p := ⟨w.heap.size, 7, none⟩) gZ).trans g7, (hb.cell (p := ⟨w.heap.size, 8, none⟩) gZ).trans g8, gT.below hb, gB.trans (hb.mono (Nat.le_of_lt gZ)), Nat.lt_of_lt_of_le gZ hb.size⟩ | exact ⟨(hb.cell (p := ⟨w.heap.size, 0, none⟩) gZ).trans g0, (hb.cell (p := ⟨w.heap.size, 1, none⟩) gZ).trans g1, (hb.cell (p := ⟨w.heap.size, 2, none⟩) gZ).trans g2, (hb.cell (p := ⟨w.heap.size, 3, none⟩) gZ).trans g3, (hb.cell (p := ⟨w.heap.size, 4, none⟩) gZ).trans g4, (hb.cell (p := ⟨w.heap.size, 5, none⟩) gZ).trans g5, (hb.cell (p := ⟨w.heap.size, 6, none⟩) gZ).trans g6, (hb.cell (p := ⟨w.heap.size, 7, none⟩) gZ).trans g7, (hb.cell (p := ⟨w.heap.size, 8, none⟩) gZ).trans g8, gT.below hb, (gB.trans (hb.mono (Nat.le_of_lt gZ))).drew, Nat.lt_of_lt_of_le gZ hb.size⟩))
    (first | (go_at_call 11; have gS := ‹World.cell? _ _ = _ ∧ _ ∧ _ ∧ _ ∧ _ ∧ _ ∧ _ ∧ _ ∧ _ ∧ Tab _ ∧ Below _ _ _ ∧ _ < _›; refine (rightS_any _ _ _ _ _ _ _ _ _ _ gS.2.2.2.2.2.2.2.2.2.1).mono ?_; rintro en w5 ⟨rfl, hb⟩; rw [HD.out]) | (go_at_call 12; refine (rightR_any _ _ _ _ _ _ _ _ _ _).mono ?_; rintro en w5 ⟨rfl, hb⟩; rw [HQ.out]))
  go_wp2
  all_goals go_ret
  all_goals
    have gS := ‹World.cell? _ _ = _ ∧ _ ∧ _ ∧ _ ∧ _ ∧ _ ∧ _ ∧ _ ∧ _ ∧ Tab _ ∧ Below _ _ _ ∧ _ < _›
    exact ⟨by simp, gS.2.2.2.2.2.2.2.2.2.2.1⟩
end Go.Proofs.YtljgocfmmdpdfaaDoor
