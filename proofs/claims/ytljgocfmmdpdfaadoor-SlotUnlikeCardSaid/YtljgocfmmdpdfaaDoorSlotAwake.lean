import Derived.Test.YtljgocfmmdpdfaaDoorSlotT
namespace Go.Proofs.YtljgocfmmdpdfaaDoor
open Go.RowKit Go.Fld
set_option linter.unusedVariables false
attribute [local go_sem ↓] Go.wp_at_zero Go.wp_at_succ slot_equal
theorem aw1 : encS ⟨2, 3, 0, false, false, 1, 0, 0, 0⟩ = some 131098 := by kernel_rfl
theorem aw2 : decS 131098 = some ⟨2, 3, 0, false, false, 1, 0, 0, 0⟩ := by kernel_rfl
set_option maxHeartbeats 2000000 in
theorem awake_any (w : World) (hT : Tab w) : Calls Tryd.prog 8 #[] w fun e w' => e = .returned (.bool true) ∧ Below w.heap.size w w' := by
  go_enter Tryd.func8, Tryd.ntmps8
  go_wp2_with fail
  obtain ⟨W1, hW1⟩ : ∃ W1, w.alloc (.cells #[.int .i64 2, .int .i64 3, .int .i64 0, .bool false, .bool false, .int .i64 1, .int .i64 0, .int .i64 0, .int .i64 0] 23) = W1 := ⟨_, rfl⟩
  have hB1 : Below w.heap.size w W1 := by rw [← hW1]; exact (Below.refl _ _).alloc (Nat.le_refl _) _
  have hR1 : Blk W1 w.heap.size 23 #[.int .i64 2, .int .i64 3, .int .i64 0, .bool false, .bool false, .int .i64 1, .int .i64 0, .int .i64 0, .int .i64 0] := by rw [← hW1]; exact Blk.new w 23 _
  have hT1 : Tab W1 := hT.below hB1
  rw [hW1]
  refine (enc_any _ _ _ _ _ _ _ _ _ _ hT1).mono ?_
  rintro en w2 ⟨rfl, hb⟩
  rw [aw1, show packR (some 131098) = .tuple #[.int .i64 131098, .bool true] from rfl]
  have hB2 := hB1.trans (hb.mono hB1.size)
  have hR2 := hR1.below hb hR1.lt
  have hT2 := hT1.below hb
  clear hb hR1 hB1 hT1 hW1
  have c0 : w2.cell? ⟨w.heap.size, 0, none⟩ = some (.int .i64 2) := hR2.cell 0
  have c1 : w2.cell? ⟨w.heap.size, 1, none⟩ = some (.int .i64 3) := hR2.cell 1
  have c2 : w2.cell? ⟨w.heap.size, 2, none⟩ = some (.int .i64 0) := hR2.cell 2
  have c3 : w2.cell? ⟨w.heap.size, 3, none⟩ = some (.bool false) := hR2.cell 3
  have c4 : w2.cell? ⟨w.heap.size, 4, none⟩ = some (.bool false) := hR2.cell 4
  have c5 : w2.cell? ⟨w.heap.size, 5, none⟩ = some (.int .i64 1) := hR2.cell 5
  have c6 : w2.cell? ⟨w.heap.size, 6, none⟩ = some (.int .i64 0) := hR2.cell 6
  have c7 : w2.cell? ⟨w.heap.size, 7, none⟩ = some (.int .i64 0) := hR2.cell 7
  have c8 : w2.cell? ⟨w.heap.size, 8, none⟩ = some (.int .i64 0) := hR2.cell 8
  go_wp2_with fail
  refine (dec_any _ _ hT2).mono ?_
  rintro en w3 ⟨rfl, hb⟩
  rw [aw2, show decR (some ⟨2, 3, 0, false, false, 1, 0, 0, 0⟩) = .tuple #[.agg #[.int .i64 2, .int .i64 3, .int .i64 0, .bool false, .bool false, .int .i64 1, .int .i64 0, .int .i64 0, .int .i64 0], .bool true] from rfl]
  have hB3 := hB2.trans (hb.mono hB2.size)
  have hR3 := hR2.below hb hR2.lt
  have hT3 := hT2.below hb
  clear hb hR2 hB2 hT2 c0 c1 c2 c3 c4 c5 c6 c7 c8
  have c0 : w3.cell? ⟨w.heap.size, 0, none⟩ = some (.int .i64 2) := hR3.cell 0
  have c1 : w3.cell? ⟨w.heap.size, 1, none⟩ = some (.int .i64 3) := hR3.cell 1
  have c2 : w3.cell? ⟨w.heap.size, 2, none⟩ = some (.int .i64 0) := hR3.cell 2
  have c3 : w3.cell? ⟨w.heap.size, 3, none⟩ = some (.bool false) := hR3.cell 3
  have c4 : w3.cell? ⟨w.heap.size, 4, none⟩ = some (.bool false) := hR3.cell 4
  have c5 : w3.cell? ⟨w.heap.size, 5, none⟩ = some (.int .i64 1) := hR3.cell 5
  have c6 : w3.cell? ⟨w.heap.size, 6, none⟩ = some (.int .i64 0) := hR3.cell 6
  have c7 : w3.cell? ⟨w.heap.size, 7, none⟩ = some (.int .i64 0) := hR3.cell 7
  have c8 : w3.cell? ⟨w.heap.size, 8, none⟩ = some (.int .i64 0) := hR3.cell 8
  have hsq : seq (⟨2, 3, 0, false, false, 1, 0, 0, 0⟩ : Slt) ⟨2, 3, 0, false, false, 1, 0, 0, 0⟩ = true := by decide
  have d0 := cell_more c0 (.cells #[.int .i64 2, .int .i64 3, .int .i64 0, .bool false, .bool false, .int .i64 1, .int .i64 0, .int .i64 0, .int .i64 0] 23)
  have d1 := cell_more c1 (.cells #[.int .i64 2, .int .i64 3, .int .i64 0, .bool false, .bool false, .int .i64 1, .int .i64 0, .int .i64 0, .int .i64 0] 23)
  have d2 := cell_more c2 (.cells #[.int .i64 2, .int .i64 3, .int .i64 0, .bool false, .bool false, .int .i64 1, .int .i64 0, .int .i64 0, .int .i64 0] 23)
  have d3 := cell_more c3 (.cells #[.int .i64 2, .int .i64 3, .int .i64 0, .bool false, .bool false, .int .i64 1, .int .i64 0, .int .i64 0, .int .i64 0] 23)
  have d4 := cell_more c4 (.cells #[.int .i64 2, .int .i64 3, .int .i64 0, .bool false, .bool false, .int .i64 1, .int .i64 0, .int .i64 0, .int .i64 0] 23)
  have d5 := cell_more c5 (.cells #[.int .i64 2, .int .i64 3, .int .i64 0, .bool false, .bool false, .int .i64 1, .int .i64 0, .int .i64 0, .int .i64 0] 23)
  have d6 := cell_more c6 (.cells #[.int .i64 2, .int .i64 3, .int .i64 0, .bool false, .bool false, .int .i64 1, .int .i64 0, .int .i64 0, .int .i64 0] 23)
  have d7 := cell_more c7 (.cells #[.int .i64 2, .int .i64 3, .int .i64 0, .bool false, .bool false, .int .i64 1, .int .i64 0, .int .i64 0, .int .i64 0] 23)
  have d8 := cell_more c8 (.cells #[.int .i64 2, .int .i64 3, .int .i64 0, .bool false, .bool false, .int .i64 1, .int .i64 0, .int .i64 0, .int .i64 0] 23)
  have hB4 : Below w.heap.size w (w3.alloc (.cells #[.int .i64 2, .int .i64 3, .int .i64 0, .bool false, .bool false, .int .i64 1, .int .i64 0, .int .i64 0, .int .i64 0] 23)) := hB3.alloc hB3.size _
  have hT4 : Tab (w3.alloc (.cells #[.int .i64 2, .int .i64 3, .int .i64 0, .bool false, .bool false, .int .i64 1, .int .i64 0, .int .i64 0, .int .i64 0] 23)) := hT3.below ((Below.refl _ _).alloc (Nat.le_refl _) _)
  go_wp2_with fail
  refine (rightS_any _ _ _ _ _ _ _ _ _ _ hT4).mono ?_
  rintro en w5 ⟨rfl, hb⟩
  rw [aw1, Option.isSome_some]
  go_wp2
  go_ret
  exact ⟨rfl, hB4.trans (hb.mono hB4.size)⟩
end Go.Proofs.YtljgocfmmdpdfaaDoor
