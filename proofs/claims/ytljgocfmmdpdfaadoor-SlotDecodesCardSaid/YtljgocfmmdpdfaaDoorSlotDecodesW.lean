import Derived.Test.YtljgocfmmdpdfaaDoorSlotPD
namespace Go.Proofs.YtljgocfmmdpdfaaDoor
open Go.RowKit Go.Fld
set_option linter.unusedVariables false
attribute [local go_sem ↓] Go.wp_at_zero Go.wp_at_succ slot_equal
theorem decR_form (o : Option Slt) : ∃ (a b c : Int) (d e : Bool) (f g h i : Int) (k : Bool), decR o = .tuple #[.agg #[.int .i64 a, .int .i64 b, .int .i64 c, .bool d, .bool e, .int .i64 f, .int .i64 g, .int .i64 h, .int .i64 i], .bool k] := ⟨_, _, _, _, _, _, _, _, _, _, rfl⟩
theorem seq_refl (s : Slt) : seq s s = true := by unfold seq; simp
set_option maxHeartbeats 2000000 in
theorem decodes_walk (x : Int) (hx : I64 x) (w : World) (hT : Tab w) : Calls Tryd.prog 4 #[.int .i64 x] w fun e w' => e = .returned (.bool true) ∧ Below w.heap.size w w' := by
  have HD := Lib.hid (dec_eq x hx.2)
  obtain ⟨D, hD⟩ : ∃ D, decQ x = D := ⟨_, rfl⟩
  rw [hD] at HD
  have HDQ := Lib.hid hD
  clear hD
  obtain ⟨a, b, c, d, e, f, g, h, i, k, hDR⟩ := decR_form D
  have HDR := Lib.hid hDR
  clear hDR
  have hsq := seq_refl ⟨a, b, c, d, e, f, g, h, i⟩
  go_enter Tryd.func4, Tryd.ntmps4
  go_wp2_with fail
  refine (awake_any _ hT).mono ?_
  rintro en w1 ⟨rfl, hb1⟩
  go_wp2_with fail
  refine (dec_any x _ (hT.below hb1)).mono ?_
  rintro en w2 ⟨rfl, hb2⟩
  rw [HD.out, HDR.out]
  have hB2 := hb1.trans (hb2.mono hb1.size)
  clear hb1 hb2
  go_wp2_with fail
  refine (decQ_any x hx _).mono ?_
  rintro en w3 ⟨rfl, hb3⟩
  rw [HDQ.out, HDR.out]
  have hBa := hB2.alloc hB2.size (.cells #[.int .i64 a, .int .i64 b, .int .i64 c, .bool d, .bool e, .int .i64 f, .int .i64 g, .int .i64 h, .int .i64 i] 23)
  have hB3 := hBa.trans (hb3.mono hBa.size)
  have hS3 := (Blk.new w2 23 #[.int .i64 a, .int .i64 b, .int .i64 c, .bool d, .bool e, .int .i64 f, .int .i64 g, .int .i64 h, .int .i64 i]).below hb3 (by simp)
  have s0 : w3.cell? ⟨w2.heap.size, 0, none⟩ = some (.int .i64 a) := hS3.cell 0
  have s1 : w3.cell? ⟨w2.heap.size, 1, none⟩ = some (.int .i64 b) := hS3.cell 1
  have s2 : w3.cell? ⟨w2.heap.size, 2, none⟩ = some (.int .i64 c) := hS3.cell 2
  have s3 : w3.cell? ⟨w2.heap.size, 3, none⟩ = some (.bool d) := hS3.cell 3
  have s4 : w3.cell? ⟨w2.heap.size, 4, none⟩ = some (.bool e) := hS3.cell 4
  have s5 : w3.cell? ⟨w2.heap.size, 5, none⟩ = some (.int .i64 f) := hS3.cell 5
  have s6 : w3.cell? ⟨w2.heap.size, 6, none⟩ = some (.int .i64 g) := hS3.cell 6
  have s7 : w3.cell? ⟨w2.heap.size, 7, none⟩ = some (.int .i64 h) := hS3.cell 7
  have s8 : w3.cell? ⟨w2.heap.size, 8, none⟩ = some (.int .i64 i) := hS3.cell 8
  have t0 := cell_more s0 (.cells #[.int .i64 a, .int .i64 b, .int .i64 c, .bool d, .bool e, .int .i64 f, .int .i64 g, .int .i64 h, .int .i64 i] 23)
  have t1 := cell_more s1 (.cells #[.int .i64 a, .int .i64 b, .int .i64 c, .bool d, .bool e, .int .i64 f, .int .i64 g, .int .i64 h, .int .i64 i] 23)
  have t2 := cell_more s2 (.cells #[.int .i64 a, .int .i64 b, .int .i64 c, .bool d, .bool e, .int .i64 f, .int .i64 g, .int .i64 h, .int .i64 i] 23)
  have t3 := cell_more s3 (.cells #[.int .i64 a, .int .i64 b, .int .i64 c, .bool d, .bool e, .int .i64 f, .int .i64 g, .int .i64 h, .int .i64 i] 23)
  have t4 := cell_more s4 (.cells #[.int .i64 a, .int .i64 b, .int .i64 c, .bool d, .bool e, .int .i64 f, .int .i64 g, .int .i64 h, .int .i64 i] 23)
  have t5 := cell_more s5 (.cells #[.int .i64 a, .int .i64 b, .int .i64 c, .bool d, .bool e, .int .i64 f, .int .i64 g, .int .i64 h, .int .i64 i] 23)
  have t6 := cell_more s6 (.cells #[.int .i64 a, .int .i64 b, .int .i64 c, .bool d, .bool e, .int .i64 f, .int .i64 g, .int .i64 h, .int .i64 i] 23)
  have t7 := cell_more s7 (.cells #[.int .i64 a, .int .i64 b, .int .i64 c, .bool d, .bool e, .int .i64 f, .int .i64 g, .int .i64 h, .int .i64 i] 23)
  have t8 := cell_more s8 (.cells #[.int .i64 a, .int .i64 b, .int .i64 c, .bool d, .bool e, .int .i64 f, .int .i64 g, .int .i64 h, .int .i64 i] 23)
  clear hb3 hB2 hBa hS3
  go_wp2
  all_goals go_ret
  all_goals exact ⟨by simp, by first | exact hB3 | exact hB3.alloc hB3.size _⟩
end Go.Proofs.YtljgocfmmdpdfaaDoor
