import Derived.Test.YtljgocfmmdpdfaaDoorSlotPD
namespace Go.Proofs.YtljgocfmmdpdfaaDoor
open Go.RowKit Go.Fld
set_option linter.unusedVariables false
attribute [local go_sem ↓] Go.wp_at_zero Go.wp_at_succ slot_equal
theorem decS_enc {s : Slt} {z : Int} (h : encS s = some z) : decS z = some s ∧ 0 ≤ z := by
  obtain ⟨h1, h2, h3⟩ := dec_enc s z h
  refine ⟨?_, h2⟩
  unfold decS
  rw [h1, if_pos h]
theorem encS_dec {s : Slt} {z : Int} (h : decS z = some s) : encS s = some z := by
  unfold decS at h
  split at h
  · rename_i h'; cases h; exact h'
  · cases h
set_option maxHeartbeats 4000000 in
theorem back_walk (a b c : Int) (d e : Bool) (f g h i x : Int) (w : World) (hT : Tab w) :
    Calls Tryd.prog 5 #[.agg #[.int .i64 a, .int .i64 b, .int .i64 c, .bool d, .bool e, .int .i64 f, .int .i64 g, .int .i64 h, .int .i64 i], .int .i64 x] w fun en w' => en = .returned (.bool true) ∧ Below w.heap.size w w' := by
  obtain ⟨D, hD⟩ : ∃ D, encS ⟨a, b, c, d, e, f, g, h, i⟩ = D := ⟨_, rfl⟩
  have HD := Lib.hid hD
  clear hD
  go_enter Tryd.func5, Tryd.ntmps5
  go_wp2_with fail
  obtain ⟨W1, hW1⟩ : ∃ W1, w.alloc (.cells #[.int .i64 a, .int .i64 b, .int .i64 c, .bool d, .bool e, .int .i64 f, .int .i64 g, .int .i64 h, .int .i64 i] 23) = W1 := ⟨_, rfl⟩
  have hB1 : Below w.heap.size w W1 := by rw [← hW1]; exact (Below.refl _ _).alloc (Nat.le_refl _) _
  have hR1 : Blk W1 w.heap.size 23 #[.int .i64 a, .int .i64 b, .int .i64 c, .bool d, .bool e, .int .i64 f, .int .i64 g, .int .i64 h, .int .i64 i] := by rw [← hW1]; exact Blk.new w 23 _
  rw [hW1]
  have hT1 := hT.below hB1
  refine (awake_any _ hT1).mono ?_
  rintro en w2 ⟨rfl, hb⟩
  have hB2 := hB1.trans (hb.mono hB1.size)
  have hR2 := hR1.below hb hR1.lt
  have hT2 := hT1.below hb
  clear hb hR1 hB1 hT1 hW1
  have c0 : w2.cell? ⟨w.heap.size, 0, none⟩ = some (.int .i64 a) := hR2.cell 0
  have c1 : w2.cell? ⟨w.heap.size, 1, none⟩ = some (.int .i64 b) := hR2.cell 1
  have c2 : w2.cell? ⟨w.heap.size, 2, none⟩ = some (.int .i64 c) := hR2.cell 2
  have c3 : w2.cell? ⟨w.heap.size, 3, none⟩ = some (.bool d) := hR2.cell 3
  have c4 : w2.cell? ⟨w.heap.size, 4, none⟩ = some (.bool e) := hR2.cell 4
  have c5 : w2.cell? ⟨w.heap.size, 5, none⟩ = some (.int .i64 f) := hR2.cell 5
  have c6 : w2.cell? ⟨w.heap.size, 6, none⟩ = some (.int .i64 g) := hR2.cell 6
  have c7 : w2.cell? ⟨w.heap.size, 7, none⟩ = some (.int .i64 h) := hR2.cell 7
  have c8 : w2.cell? ⟨w.heap.size, 8, none⟩ = some (.int .i64 i) := hR2.cell 8
  go_wp2_with fail
  refine (enc_any _ _ _ _ _ _ _ _ _ _ hT2).mono ?_
  rintro en w3 ⟨rfl, hb⟩
  rw [HD.out]
  have hB3 := hB2.trans (hb.mono hB2.size)
  have hR3 := hR2.below hb hR2.lt
  have hT3 := hT2.below hb
  clear hb hR2 hB2 hT2 c0 c1 c2 c3 c4 c5 c6 c7 c8
  have c0 : w3.cell? ⟨w.heap.size, 0, none⟩ = some (.int .i64 a) := hR3.cell 0
  have c1 : w3.cell? ⟨w.heap.size, 1, none⟩ = some (.int .i64 b) := hR3.cell 1
  have c2 : w3.cell? ⟨w.heap.size, 2, none⟩ = some (.int .i64 c) := hR3.cell 2
  have c3 : w3.cell? ⟨w.heap.size, 3, none⟩ = some (.bool d) := hR3.cell 3
  have c4 : w3.cell? ⟨w.heap.size, 4, none⟩ = some (.bool e) := hR3.cell 4
  have c5 : w3.cell? ⟨w.heap.size, 5, none⟩ = some (.int .i64 f) := hR3.cell 5
  have c6 : w3.cell? ⟨w.heap.size, 6, none⟩ = some (.int .i64 g) := hR3.cell 6
  have c7 : w3.cell? ⟨w.heap.size, 7, none⟩ = some (.int .i64 h) := hR3.cell 7
  have c8 : w3.cell? ⟨w.heap.size, 8, none⟩ = some (.int .i64 i) := hR3.cell 8
  cases D with
  | none =>
    rw [show packR none = .tuple #[.int .i64 0, .bool false] from rfl]
    go_wp2_with fail
    obtain ⟨E, hE⟩ : ∃ E, decS x = E := ⟨_, rfl⟩
    have HE := Lib.hid hE
    clear hE
    refine (dec_any x _ hT3).mono ?_
    rintro en w4 ⟨rfl, hb⟩
    rw [HE.out]
    have hB4 := hB3.trans (hb.mono hB3.size)
    have hR4 := hR3.below hb hR3.lt
    have hT4 := hT3.below hb
    clear hb c0 c1 c2 c3 c4 c5 c6 c7 c8
    cases E with
    | none =>
      rw [show decR none = .tuple #[.agg #[.int .i64 0, .int .i64 0, .int .i64 0, .bool false, .bool false, .int .i64 0, .int .i64 0, .int .i64 0, .int .i64 0], .bool false] from rfl]
      have hsz : seq (⟨0, 0, 0, false, false, 0, 0, 0, 0⟩ : Slt) ⟨0, 0, 0, false, false, 0, 0, 0, 0⟩ = true := by decide
      go_wp2_with fail
      have hBa := hB4.alloc hB4.size (.cells #[.int .i64 0, .int .i64 0, .int .i64 0, .bool false, .bool false, .int .i64 0, .int .i64 0, .int .i64 0, .int .i64 0] 23)
      have hTa : Tab (w4.alloc (.cells #[.int .i64 0, .int .i64 0, .int .i64 0, .bool false, .bool false, .int .i64 0, .int .i64 0, .int .i64 0, .int .i64 0] 23)) := hT4.below ((Below.refl _ _).alloc (Nat.le_refl _) _)
      refine (enc_any _ _ _ _ _ _ _ _ _ _ hTa).mono ?_
      rintro en w6 ⟨rfl, hb⟩
      rw [packR_eq]
      have hB6 := hBa.trans (hb.mono hBa.size)
      have hR6 := (blk_alloc hR4 (.cells #[.int .i64 0, .int .i64 0, .int .i64 0, .bool false, .bool false, .int .i64 0, .int .i64 0, .int .i64 0, .int .i64 0] 23)).below hb (by have := hR4.lt; simp; omega)
      have hS6 := (Blk.new w4 23 #[.int .i64 0, .int .i64 0, .int .i64 0, .bool false, .bool false, .int .i64 0, .int .i64 0, .int .i64 0, .int .i64 0]).below hb (by simp)
      have hT6 := hTa.below hb
      have hZ6 : w.heap.size < w6.heap.size := hR6.lt
      have hY6 : w4.heap.size < w6.heap.size := hS6.lt
      obtain ⟨tb, htb⟩ : ∃ tb, tb = w4.heap.size := ⟨_, rfl⟩
      rw [← htb] at hS6 hY6 ⊢
      clear hb hBa hTa htb
      have c0 : w6.cell? ⟨w.heap.size, 0, none⟩ = some (.int .i64 a) := hR6.cell 0
      have c1 : w6.cell? ⟨w.heap.size, 1, none⟩ = some (.int .i64 b) := hR6.cell 1
      have c2 : w6.cell? ⟨w.heap.size, 2, none⟩ = some (.int .i64 c) := hR6.cell 2
      have c3 : w6.cell? ⟨w.heap.size, 3, none⟩ = some (.bool d) := hR6.cell 3
      have c4 : w6.cell? ⟨w.heap.size, 4, none⟩ = some (.bool e) := hR6.cell 4
      have c5 : w6.cell? ⟨w.heap.size, 5, none⟩ = some (.int .i64 f) := hR6.cell 5
      have c6 : w6.cell? ⟨w.heap.size, 6, none⟩ = some (.int .i64 g) := hR6.cell 6
      have c7 : w6.cell? ⟨w.heap.size, 7, none⟩ = some (.int .i64 h) := hR6.cell 7
      have c8 : w6.cell? ⟨w.heap.size, 8, none⟩ = some (.int .i64 i) := hR6.cell 8
      have t0 : w6.cell? ⟨tb, 0, none⟩ = some (.int .i64 0) := hS6.cell 0
      have t1 : w6.cell? ⟨tb, 1, none⟩ = some (.int .i64 0) := hS6.cell 1
      have t2 : w6.cell? ⟨tb, 2, none⟩ = some (.int .i64 0) := hS6.cell 2
      have t3 : w6.cell? ⟨tb, 3, none⟩ = some (.bool false) := hS6.cell 3
      have t4 : w6.cell? ⟨tb, 4, none⟩ = some (.bool false) := hS6.cell 4
      have t5 : w6.cell? ⟨tb, 5, none⟩ = some (.int .i64 0) := hS6.cell 5
      have t6 : w6.cell? ⟨tb, 6, none⟩ = some (.int .i64 0) := hS6.cell 6
      have t7 : w6.cell? ⟨tb, 7, none⟩ = some (.int .i64 0) := hS6.cell 7
      have t8 : w6.cell? ⟨tb, 8, none⟩ = some (.int .i64 0) := hS6.cell 8
      go_wp2_with fail
      refine (rightS_any _ _ _ _ _ _ _ _ _ _ hT6).mono ?_
      rintro en w7 ⟨rfl, hb⟩
      rw [HD.out]
      have hB7 := hB6.trans (hb.mono hB6.size)
      have hS7 := hS6.below hb hY6
      clear t0 t1 t2 t3 t4 t5 t6 t7 t8
      have t0 : w7.cell? ⟨tb, 0, none⟩ = some (.int .i64 0) := hS7.cell 0
      have t1 : w7.cell? ⟨tb, 1, none⟩ = some (.int .i64 0) := hS7.cell 1
      have t2 : w7.cell? ⟨tb, 2, none⟩ = some (.int .i64 0) := hS7.cell 2
      have t3 : w7.cell? ⟨tb, 3, none⟩ = some (.bool false) := hS7.cell 3
      have t4 : w7.cell? ⟨tb, 4, none⟩ = some (.bool false) := hS7.cell 4
      have t5 : w7.cell? ⟨tb, 5, none⟩ = some (.int .i64 0) := hS7.cell 5
      have t6 : w7.cell? ⟨tb, 6, none⟩ = some (.int .i64 0) := hS7.cell 6
      have t7 : w7.cell? ⟨tb, 7, none⟩ = some (.int .i64 0) := hS7.cell 7
      have t8 : w7.cell? ⟨tb, 8, none⟩ = some (.int .i64 0) := hS7.cell 8
      go_wp2
      all_goals go_ret
      all_goals exact ⟨by simp, hB7⟩
    | some t =>
      obtain ⟨a', b', c', d', e', f', g', h', i'⟩ := t
      have HEN := Lib.hid (encS_dec HE.out)
      rw [show decR (some ⟨a', b', c', d', e', f', g', h', i'⟩) = .tuple #[.agg #[.int .i64 a', .int .i64 b', .int .i64 c', .bool d', .bool e', .int .i64 f', .int .i64 g', .int .i64 h', .int .i64 i'], .bool true] from rfl]
      go_wp2_with fail
      have hBa := hB4.alloc hB4.size (.cells #[.int .i64 a', .int .i64 b', .int .i64 c', .bool d', .bool e', .int .i64 f', .int .i64 g', .int .i64 h', .int .i64 i'] 23)
      have hTa : Tab (w4.alloc (.cells #[.int .i64 a', .int .i64 b', .int .i64 c', .bool d', .bool e', .int .i64 f', .int .i64 g', .int .i64 h', .int .i64 i'] 23)) := hT4.below ((Below.refl _ _).alloc (Nat.le_refl _) _)
      refine (enc_any _ _ _ _ _ _ _ _ _ _ hTa).mono ?_
      rintro en w6 ⟨rfl, hb⟩
      rw [HEN.out, show packR (some x) = .tuple #[.int .i64 x, .bool true] from rfl]
      have hB6 := hBa.trans (hb.mono hBa.size)
      have hR6 := (blk_alloc hR4 (.cells #[.int .i64 a', .int .i64 b', .int .i64 c', .bool d', .bool e', .int .i64 f', .int .i64 g', .int .i64 h', .int .i64 i'] 23)).below hb (by have := hR4.lt; simp; omega)
      have hS6 := (Blk.new w4 23 #[.int .i64 a', .int .i64 b', .int .i64 c', .bool d', .bool e', .int .i64 f', .int .i64 g', .int .i64 h', .int .i64 i']).below hb (by simp)
      have hT6 := hTa.below hb
      have hZ6 : w.heap.size < w6.heap.size := hR6.lt
      have hY6 : w4.heap.size < w6.heap.size := hS6.lt
      obtain ⟨tb, htb⟩ : ∃ tb, tb = w4.heap.size := ⟨_, rfl⟩
      rw [← htb] at hS6 hY6 ⊢
      clear hb hBa hTa htb
      have c0 : w6.cell? ⟨w.heap.size, 0, none⟩ = some (.int .i64 a) := hR6.cell 0
      have c1 : w6.cell? ⟨w.heap.size, 1, none⟩ = some (.int .i64 b) := hR6.cell 1
      have c2 : w6.cell? ⟨w.heap.size, 2, none⟩ = some (.int .i64 c) := hR6.cell 2
      have c3 : w6.cell? ⟨w.heap.size, 3, none⟩ = some (.bool d) := hR6.cell 3
      have c4 : w6.cell? ⟨w.heap.size, 4, none⟩ = some (.bool e) := hR6.cell 4
      have c5 : w6.cell? ⟨w.heap.size, 5, none⟩ = some (.int .i64 f) := hR6.cell 5
      have c6 : w6.cell? ⟨w.heap.size, 6, none⟩ = some (.int .i64 g) := hR6.cell 6
      have c7 : w6.cell? ⟨w.heap.size, 7, none⟩ = some (.int .i64 h) := hR6.cell 7
      have c8 : w6.cell? ⟨w.heap.size, 8, none⟩ = some (.int .i64 i) := hR6.cell 8
      have t0 : w6.cell? ⟨tb, 0, none⟩ = some (.int .i64 a') := hS6.cell 0
      have t1 : w6.cell? ⟨tb, 1, none⟩ = some (.int .i64 b') := hS6.cell 1
      have t2 : w6.cell? ⟨tb, 2, none⟩ = some (.int .i64 c') := hS6.cell 2
      have t3 : w6.cell? ⟨tb, 3, none⟩ = some (.bool d') := hS6.cell 3
      have t4 : w6.cell? ⟨tb, 4, none⟩ = some (.bool e') := hS6.cell 4
      have t5 : w6.cell? ⟨tb, 5, none⟩ = some (.int .i64 f') := hS6.cell 5
      have t6 : w6.cell? ⟨tb, 6, none⟩ = some (.int .i64 g') := hS6.cell 6
      have t7 : w6.cell? ⟨tb, 7, none⟩ = some (.int .i64 h') := hS6.cell 7
      have t8 : w6.cell? ⟨tb, 8, none⟩ = some (.int .i64 i') := hS6.cell 8
      go_wp2_with fail
      refine (rightS_any _ _ _ _ _ _ _ _ _ _ hT6).mono ?_
      rintro en w7 ⟨rfl, hb⟩
      rw [HD.out]
      have hB7 := hB6.trans (hb.mono hB6.size)
      have hS7 := hS6.below hb hY6
      clear t0 t1 t2 t3 t4 t5 t6 t7 t8
      have t0 : w7.cell? ⟨tb, 0, none⟩ = some (.int .i64 a') := hS7.cell 0
      have t1 : w7.cell? ⟨tb, 1, none⟩ = some (.int .i64 b') := hS7.cell 1
      have t2 : w7.cell? ⟨tb, 2, none⟩ = some (.int .i64 c') := hS7.cell 2
      have t3 : w7.cell? ⟨tb, 3, none⟩ = some (.bool d') := hS7.cell 3
      have t4 : w7.cell? ⟨tb, 4, none⟩ = some (.bool e') := hS7.cell 4
      have t5 : w7.cell? ⟨tb, 5, none⟩ = some (.int .i64 f') := hS7.cell 5
      have t6 : w7.cell? ⟨tb, 6, none⟩ = some (.int .i64 g') := hS7.cell 6
      have t7 : w7.cell? ⟨tb, 7, none⟩ = some (.int .i64 h') := hS7.cell 7
      have t8 : w7.cell? ⟨tb, 8, none⟩ = some (.int .i64 i') := hS7.cell 8
      go_wp2
      all_goals go_ret
      all_goals exact ⟨by simp, hB7⟩
  | some z =>
    rw [show packR (some z) = .tuple #[.int .i64 z, .bool true] from rfl]
    obtain ⟨hz1, hz2⟩ := decS_enc HD.out
    have HZ := Lib.hid hz1
    clear hz1
    go_wp2_with fail
    refine (dec_any z _ hT3).mono ?_
    rintro en w9 ⟨rfl, hb⟩
    rw [HZ.out, show decR (some ⟨a, b, c, d, e, f, g, h, i⟩) = .tuple #[.agg #[.int .i64 a, .int .i64 b, .int .i64 c, .bool d, .bool e, .int .i64 f, .int .i64 g, .int .i64 h, .int .i64 i], .bool true] from rfl]
    have hB9 := hB3.trans (hb.mono hB3.size)
    have hR9 := hR3.below hb hR3.lt
    have hT9 := hT3.below hb
    clear hb c0 c1 c2 c3 c4 c5 c6 c7 c8
    have hsz : seq (⟨a, b, c, d, e, f, g, h, i⟩ : Slt) ⟨a, b, c, d, e, f, g, h, i⟩ = true := by unfold seq; simp
    have hzn : decide (z < 0) = false := by simpa using hz2
    have c0 : w9.cell? ⟨w.heap.size, 0, none⟩ = some (.int .i64 a) := hR9.cell 0
    have c1 : w9.cell? ⟨w.heap.size, 1, none⟩ = some (.int .i64 b) := hR9.cell 1
    have c2 : w9.cell? ⟨w.heap.size, 2, none⟩ = some (.int .i64 c) := hR9.cell 2
    have c3 : w9.cell? ⟨w.heap.size, 3, none⟩ = some (.bool d) := hR9.cell 3
    have c4 : w9.cell? ⟨w.heap.size, 4, none⟩ = some (.bool e) := hR9.cell 4
    have c5 : w9.cell? ⟨w.heap.size, 5, none⟩ = some (.int .i64 f) := hR9.cell 5
    have c6 : w9.cell? ⟨w.heap.size, 6, none⟩ = some (.int .i64 g) := hR9.cell 6
    have c7 : w9.cell? ⟨w.heap.size, 7, none⟩ = some (.int .i64 h) := hR9.cell 7
    have c8 : w9.cell? ⟨w.heap.size, 8, none⟩ = some (.int .i64 i) := hR9.cell 8
    have hB8 := hB9.alloc hB9.size (.cells #[.int .i64 a, .int .i64 b, .int .i64 c, .bool d, .bool e, .int .i64 f, .int .i64 g, .int .i64 h, .int .i64 i] 23)
    have hR8 := blk_alloc hR9 (.cells #[.int .i64 a, .int .i64 b, .int .i64 c, .bool d, .bool e, .int .i64 f, .int .i64 g, .int .i64 h, .int .i64 i] 23)
    have hT8 : Tab (w9.alloc (.cells #[.int .i64 a, .int .i64 b, .int .i64 c, .bool d, .bool e, .int .i64 f, .int .i64 g, .int .i64 h, .int .i64 i] 23)) := hT9.below ((Below.refl _ _).alloc (Nat.le_refl _) _)
    have d0 := cell_more c0 (.cells #[.int .i64 a, .int .i64 b, .int .i64 c, .bool d, .bool e, .int .i64 f, .int .i64 g, .int .i64 h, .int .i64 i] 23)
    have d1 := cell_more c1 (.cells #[.int .i64 a, .int .i64 b, .int .i64 c, .bool d, .bool e, .int .i64 f, .int .i64 g, .int .i64 h, .int .i64 i] 23)
    have d2 := cell_more c2 (.cells #[.int .i64 a, .int .i64 b, .int .i64 c, .bool d, .bool e, .int .i64 f, .int .i64 g, .int .i64 h, .int .i64 i] 23)
    have d3 := cell_more c3 (.cells #[.int .i64 a, .int .i64 b, .int .i64 c, .bool d, .bool e, .int .i64 f, .int .i64 g, .int .i64 h, .int .i64 i] 23)
    have d4 := cell_more c4 (.cells #[.int .i64 a, .int .i64 b, .int .i64 c, .bool d, .bool e, .int .i64 f, .int .i64 g, .int .i64 h, .int .i64 i] 23)
    have d5 := cell_more c5 (.cells #[.int .i64 a, .int .i64 b, .int .i64 c, .bool d, .bool e, .int .i64 f, .int .i64 g, .int .i64 h, .int .i64 i] 23)
    have d6 := cell_more c6 (.cells #[.int .i64 a, .int .i64 b, .int .i64 c, .bool d, .bool e, .int .i64 f, .int .i64 g, .int .i64 h, .int .i64 i] 23)
    have d7 := cell_more c7 (.cells #[.int .i64 a, .int .i64 b, .int .i64 c, .bool d, .bool e, .int .i64 f, .int .i64 g, .int .i64 h, .int .i64 i] 23)
    have d8 := cell_more c8 (.cells #[.int .i64 a, .int .i64 b, .int .i64 c, .bool d, .bool e, .int .i64 f, .int .i64 g, .int .i64 h, .int .i64 i] 23)
    go_wp2_with fail
    obtain ⟨W8, hW8⟩ : ∃ W8, w9.alloc (.cells #[.int .i64 a, .int .i64 b, .int .i64 c, .bool d, .bool e, .int .i64 f, .int .i64 g, .int .i64 h, .int .i64 i] 23) = W8 := ⟨_, rfl⟩
    rw [hW8] at hB8 hR8 hT8 ⊢
    clear d0 d1 d2 d3 d4 d5 d6 d7 d8 hsz hW8 hB9 hR9 hT9
    obtain ⟨E, hE⟩ : ∃ E, decS x = E := ⟨_, rfl⟩
    have HE := Lib.hid hE
    clear hE
    refine (dec_any x _ hT8).mono ?_
    rintro en w4 ⟨rfl, hb⟩
    rw [HE.out]
    have hB4 := hB8.trans (hb.mono hB8.size)
    have hR4 := hR8.below hb hR8.lt
    have hT4 := hT8.below hb
    clear hb c0 c1 c2 c3 c4 c5 c6 c7 c8
    cases E with
    | none =>
      rw [show decR none = .tuple #[.agg #[.int .i64 0, .int .i64 0, .int .i64 0, .bool false, .bool false, .int .i64 0, .int .i64 0, .int .i64 0, .int .i64 0], .bool false] from rfl]
      have hsz : seq (⟨0, 0, 0, false, false, 0, 0, 0, 0⟩ : Slt) ⟨0, 0, 0, false, false, 0, 0, 0, 0⟩ = true := by decide
      go_wp2_with fail
      have hBa := hB4.alloc hB4.size (.cells #[.int .i64 0, .int .i64 0, .int .i64 0, .bool false, .bool false, .int .i64 0, .int .i64 0, .int .i64 0, .int .i64 0] 23)
      have hTa : Tab (w4.alloc (.cells #[.int .i64 0, .int .i64 0, .int .i64 0, .bool false, .bool false, .int .i64 0, .int .i64 0, .int .i64 0, .int .i64 0] 23)) := hT4.below ((Below.refl _ _).alloc (Nat.le_refl _) _)
      refine (enc_any _ _ _ _ _ _ _ _ _ _ hTa).mono ?_
      rintro en w6 ⟨rfl, hb⟩
      rw [packR_eq]
      have hB6 := hBa.trans (hb.mono hBa.size)
      have hR6 := (blk_alloc hR4 (.cells #[.int .i64 0, .int .i64 0, .int .i64 0, .bool false, .bool false, .int .i64 0, .int .i64 0, .int .i64 0, .int .i64 0] 23)).below hb (by have := hR4.lt; simp; omega)
      have hS6 := (Blk.new w4 23 #[.int .i64 0, .int .i64 0, .int .i64 0, .bool false, .bool false, .int .i64 0, .int .i64 0, .int .i64 0, .int .i64 0]).below hb (by simp)
      have hT6 := hTa.below hb
      have hZ6 : w.heap.size < w6.heap.size := hR6.lt
      have hY6 : w4.heap.size < w6.heap.size := hS6.lt
      obtain ⟨tb, htb⟩ : ∃ tb, tb = w4.heap.size := ⟨_, rfl⟩
      rw [← htb] at hS6 hY6 ⊢
      clear hb hBa hTa htb
      have c0 : w6.cell? ⟨w.heap.size, 0, none⟩ = some (.int .i64 a) := hR6.cell 0
      have c1 : w6.cell? ⟨w.heap.size, 1, none⟩ = some (.int .i64 b) := hR6.cell 1
      have c2 : w6.cell? ⟨w.heap.size, 2, none⟩ = some (.int .i64 c) := hR6.cell 2
      have c3 : w6.cell? ⟨w.heap.size, 3, none⟩ = some (.bool d) := hR6.cell 3
      have c4 : w6.cell? ⟨w.heap.size, 4, none⟩ = some (.bool e) := hR6.cell 4
      have c5 : w6.cell? ⟨w.heap.size, 5, none⟩ = some (.int .i64 f) := hR6.cell 5
      have c6 : w6.cell? ⟨w.heap.size, 6, none⟩ = some (.int .i64 g) := hR6.cell 6
      have c7 : w6.cell? ⟨w.heap.size, 7, none⟩ = some (.int .i64 h) := hR6.cell 7
      have c8 : w6.cell? ⟨w.heap.size, 8, none⟩ = some (.int .i64 i) := hR6.cell 8
      have t0 : w6.cell? ⟨tb, 0, none⟩ = some (.int .i64 0) := hS6.cell 0
      have t1 : w6.cell? ⟨tb, 1, none⟩ = some (.int .i64 0) := hS6.cell 1
      have t2 : w6.cell? ⟨tb, 2, none⟩ = some (.int .i64 0) := hS6.cell 2
      have t3 : w6.cell? ⟨tb, 3, none⟩ = some (.bool false) := hS6.cell 3
      have t4 : w6.cell? ⟨tb, 4, none⟩ = some (.bool false) := hS6.cell 4
      have t5 : w6.cell? ⟨tb, 5, none⟩ = some (.int .i64 0) := hS6.cell 5
      have t6 : w6.cell? ⟨tb, 6, none⟩ = some (.int .i64 0) := hS6.cell 6
      have t7 : w6.cell? ⟨tb, 7, none⟩ = some (.int .i64 0) := hS6.cell 7
      have t8 : w6.cell? ⟨tb, 8, none⟩ = some (.int .i64 0) := hS6.cell 8
      go_wp2_with fail
      refine (rightS_any _ _ _ _ _ _ _ _ _ _ hT6).mono ?_
      rintro en w7 ⟨rfl, hb⟩
      rw [HD.out]
      have hB7 := hB6.trans (hb.mono hB6.size)
      have hS7 := hS6.below hb hY6
      clear t0 t1 t2 t3 t4 t5 t6 t7 t8
      have t0 : w7.cell? ⟨tb, 0, none⟩ = some (.int .i64 0) := hS7.cell 0
      have t1 : w7.cell? ⟨tb, 1, none⟩ = some (.int .i64 0) := hS7.cell 1
      have t2 : w7.cell? ⟨tb, 2, none⟩ = some (.int .i64 0) := hS7.cell 2
      have t3 : w7.cell? ⟨tb, 3, none⟩ = some (.bool false) := hS7.cell 3
      have t4 : w7.cell? ⟨tb, 4, none⟩ = some (.bool false) := hS7.cell 4
      have t5 : w7.cell? ⟨tb, 5, none⟩ = some (.int .i64 0) := hS7.cell 5
      have t6 : w7.cell? ⟨tb, 6, none⟩ = some (.int .i64 0) := hS7.cell 6
      have t7 : w7.cell? ⟨tb, 7, none⟩ = some (.int .i64 0) := hS7.cell 7
      have t8 : w7.cell? ⟨tb, 8, none⟩ = some (.int .i64 0) := hS7.cell 8
      go_wp2
      all_goals go_ret
      all_goals exact ⟨by simp, hB7⟩
    | some t =>
      obtain ⟨a', b', c', d', e', f', g', h', i'⟩ := t
      have HEN := Lib.hid (encS_dec HE.out)
      rw [show decR (some ⟨a', b', c', d', e', f', g', h', i'⟩) = .tuple #[.agg #[.int .i64 a', .int .i64 b', .int .i64 c', .bool d', .bool e', .int .i64 f', .int .i64 g', .int .i64 h', .int .i64 i'], .bool true] from rfl]
      go_wp2_with fail
      have hBa := hB4.alloc hB4.size (.cells #[.int .i64 a', .int .i64 b', .int .i64 c', .bool d', .bool e', .int .i64 f', .int .i64 g', .int .i64 h', .int .i64 i'] 23)
      have hTa : Tab (w4.alloc (.cells #[.int .i64 a', .int .i64 b', .int .i64 c', .bool d', .bool e', .int .i64 f', .int .i64 g', .int .i64 h', .int .i64 i'] 23)) := hT4.below ((Below.refl _ _).alloc (Nat.le_refl _) _)
      refine (enc_any _ _ _ _ _ _ _ _ _ _ hTa).mono ?_
      rintro en w6 ⟨rfl, hb⟩
      rw [HEN.out, show packR (some x) = .tuple #[.int .i64 x, .bool true] from rfl]
      have hB6 := hBa.trans (hb.mono hBa.size)
      have hR6 := (blk_alloc hR4 (.cells #[.int .i64 a', .int .i64 b', .int .i64 c', .bool d', .bool e', .int .i64 f', .int .i64 g', .int .i64 h', .int .i64 i'] 23)).below hb (by have := hR4.lt; simp; omega)
      have hS6 := (Blk.new w4 23 #[.int .i64 a', .int .i64 b', .int .i64 c', .bool d', .bool e', .int .i64 f', .int .i64 g', .int .i64 h', .int .i64 i']).below hb (by simp)
      have hT6 := hTa.below hb
      have hZ6 : w.heap.size < w6.heap.size := hR6.lt
      have hY6 : w4.heap.size < w6.heap.size := hS6.lt
      obtain ⟨tb, htb⟩ : ∃ tb, tb = w4.heap.size := ⟨_, rfl⟩
      rw [← htb] at hS6 hY6 ⊢
      clear hb hBa hTa htb
      have c0 : w6.cell? ⟨w.heap.size, 0, none⟩ = some (.int .i64 a) := hR6.cell 0
      have c1 : w6.cell? ⟨w.heap.size, 1, none⟩ = some (.int .i64 b) := hR6.cell 1
      have c2 : w6.cell? ⟨w.heap.size, 2, none⟩ = some (.int .i64 c) := hR6.cell 2
      have c3 : w6.cell? ⟨w.heap.size, 3, none⟩ = some (.bool d) := hR6.cell 3
      have c4 : w6.cell? ⟨w.heap.size, 4, none⟩ = some (.bool e) := hR6.cell 4
      have c5 : w6.cell? ⟨w.heap.size, 5, none⟩ = some (.int .i64 f) := hR6.cell 5
      have c6 : w6.cell? ⟨w.heap.size, 6, none⟩ = some (.int .i64 g) := hR6.cell 6
      have c7 : w6.cell? ⟨w.heap.size, 7, none⟩ = some (.int .i64 h) := hR6.cell 7
      have c8 : w6.cell? ⟨w.heap.size, 8, none⟩ = some (.int .i64 i) := hR6.cell 8
      have t0 : w6.cell? ⟨tb, 0, none⟩ = some (.int .i64 a') := hS6.cell 0
      have t1 : w6.cell? ⟨tb, 1, none⟩ = some (.int .i64 b') := hS6.cell 1
      have t2 : w6.cell? ⟨tb, 2, none⟩ = some (.int .i64 c') := hS6.cell 2
      have t3 : w6.cell? ⟨tb, 3, none⟩ = some (.bool d') := hS6.cell 3
      have t4 : w6.cell? ⟨tb, 4, none⟩ = some (.bool e') := hS6.cell 4
      have t5 : w6.cell? ⟨tb, 5, none⟩ = some (.int .i64 f') := hS6.cell 5
      have t6 : w6.cell? ⟨tb, 6, none⟩ = some (.int .i64 g') := hS6.cell 6
      have t7 : w6.cell? ⟨tb, 7, none⟩ = some (.int .i64 h') := hS6.cell 7
      have t8 : w6.cell? ⟨tb, 8, none⟩ = some (.int .i64 i') := hS6.cell 8
      go_wp2_with fail
      refine (rightS_any _ _ _ _ _ _ _ _ _ _ hT6).mono ?_
      rintro en w7 ⟨rfl, hb⟩
      rw [HD.out]
      have hB7 := hB6.trans (hb.mono hB6.size)
      have hS7 := hS6.below hb hY6
      clear t0 t1 t2 t3 t4 t5 t6 t7 t8
      have t0 : w7.cell? ⟨tb, 0, none⟩ = some (.int .i64 a') := hS7.cell 0
      have t1 : w7.cell? ⟨tb, 1, none⟩ = some (.int .i64 b') := hS7.cell 1
      have t2 : w7.cell? ⟨tb, 2, none⟩ = some (.int .i64 c') := hS7.cell 2
      have t3 : w7.cell? ⟨tb, 3, none⟩ = some (.bool d') := hS7.cell 3
      have t4 : w7.cell? ⟨tb, 4, none⟩ = some (.bool e') := hS7.cell 4
      have t5 : w7.cell? ⟨tb, 5, none⟩ = some (.int .i64 f') := hS7.cell 5
      have t6 : w7.cell? ⟨tb, 6, none⟩ = some (.int .i64 g') := hS7.cell 6
      have t7 : w7.cell? ⟨tb, 7, none⟩ = some (.int .i64 h') := hS7.cell 7
      have t8 : w7.cell? ⟨tb, 8, none⟩ = some (.int .i64 i') := hS7.cell 8
      go_wp2
      all_goals go_ret
      all_goals exact ⟨by simp, hB7⟩
end Go.Proofs.YtljgocfmmdpdfaaDoor
