import Derived.Test.YtljgocfmmdpdfaaDoorSlotS
namespace Go.Proofs.YtljgocfmmdpdfaaDoor
open Go.RowKit Go.Fld
set_option linter.unusedVariables false
attribute [local go_sem ↓] Go.wp_at_zero Go.wp_at_succ
def rawR (w : Int) : Slt := ⟨w % 8, w / 8 % 16, w / 128 % 256, w / 32768 % 2 == 1, w / 65536 % 2 == 1, w / 131072 % 64, w / 8388608 % 4096, w / 34359738368 % 4096, w / 140737488355328⟩
def decQ (w : Int) : Option Slt := if w < 0 then none else if rightR (rawR w) then some (rawR w) else none
set_option maxHeartbeats 4000000 in
theorem decQ_any (x : Int) (hx : I64 x) (w : World) :
    Calls Tryd.prog 14 #[.int .i64 x] w fun en w' => en = .returned (decR (decQ x)) ∧ Below w.heap.size w w' := by
  obtain ⟨lo, hi⟩ := hx
  obtain ⟨R, hR⟩ : ∃ R, R = decR (decQ x) := ⟨_, rfl⟩
  rw [← hR]
  have HR := Lib.hid hR
  clear hR
  by_cases h0 : x < 0
  · have HZ := Lib.hid (show decQ x = none by unfold decQ; rw [if_pos h0])
    go_enter Tryd.func14, Tryd.ntmps14
    go_wp2
    have hR5 := Blk.new w 23 #[.int .i64 0, .int .i64 0, .int .i64 0, .bool false, .bool false, .int .i64 0, .int .i64 0, .int .i64 0, .int .i64 0]
    have r0 : (w.alloc (.cells #[.int .i64 0, .int .i64 0, .int .i64 0, .bool false, .bool false, .int .i64 0, .int .i64 0, .int .i64 0, .int .i64 0] 23)).cell? ⟨w.heap.size, 0, none⟩ = some (.int .i64 0) := hR5.cell 0
    have r1 : (w.alloc (.cells #[.int .i64 0, .int .i64 0, .int .i64 0, .bool false, .bool false, .int .i64 0, .int .i64 0, .int .i64 0, .int .i64 0] 23)).cell? ⟨w.heap.size, 1, none⟩ = some (.int .i64 0) := hR5.cell 1
    have r2 : (w.alloc (.cells #[.int .i64 0, .int .i64 0, .int .i64 0, .bool false, .bool false, .int .i64 0, .int .i64 0, .int .i64 0, .int .i64 0] 23)).cell? ⟨w.heap.size, 2, none⟩ = some (.int .i64 0) := hR5.cell 2
    have r3 : (w.alloc (.cells #[.int .i64 0, .int .i64 0, .int .i64 0, .bool false, .bool false, .int .i64 0, .int .i64 0, .int .i64 0, .int .i64 0] 23)).cell? ⟨w.heap.size, 3, none⟩ = some (.bool false) := hR5.cell 3
    have r4 : (w.alloc (.cells #[.int .i64 0, .int .i64 0, .int .i64 0, .bool false, .bool false, .int .i64 0, .int .i64 0, .int .i64 0, .int .i64 0] 23)).cell? ⟨w.heap.size, 4, none⟩ = some (.bool false) := hR5.cell 4
    have r5 : (w.alloc (.cells #[.int .i64 0, .int .i64 0, .int .i64 0, .bool false, .bool false, .int .i64 0, .int .i64 0, .int .i64 0, .int .i64 0] 23)).cell? ⟨w.heap.size, 5, none⟩ = some (.int .i64 0) := hR5.cell 5
    have r6 : (w.alloc (.cells #[.int .i64 0, .int .i64 0, .int .i64 0, .bool false, .bool false, .int .i64 0, .int .i64 0, .int .i64 0, .int .i64 0] 23)).cell? ⟨w.heap.size, 6, none⟩ = some (.int .i64 0) := hR5.cell 6
    have r7 : (w.alloc (.cells #[.int .i64 0, .int .i64 0, .int .i64 0, .bool false, .bool false, .int .i64 0, .int .i64 0, .int .i64 0, .int .i64 0] 23)).cell? ⟨w.heap.size, 7, none⟩ = some (.int .i64 0) := hR5.cell 7
    have r8 : (w.alloc (.cells #[.int .i64 0, .int .i64 0, .int .i64 0, .bool false, .bool false, .int .i64 0, .int .i64 0, .int .i64 0, .int .i64 0] 23)).cell? ⟨w.heap.size, 8, none⟩ = some (.int .i64 0) := hR5.cell 8
    refine bodyPost_ret (v := R) ?_ rfl ⟨rfl, (Below.refl _ _).alloc (Nat.le_refl _) _⟩
    rw [HR.out, HZ.out]
    simp [results, Tryd.f14, go_sem, decR, Slt.val, Slt.zero, r0, r1, r2, r3, r4, r5, r6, r7, r8]
  · have h1 : 0 ≤ x := by omega
    obtain ⟨r, hr⟩ : ∃ r, rightR (rawR x) = r := ⟨_, rfl⟩
    have Hr := Lib.hid hr
    have HD := Lib.hid (show decQ x = if r then some (rawR x) else none by unfold decQ; rw [if_neg h0, hr])
    clear hr
    go_enter Tryd.func14, Tryd.ntmps14
    go_wp2_with fail
    refine (rightR_any _ _ _ _ _ _ _ _ _ _).mono ?_
    rintro en w2 ⟨rfl, hb⟩
    rw [show rightR ⟨x % 8, x / 8 % 16, x / 128 % 256, x / 32768 % 2 == 1, x / 65536 % 2 == 1, x / 131072 % 64, x / 8388608 % 4096, x / 34359738368 % 4096, x / 140737488355328⟩ = r from Hr.out]
    have hB2 := (((Below.refl w.heap.size w).alloc (Nat.le_refl _) (.cells #[.int .i64 0, .int .i64 0, .int .i64 0, .bool false, .bool false, .int .i64 0, .int .i64 0, .int .i64 0, .int .i64 0] 23)).alloc (by simp) (.cells #[.int .i64 (x % 8), .int .i64 (x / 8 % 16), .int .i64 (x / 128 % 256), .bool (x / 32768 % 2 == 1), .bool (x / 65536 % 2 == 1), .int .i64 (x / 131072 % 64), .int .i64 (x / 8388608 % 4096), .int .i64 (x / 34359738368 % 4096), .int .i64 (x / 140737488355328)] 23)).trans (hb.mono (by simp; omega))
    have hR2 := (blk_alloc (Blk.new w 23 #[.int .i64 0, .int .i64 0, .int .i64 0, .bool false, .bool false, .int .i64 0, .int .i64 0, .int .i64 0, .int .i64 0]) (.cells #[.int .i64 (x % 8), .int .i64 (x / 8 % 16), .int .i64 (x / 128 % 256), .bool (x / 32768 % 2 == 1), .bool (x / 65536 % 2 == 1), .int .i64 (x / 131072 % 64), .int .i64 (x / 8388608 % 4096), .int .i64 (x / 34359738368 % 4096), .int .i64 (x / 140737488355328)] 23)).below hb (by simp; omega)
    have hS2 := (Blk.new (w.alloc (.cells #[.int .i64 0, .int .i64 0, .int .i64 0, .bool false, .bool false, .int .i64 0, .int .i64 0, .int .i64 0, .int .i64 0] 23)) 23 #[.int .i64 (x % 8), .int .i64 (x / 8 % 16), .int .i64 (x / 128 % 256), .bool (x / 32768 % 2 == 1), .bool (x / 65536 % 2 == 1), .int .i64 (x / 131072 % 64), .int .i64 (x / 8388608 % 4096), .int .i64 (x / 34359738368 % 4096), .int .i64 (x / 140737488355328)]).below hb (by simp)
    rw [World.size_alloc] at hS2
    clear hb
    have s0 : w2.cell? ⟨w.heap.size + 1, 0, none⟩ = some (.int .i64 (x % 8)) := hS2.cell 0
    have s1 : w2.cell? ⟨w.heap.size + 1, 1, none⟩ = some (.int .i64 (x / 8 % 16)) := hS2.cell 1
    have s2 : w2.cell? ⟨w.heap.size + 1, 2, none⟩ = some (.int .i64 (x / 128 % 256)) := hS2.cell 2
    have s3 : w2.cell? ⟨w.heap.size + 1, 3, none⟩ = some (.bool (x / 32768 % 2 == 1)) := hS2.cell 3
    have s4 : w2.cell? ⟨w.heap.size + 1, 4, none⟩ = some (.bool (x / 65536 % 2 == 1)) := hS2.cell 4
    have s5 : w2.cell? ⟨w.heap.size + 1, 5, none⟩ = some (.int .i64 (x / 131072 % 64)) := hS2.cell 5
    have s6 : w2.cell? ⟨w.heap.size + 1, 6, none⟩ = some (.int .i64 (x / 8388608 % 4096)) := hS2.cell 6
    have s7 : w2.cell? ⟨w.heap.size + 1, 7, none⟩ = some (.int .i64 (x / 34359738368 % 4096)) := hS2.cell 7
    have s8 : w2.cell? ⟨w.heap.size + 1, 8, none⟩ = some (.int .i64 (x / 140737488355328)) := hS2.cell 8
    have z0 : w2.cell? ⟨w.heap.size, 0, none⟩ = some (.int .i64 0) := hR2.cell 0
    have z1 : w2.cell? ⟨w.heap.size, 1, none⟩ = some (.int .i64 0) := hR2.cell 1
    have z2 : w2.cell? ⟨w.heap.size, 2, none⟩ = some (.int .i64 0) := hR2.cell 2
    have z3 : w2.cell? ⟨w.heap.size, 3, none⟩ = some (.bool false) := hR2.cell 3
    have z4 : w2.cell? ⟨w.heap.size, 4, none⟩ = some (.bool false) := hR2.cell 4
    have z5 : w2.cell? ⟨w.heap.size, 5, none⟩ = some (.int .i64 0) := hR2.cell 5
    have z6 : w2.cell? ⟨w.heap.size, 6, none⟩ = some (.int .i64 0) := hR2.cell 6
    have z7 : w2.cell? ⟨w.heap.size, 7, none⟩ = some (.int .i64 0) := hR2.cell 7
    have z8 : w2.cell? ⟨w.heap.size, 8, none⟩ = some (.int .i64 0) := hR2.cell 8
    have f0 := hR2.frozen 0
    have f1 := hR2.frozen 1
    have f2 := hR2.frozen 2
    have f3 := hR2.frozen 3
    have f4 := hR2.frozen 4
    have f5 := hR2.frozen 5
    have f6 := hR2.frozen 6
    have f7 := hR2.frozen 7
    have f8 := hR2.frozen 8
    cases r with
    | false =>
      clear s0 s1 s2 s3 s4 s5 s6 s7 s8 hS2
      go_wp2
      have hR5 : Blk (((((((((w2.setCell ⟨w.heap.size, 0, none⟩ (.int .i64 0)).setCell ⟨w.heap.size, 1, none⟩ (.int .i64 0)).setCell ⟨w.heap.size, 2, none⟩ (.int .i64 0)).setCell ⟨w.heap.size, 3, none⟩ (.bool false)).setCell ⟨w.heap.size, 4, none⟩ (.bool false)).setCell ⟨w.heap.size, 5, none⟩ (.int .i64 0)).setCell ⟨w.heap.size, 6, none⟩ (.int .i64 0)).setCell ⟨w.heap.size, 7, none⟩ (.int .i64 0)).setCell ⟨w.heap.size, 8, none⟩ (.int .i64 0)) w.heap.size 23 #[.int .i64 0, .int .i64 0, .int .i64 0, .bool false, .bool false, .int .i64 0, .int .i64 0, .int .i64 0, .int .i64 0] := blk9 hR2 (.int .i64 0) (.int .i64 0) (.int .i64 0) (.bool false) (.bool false) (.int .i64 0) (.int .i64 0) (.int .i64 0) (.int .i64 0)
      have hB5 : Below w.heap.size w (((((((((w2.setCell ⟨w.heap.size, 0, none⟩ (.int .i64 0)).setCell ⟨w.heap.size, 1, none⟩ (.int .i64 0)).setCell ⟨w.heap.size, 2, none⟩ (.int .i64 0)).setCell ⟨w.heap.size, 3, none⟩ (.bool false)).setCell ⟨w.heap.size, 4, none⟩ (.bool false)).setCell ⟨w.heap.size, 5, none⟩ (.int .i64 0)).setCell ⟨w.heap.size, 6, none⟩ (.int .i64 0)).setCell ⟨w.heap.size, 7, none⟩ (.int .i64 0)).setCell ⟨w.heap.size, 8, none⟩ (.int .i64 0)) := (((((((((hB2.setCell (p := ⟨w.heap.size, 0, none⟩) (Nat.le_refl _) (.int .i64 0)).setCell (p := ⟨w.heap.size, 1, none⟩) (Nat.le_refl _) (.int .i64 0)).setCell (p := ⟨w.heap.size, 2, none⟩) (Nat.le_refl _) (.int .i64 0)).setCell (p := ⟨w.heap.size, 3, none⟩) (Nat.le_refl _) (.bool false)).setCell (p := ⟨w.heap.size, 4, none⟩) (Nat.le_refl _) (.bool false)).setCell (p := ⟨w.heap.size, 5, none⟩) (Nat.le_refl _) (.int .i64 0)).setCell (p := ⟨w.heap.size, 6, none⟩) (Nat.le_refl _) (.int .i64 0)).setCell (p := ⟨w.heap.size, 7, none⟩) (Nat.le_refl _) (.int .i64 0)).setCell (p := ⟨w.heap.size, 8, none⟩) (Nat.le_refl _) (.int .i64 0))
      obtain ⟨W5, hW5⟩ : ∃ W5, (((((((((w2.setCell ⟨w.heap.size, 0, none⟩ (.int .i64 0)).setCell ⟨w.heap.size, 1, none⟩ (.int .i64 0)).setCell ⟨w.heap.size, 2, none⟩ (.int .i64 0)).setCell ⟨w.heap.size, 3, none⟩ (.bool false)).setCell ⟨w.heap.size, 4, none⟩ (.bool false)).setCell ⟨w.heap.size, 5, none⟩ (.int .i64 0)).setCell ⟨w.heap.size, 6, none⟩ (.int .i64 0)).setCell ⟨w.heap.size, 7, none⟩ (.int .i64 0)).setCell ⟨w.heap.size, 8, none⟩ (.int .i64 0)) = W5 := ⟨_, rfl⟩
      rw [hW5] at hR5 hB5 ⊢
      clear hW5
      have r0 : W5.cell? ⟨w.heap.size, 0, none⟩ = some (.int .i64 0) := hR5.cell 0
      have r1 : W5.cell? ⟨w.heap.size, 1, none⟩ = some (.int .i64 0) := hR5.cell 1
      have r2 : W5.cell? ⟨w.heap.size, 2, none⟩ = some (.int .i64 0) := hR5.cell 2
      have r3 : W5.cell? ⟨w.heap.size, 3, none⟩ = some (.bool false) := hR5.cell 3
      have r4 : W5.cell? ⟨w.heap.size, 4, none⟩ = some (.bool false) := hR5.cell 4
      have r5 : W5.cell? ⟨w.heap.size, 5, none⟩ = some (.int .i64 0) := hR5.cell 5
      have r6 : W5.cell? ⟨w.heap.size, 6, none⟩ = some (.int .i64 0) := hR5.cell 6
      have r7 : W5.cell? ⟨w.heap.size, 7, none⟩ = some (.int .i64 0) := hR5.cell 7
      have r8 : W5.cell? ⟨w.heap.size, 8, none⟩ = some (.int .i64 0) := hR5.cell 8
      refine bodyPost_ret (v := R) ?_ rfl ⟨rfl, hB5⟩
      rw [HR.out, HD.out]
      simp [results, Tryd.f14, go_sem, decR, Slt.val, Slt.zero, r0, r1, r2, r3, r4, r5, r6, r7, r8]
    | true =>
      go_wp2
      have hR5 : Blk (((((((((w2.setCell ⟨w.heap.size, 0, none⟩ (.int .i64 (x % 8))).setCell ⟨w.heap.size, 1, none⟩ (.int .i64 (x / 8 % 16))).setCell ⟨w.heap.size, 2, none⟩ (.int .i64 (x / 128 % 256))).setCell ⟨w.heap.size, 3, none⟩ (.bool (x / 32768 % 2 == 1))).setCell ⟨w.heap.size, 4, none⟩ (.bool (x / 65536 % 2 == 1))).setCell ⟨w.heap.size, 5, none⟩ (.int .i64 (x / 131072 % 64))).setCell ⟨w.heap.size, 6, none⟩ (.int .i64 (x / 8388608 % 4096))).setCell ⟨w.heap.size, 7, none⟩ (.int .i64 (x / 34359738368 % 4096))).setCell ⟨w.heap.size, 8, none⟩ (.int .i64 (x / 140737488355328))) w.heap.size 23 #[.int .i64 (x % 8), .int .i64 (x / 8 % 16), .int .i64 (x / 128 % 256), .bool (x / 32768 % 2 == 1), .bool (x / 65536 % 2 == 1), .int .i64 (x / 131072 % 64), .int .i64 (x / 8388608 % 4096), .int .i64 (x / 34359738368 % 4096), .int .i64 (x / 140737488355328)] := blk9 hR2 (.int .i64 (x % 8)) (.int .i64 (x / 8 % 16)) (.int .i64 (x / 128 % 256)) (.bool (x / 32768 % 2 == 1)) (.bool (x / 65536 % 2 == 1)) (.int .i64 (x / 131072 % 64)) (.int .i64 (x / 8388608 % 4096)) (.int .i64 (x / 34359738368 % 4096)) (.int .i64 (x / 140737488355328))
      have hB5 : Below w.heap.size w (((((((((w2.setCell ⟨w.heap.size, 0, none⟩ (.int .i64 (x % 8))).setCell ⟨w.heap.size, 1, none⟩ (.int .i64 (x / 8 % 16))).setCell ⟨w.heap.size, 2, none⟩ (.int .i64 (x / 128 % 256))).setCell ⟨w.heap.size, 3, none⟩ (.bool (x / 32768 % 2 == 1))).setCell ⟨w.heap.size, 4, none⟩ (.bool (x / 65536 % 2 == 1))).setCell ⟨w.heap.size, 5, none⟩ (.int .i64 (x / 131072 % 64))).setCell ⟨w.heap.size, 6, none⟩ (.int .i64 (x / 8388608 % 4096))).setCell ⟨w.heap.size, 7, none⟩ (.int .i64 (x / 34359738368 % 4096))).setCell ⟨w.heap.size, 8, none⟩ (.int .i64 (x / 140737488355328))) := (((((((((hB2.setCell (p := ⟨w.heap.size, 0, none⟩) (Nat.le_refl _) (.int .i64 (x % 8))).setCell (p := ⟨w.heap.size, 1, none⟩) (Nat.le_refl _) (.int .i64 (x / 8 % 16))).setCell (p := ⟨w.heap.size, 2, none⟩) (Nat.le_refl _) (.int .i64 (x / 128 % 256))).setCell (p := ⟨w.heap.size, 3, none⟩) (Nat.le_refl _) (.bool (x / 32768 % 2 == 1))).setCell (p := ⟨w.heap.size, 4, none⟩) (Nat.le_refl _) (.bool (x / 65536 % 2 == 1))).setCell (p := ⟨w.heap.size, 5, none⟩) (Nat.le_refl _) (.int .i64 (x / 131072 % 64))).setCell (p := ⟨w.heap.size, 6, none⟩) (Nat.le_refl _) (.int .i64 (x / 8388608 % 4096))).setCell (p := ⟨w.heap.size, 7, none⟩) (Nat.le_refl _) (.int .i64 (x / 34359738368 % 4096))).setCell (p := ⟨w.heap.size, 8, none⟩) (Nat.le_refl _) (.int .i64 (x / 140737488355328)))
      obtain ⟨W5, hW5⟩ : ∃ W5, (((((((((w2.setCell ⟨w.heap.size, 0, none⟩ (.int .i64 (x % 8))).setCell ⟨w.heap.size, 1, none⟩ (.int .i64 (x / 8 % 16))).setCell ⟨w.heap.size, 2, none⟩ (.int .i64 (x / 128 % 256))).setCell ⟨w.heap.size, 3, none⟩ (.bool (x / 32768 % 2 == 1))).setCell ⟨w.heap.size, 4, none⟩ (.bool (x / 65536 % 2 == 1))).setCell ⟨w.heap.size, 5, none⟩ (.int .i64 (x / 131072 % 64))).setCell ⟨w.heap.size, 6, none⟩ (.int .i64 (x / 8388608 % 4096))).setCell ⟨w.heap.size, 7, none⟩ (.int .i64 (x / 34359738368 % 4096))).setCell ⟨w.heap.size, 8, none⟩ (.int .i64 (x / 140737488355328))) = W5 := ⟨_, rfl⟩
      rw [hW5] at hR5 hB5 ⊢
      clear hW5
      have r0 : W5.cell? ⟨w.heap.size, 0, none⟩ = some (.int .i64 (x % 8)) := hR5.cell 0
      have r1 : W5.cell? ⟨w.heap.size, 1, none⟩ = some (.int .i64 (x / 8 % 16)) := hR5.cell 1
      have r2 : W5.cell? ⟨w.heap.size, 2, none⟩ = some (.int .i64 (x / 128 % 256)) := hR5.cell 2
      have r3 : W5.cell? ⟨w.heap.size, 3, none⟩ = some (.bool (x / 32768 % 2 == 1)) := hR5.cell 3
      have r4 : W5.cell? ⟨w.heap.size, 4, none⟩ = some (.bool (x / 65536 % 2 == 1)) := hR5.cell 4
      have r5 : W5.cell? ⟨w.heap.size, 5, none⟩ = some (.int .i64 (x / 131072 % 64)) := hR5.cell 5
      have r6 : W5.cell? ⟨w.heap.size, 6, none⟩ = some (.int .i64 (x / 8388608 % 4096)) := hR5.cell 6
      have r7 : W5.cell? ⟨w.heap.size, 7, none⟩ = some (.int .i64 (x / 34359738368 % 4096)) := hR5.cell 7
      have r8 : W5.cell? ⟨w.heap.size, 8, none⟩ = some (.int .i64 (x / 140737488355328)) := hR5.cell 8
      refine bodyPost_ret (v := R) ?_ rfl ⟨rfl, hB5⟩
      rw [HR.out, HD.out]
      simp [results, Tryd.f14, go_sem, decR, rawR, Slt.val, Slt.zero, r0, r1, r2, r3, r4, r5, r6, r7, r8]
end Go.Proofs.YtljgocfmmdpdfaaDoor
