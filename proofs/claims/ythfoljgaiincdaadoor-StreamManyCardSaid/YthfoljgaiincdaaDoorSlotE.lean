
import Derived.Test.YthfoljgaiincdaaDoorSlotD
import Derived.Test.YthfoljgaiincdaaDoorSlotF
namespace Go.Proofs.YthfoljgaiincdaaDoor
open Go.RowKit Go.Fld
set_option linter.unusedVariables false
attribute [local go_sem ↓] Go.wp_at_zero Go.wp_at_succ slot_equal

theorem rightS_any (a b c : Int) (d e : Bool) (f g h i : Int) (w : World) (hT : Tab w) :
    Calls Tryd.prog 76 #[.agg #[.int .i64 a, .int .i64 b, .int .i64 c, .bool d, .bool e, .int .i64 f, .int .i64 g, .int .i64 h, .int .i64 i]] w fun en w' => en = .returned (.bool (encS ⟨a, b, c, d, e, f, g, h, i⟩).isSome) ∧ Below w.heap.size w w' := by
  have hT1 : Tab (w.alloc (.cells #[.int .i64 a, .int .i64 b, .int .i64 c, .bool d, .bool e, .int .i64 f, .int .i64 g, .int .i64 h, .int .i64 i] 49)) := hT.below ((Below.refl _ _).alloc (Nat.le_refl _) _)
  go_enter Tryd.func76, Tryd.ntmps76
  go_wp2_with fail
  refine (enc_any _ _ _ _ _ _ _ _ _ _ hT1).mono ?_
  rintro en w1 ⟨rfl, hb⟩
  rw [packR_eq]
  go_wp2
  go_ret
  exact ⟨rfl, ((Below.refl _ _).alloc (Nat.le_refl _) _).trans (hb.mono (by simp))⟩

theorem blk9 {w : World} {g : Nat} {t : TypeId} {x0 x1 x2 x3 x4 x5 x6 x7 x8 : Value} (h : Blk w g t #[x0, x1, x2, x3, x4, x5, x6, x7, x8]) (v0 v1 v2 v3 v4 v5 v6 v7 v8 : Value) :
    Blk (((((((((w.setCell ⟨g, 0, none⟩ v0).setCell ⟨g, 1, none⟩ v1).setCell ⟨g, 2, none⟩ v2).setCell ⟨g, 3, none⟩ v3).setCell ⟨g, 4, none⟩ v4).setCell ⟨g, 5, none⟩ v5).setCell ⟨g, 6, none⟩ v6).setCell ⟨g, 7, none⟩ v7).setCell ⟨g, 8, none⟩ v8) g t #[v0, v1, v2, v3, v4, v5, v6, v7, v8] := by
  have := ((((((((h.set_ 0 v0).set_ 1 v1).set_ 2 v2).set_ 3 v3).set_ 4 v4).set_ 5 v5).set_ 6 v6).set_ 7 v7).set_ 8 v8
  simpa using this

set_option maxHeartbeats 8000000 in
theorem dec_any (x : Int) (w : World) (hT : Tab w) :
    Calls Tryd.prog 55 #[.int .i64 x] w fun en w' => en = .returned (decR (decS x)) ∧ Below w.heap.size w w' := by
  obtain ⟨tt, fr, hg1⟩ := hT
  have hg1L := (Array.getElem?_eq_some_iff.1 hg1).1
  obtain ⟨W1, hW1⟩ : ∃ W1, w.alloc (.cells #[.int .i64 0, .int .i64 0, .int .i64 0, .bool false, .bool false, .int .i64 0, .int .i64 0, .int .i64 0, .int .i64 0] 49) = W1 := ⟨_, rfl⟩
  have hg2 : W1.heap[0]? = some (.cells tabC tt fr) := by rw [← hW1]; exact (Below.heap_alloc w _ 0 hg1L).trans hg1
  have hB1 : Below w.heap.size w W1 := by rw [← hW1]; exact (Below.refl _ _).alloc (Nat.le_refl _) _
  have hR1 : Blk W1 w.heap.size 49 #[.int .i64 0, .int .i64 0, .int .i64 0, .bool false, .bool false, .int .i64 0, .int .i64 0, .int .i64 0, .int .i64 0] := by rw [← hW1]; exact Blk.new w 49 _
  have hst := store_tab W1
  have hts : tabC.size = 18 := rfl
  go_enter Tryd.func55, Tryd.ntmps55
  go_wp2_with (refine wpList_load_row rfl 105 _ rfl 0 rfl tt _ fr _ hg2 Tryd.underlying105 rfl (by kernel_rfl) ?_)
  refine (parts_any x _ 9 fieldsL (by decide) (by decide) _ (by have := rowAt_blk encF_len (xs := fieldsL) (Blk.new W1 105 tabC) rfl; simpa using this)).mono ?_
  rintro en w2 ⟨⟨v, rfl, hs⟩, hb⟩
  have hB2 : Below w.heap.size w w2 := (hB1.alloc hB1.size _).trans (hb.mono (Nat.le_trans hB1.size (by simp)))
  have hR2 : Blk w2 w.heap.size 49 #[.int .i64 0, .int .i64 0, .int .i64 0, .bool false, .bool false, .int .i64 0, .int .i64 0, .int .i64 0, .int .i64 0] := (blk_alloc hR1 (.cells tabC 105)).below hb (by have := hR1.lt; simp; omega)
  have hT2 : Tab w2 := ⟨tt, fr, (hB2.block 0 hg1L).trans hg1⟩
  obtain ⟨n0, hn0⟩ : ∃ n, n = getZ x 0 3 := ⟨_, rfl⟩
  obtain ⟨n1, hn1⟩ : ∃ n, n = getZ x 3 4 := ⟨_, rfl⟩
  obtain ⟨n2, hn2⟩ : ∃ n, n = getZ x 7 8 := ⟨_, rfl⟩
  obtain ⟨n3, hn3⟩ : ∃ n, n = getZ x 15 1 := ⟨_, rfl⟩
  obtain ⟨n4, hn4⟩ : ∃ n, n = getZ x 16 1 := ⟨_, rfl⟩
  obtain ⟨n5, hn5⟩ : ∃ n, n = getZ x 17 6 := ⟨_, rfl⟩
  obtain ⟨n6, hn6⟩ : ∃ n, n = getZ x 23 12 := ⟨_, rfl⟩
  obtain ⟨n7, hn7⟩ : ∃ n, n = getZ x 35 12 := ⟨_, rfl⟩
  obtain ⟨n8, hn8⟩ : ∃ n, n = getZ x 47 15 := ⟨_, rfl⟩
  have hps : partsZ x fieldsL = [n0, n1, n2, n3, n4, n5, n6, n7, n8] := by
    rw [hn0, hn1, hn2, hn3, hn4, hn5, hn6, hn7, hn8]; rfl
  have hraw : rawS x = ⟨n0, n1, n2, n3 == 1, n4 == 1, n5, n6, n7, n8⟩ := by rw [hn0, hn1, hn2, hn3, hn4, hn5, hn6, hn7, hn8]; rfl
  rw [hps] at hs
  obtain ⟨A2, cp, rfl, hcp, hrow⟩ := hs
  obtain ⟨b, off, rfl, hbl, hcell⟩ := hrow (by simp)
  have c0 : w2.cell? ⟨b, off, none⟩ = some (.int .i64 n0) := by have := hcell 0 n0 rfl 0 _ rfl; simpa using this
  have c1 : w2.cell? ⟨b, off + 1, none⟩ = some (.int .i64 n1) := by have := hcell 1 n1 rfl 0 _ rfl; simpa using this
  have c2 : w2.cell? ⟨b, off + 2, none⟩ = some (.int .i64 n2) := by have := hcell 2 n2 rfl 0 _ rfl; simpa using this
  have c3 : w2.cell? ⟨b, off + 3, none⟩ = some (.int .i64 n3) := by have := hcell 3 n3 rfl 0 _ rfl; simpa using this
  have c4 : w2.cell? ⟨b, off + 4, none⟩ = some (.int .i64 n4) := by have := hcell 4 n4 rfl 0 _ rfl; simpa using this
  have c5 : w2.cell? ⟨b, off + 5, none⟩ = some (.int .i64 n5) := by have := hcell 5 n5 rfl 0 _ rfl; simpa using this
  have c6 : w2.cell? ⟨b, off + 6, none⟩ = some (.int .i64 n6) := by have := hcell 6 n6 rfl 0 _ rfl; simpa using this
  have c7 : w2.cell? ⟨b, off + 7, none⟩ = some (.int .i64 n7) := by have := hcell 7 n7 rfl 0 _ rfl; simpa using this
  have c8 : w2.cell? ⟨b, off + 8, none⟩ = some (.int .i64 n8) := by have := hcell 8 n8 rfl 0 _ rfl; simpa using this
  have hZ2 : w.heap.size < w2.heap.size := hR2.lt
  obtain ⟨E, hE⟩ : ∃ E, E = encS (rawS x) := ⟨_, rfl⟩
  rw [hraw] at hE
  have hD : decS x = if E = some x then some ⟨n0, n1, n2, n3 == 1, n4 == 1, n5, n6, n7, n8⟩ else none := by unfold decS; rw [hraw, ← hE]
  have HE := Lib.hid hE.symm
  have HD := Lib.hid hD
  have HT2 := Lib.hid hT2
  have hcp9 : 9 ≤ cp := hcp
  clear hW1 hg2 hB1 hR1 hst hts hb hcell hcp hps hraw hE hD hT2 hn0 hn1 hn2 hn3 hn4 hn5 hn6 hn7 hn8 hg1
  simp only [List.length_cons, List.length_nil, Nat.reduceAdd]
  go_wp2_with fail
  go_region_held3 (fun w' => w'.cell? ⟨b, off, none⟩ = some (.int .i64 n0) ∧ w'.cell? ⟨b, off + 1, none⟩ = some (.int .i64 n1) ∧ w'.cell? ⟨b, off + 2, none⟩ = some (.int .i64 n2) ∧ w'.cell? ⟨b, off + 3, none⟩ = some (.int .i64 n3) ∧ w'.cell? ⟨b, off + 4, none⟩ = some (.int .i64 n4) ∧ w'.cell? ⟨b, off + 5, none⟩ = some (.int .i64 n5) ∧ w'.cell? ⟨b, off + 6, none⟩ = some (.int .i64 n6) ∧ w'.cell? ⟨b, off + 7, none⟩ = some (.int .i64 n7) ∧ w'.cell? ⟨b, off + 8, none⟩ = some (.int .i64 n8) ∧ Blk w' w.heap.size 49 #[.int .i64 0, .int .i64 0, .int .i64 0, .bool false, .bool false, .int .i64 0, .int .i64 0, .int .i64 0, .int .i64 0] ∧ Below w.heap.size w w' ∧ w2.heap.size ≤ w'.heap.size)
    (first | exact ⟨c0, c1, c2, c3, c4, c5, c6, c7, c8, hR2, hB2.drew, Nat.le_refl _⟩ | exact ⟨cell_more c0 _, cell_more c1 _, cell_more c2 _, cell_more c3 _, cell_more c4 _, cell_more c5 _, cell_more c6 _, cell_more c7 _, cell_more c8 _, blk_alloc hR2 _, (hB2.alloc (Nat.le_of_lt hZ2) _).drew, by simp⟩)
    (fail)
  have hB3 : Below w.heap.size w (w2.alloc (.cells #[.int .i64 n0, .int .i64 n1, .int .i64 n2, .bool (n3 == 1), .bool (n4 == 1), .int .i64 n5, .int .i64 n6, .int .i64 n7, .int .i64 n8] 49)).drew := (hB2.alloc (Nat.le_of_lt hZ2) _).drew
  have hR3 : Blk (w2.alloc (.cells #[.int .i64 n0, .int .i64 n1, .int .i64 n2, .bool (n3 == 1), .bool (n4 == 1), .int .i64 n5, .int .i64 n6, .int .i64 n7, .int .i64 n8] 49)).drew w.heap.size 49 #[.int .i64 0, .int .i64 0, .int .i64 0, .bool false, .bool false, .int .i64 0, .int .i64 0, .int .i64 0, .int .i64 0] := blk_alloc hR2 _
  have hS3 : Blk (w2.alloc (.cells #[.int .i64 n0, .int .i64 n1, .int .i64 n2, .bool (n3 == 1), .bool (n4 == 1), .int .i64 n5, .int .i64 n6, .int .i64 n7, .int .i64 n8] 49)).drew w2.heap.size 49 #[.int .i64 n0, .int .i64 n1, .int .i64 n2, .bool (n3 == 1), .bool (n4 == 1), .int .i64 n5, .int .i64 n6, .int .i64 n7, .int .i64 n8] := Blk.new w2 49 _
  have hT3 : Tab (w2.alloc (.cells #[.int .i64 n0, .int .i64 n1, .int .i64 n2, .bool (n3 == 1), .bool (n4 == 1), .int .i64 n5, .int .i64 n6, .int .i64 n7, .int .i64 n8] 49)).drew := HT2.out.below (((Below.refl _ _).alloc (Nat.le_refl _) _).drew)
  obtain ⟨W3, hW3⟩ : ∃ W3, (w2.alloc (.cells #[.int .i64 n0, .int .i64 n1, .int .i64 n2, .bool (n3 == 1), .bool (n4 == 1), .int .i64 n5, .int .i64 n6, .int .i64 n7, .int .i64 n8] 49)).drew = W3 := ⟨_, rfl⟩
  rw [hW3] at hB3 hR3 hS3 hT3 ⊢
  obtain ⟨sb, hsb⟩ : ∃ sb, sb = w2.heap.size := ⟨_, rfl⟩
  rw [← hsb] at hS3 hZ2 ⊢
  clear hW3 hsb hB2 hR2 c0 c1 c2 c3 c4 c5 c6 c7 c8
  have s0 : W3.cell? ⟨sb, 0, none⟩ = some (.int .i64 n0) := hS3.cell 0
  have s1 : W3.cell? ⟨sb, 1, none⟩ = some (.int .i64 n1) := hS3.cell 1
  have s2 : W3.cell? ⟨sb, 2, none⟩ = some (.int .i64 n2) := hS3.cell 2
  have s3 : W3.cell? ⟨sb, 3, none⟩ = some (.bool (n3 == 1)) := hS3.cell 3
  have s4 : W3.cell? ⟨sb, 4, none⟩ = some (.bool (n4 == 1)) := hS3.cell 4
  have s5 : W3.cell? ⟨sb, 5, none⟩ = some (.int .i64 n5) := hS3.cell 5
  have s6 : W3.cell? ⟨sb, 6, none⟩ = some (.int .i64 n6) := hS3.cell 6
  have s7 : W3.cell? ⟨sb, 7, none⟩ = some (.int .i64 n7) := hS3.cell 7
  have s8 : W3.cell? ⟨sb, 8, none⟩ = some (.int .i64 n8) := hS3.cell 8
  go_wp2_with fail
  refine (enc_any _ _ _ _ _ _ _ _ _ _ hT3).mono ?_
  rintro en w4 ⟨rfl, hb⟩
  rw [HE.out]
  have hB4 := hB3.trans (hb.mono hB3.size)
  have hR4 := hR3.below hb hR3.lt
  have hS4 := hS3.below hb hS3.lt
  clear s0 s1 s2 s3 s4 s5 s6 s7 s8 hB3 hR3 hS3 hT3 hb
  have f0 := hR4.frozen 0
  have f1 := hR4.frozen 1
  have f2 := hR4.frozen 2
  have f3 := hR4.frozen 3
  have f4 := hR4.frozen 4
  have f5 := hR4.frozen 5
  have f6 := hR4.frozen 6
  have f7 := hR4.frozen 7
  have f8 := hR4.frozen 8
  have s0 : w4.cell? ⟨sb, 0, none⟩ = some (.int .i64 n0) := hS4.cell 0
  have s1 : w4.cell? ⟨sb, 1, none⟩ = some (.int .i64 n1) := hS4.cell 1
  have s2 : w4.cell? ⟨sb, 2, none⟩ = some (.int .i64 n2) := hS4.cell 2
  have s3 : w4.cell? ⟨sb, 3, none⟩ = some (.bool (n3 == 1)) := hS4.cell 3
  have s4 : w4.cell? ⟨sb, 4, none⟩ = some (.bool (n4 == 1)) := hS4.cell 4
  have s5 : w4.cell? ⟨sb, 5, none⟩ = some (.int .i64 n5) := hS4.cell 5
  have s6 : w4.cell? ⟨sb, 6, none⟩ = some (.int .i64 n6) := hS4.cell 6
  have s7 : w4.cell? ⟨sb, 7, none⟩ = some (.int .i64 n7) := hS4.cell 7
  have s8 : w4.cell? ⟨sb, 8, none⟩ = some (.int .i64 n8) := hS4.cell 8
  have z0 : w4.cell? ⟨w.heap.size, 0, none⟩ = some (.int .i64 0) := hR4.cell 0
  have z1 : w4.cell? ⟨w.heap.size, 1, none⟩ = some (.int .i64 0) := hR4.cell 1
  have z2 : w4.cell? ⟨w.heap.size, 2, none⟩ = some (.int .i64 0) := hR4.cell 2
  have z3 : w4.cell? ⟨w.heap.size, 3, none⟩ = some (.bool false) := hR4.cell 3
  have z4 : w4.cell? ⟨w.heap.size, 4, none⟩ = some (.bool false) := hR4.cell 4
  have z5 : w4.cell? ⟨w.heap.size, 5, none⟩ = some (.int .i64 0) := hR4.cell 5
  have z6 : w4.cell? ⟨w.heap.size, 6, none⟩ = some (.int .i64 0) := hR4.cell 6
  have z7 : w4.cell? ⟨w.heap.size, 7, none⟩ = some (.int .i64 0) := hR4.cell 7
  have z8 : w4.cell? ⟨w.heap.size, 8, none⟩ = some (.int .i64 0) := hR4.cell 8
  have hsbw : w.heap.size ≠ sb := by omega
  cases E with
  | none =>
    have hDD : decS x = none := by have := HD.out; simpa using this
    clear s0 s1 s2 s3 s4 s5 s6 s7 s8 hS4
    rw [show packR none = .tuple #[.int .i64 0, .bool false] from rfl]
    go_wp2
    have hR5 : Blk (((((((((w4.setCell ⟨w.heap.size, 0, none⟩ (.int .i64 0)).setCell ⟨w.heap.size, 1, none⟩ (.int .i64 0)).setCell ⟨w.heap.size, 2, none⟩ (.int .i64 0)).setCell ⟨w.heap.size, 3, none⟩ (.bool false)).setCell ⟨w.heap.size, 4, none⟩ (.bool false)).setCell ⟨w.heap.size, 5, none⟩ (.int .i64 0)).setCell ⟨w.heap.size, 6, none⟩ (.int .i64 0)).setCell ⟨w.heap.size, 7, none⟩ (.int .i64 0)).setCell ⟨w.heap.size, 8, none⟩ (.int .i64 0)) w.heap.size 49 #[.int .i64 0, .int .i64 0, .int .i64 0, .bool false, .bool false, .int .i64 0, .int .i64 0, .int .i64 0, .int .i64 0] := blk9 hR4 (.int .i64 0) (.int .i64 0) (.int .i64 0) (.bool false) (.bool false) (.int .i64 0) (.int .i64 0) (.int .i64 0) (.int .i64 0)
    have hB5 : Below w.heap.size w (((((((((w4.setCell ⟨w.heap.size, 0, none⟩ (.int .i64 0)).setCell ⟨w.heap.size, 1, none⟩ (.int .i64 0)).setCell ⟨w.heap.size, 2, none⟩ (.int .i64 0)).setCell ⟨w.heap.size, 3, none⟩ (.bool false)).setCell ⟨w.heap.size, 4, none⟩ (.bool false)).setCell ⟨w.heap.size, 5, none⟩ (.int .i64 0)).setCell ⟨w.heap.size, 6, none⟩ (.int .i64 0)).setCell ⟨w.heap.size, 7, none⟩ (.int .i64 0)).setCell ⟨w.heap.size, 8, none⟩ (.int .i64 0)) := (((((((((hB4.setCell (p := ⟨w.heap.size, 0, none⟩) (Nat.le_refl _) (.int .i64 0)).setCell (p := ⟨w.heap.size, 1, none⟩) (Nat.le_refl _) (.int .i64 0)).setCell (p := ⟨w.heap.size, 2, none⟩) (Nat.le_refl _) (.int .i64 0)).setCell (p := ⟨w.heap.size, 3, none⟩) (Nat.le_refl _) (.bool false)).setCell (p := ⟨w.heap.size, 4, none⟩) (Nat.le_refl _) (.bool false)).setCell (p := ⟨w.heap.size, 5, none⟩) (Nat.le_refl _) (.int .i64 0)).setCell (p := ⟨w.heap.size, 6, none⟩) (Nat.le_refl _) (.int .i64 0)).setCell (p := ⟨w.heap.size, 7, none⟩) (Nat.le_refl _) (.int .i64 0)).setCell (p := ⟨w.heap.size, 8, none⟩) (Nat.le_refl _) (.int .i64 0))
    obtain ⟨W5, hW5⟩ : ∃ W5, (((((((((w4.setCell ⟨w.heap.size, 0, none⟩ (.int .i64 0)).setCell ⟨w.heap.size, 1, none⟩ (.int .i64 0)).setCell ⟨w.heap.size, 2, none⟩ (.int .i64 0)).setCell ⟨w.heap.size, 3, none⟩ (.bool false)).setCell ⟨w.heap.size, 4, none⟩ (.bool false)).setCell ⟨w.heap.size, 5, none⟩ (.int .i64 0)).setCell ⟨w.heap.size, 6, none⟩ (.int .i64 0)).setCell ⟨w.heap.size, 7, none⟩ (.int .i64 0)).setCell ⟨w.heap.size, 8, none⟩ (.int .i64 0)) = W5 := ⟨_, rfl⟩
    rw [hW5] at hR5 hB5 ⊢
    clear hW5
    have r0 : W5.cell? ⟨w.heap.size, 0, none⟩ = some (.int .i64 0) := hR5.cell 0
    have r1 : W5.cell? ⟨w.heap.size, 1, none⟩ = some (.int .i64 0) := hR5.cell 1
    have r2 : W5.cell? ⟨w.heap.size, 2, none⟩ = some (.int .i64 0) := hR5.cell 2
    have r3 : W5.cell? ⟨w.heap.size, 3, none⟩ = some (.bool false) := hR5.cell 3
    have r4 : W5.cell? ⟨w.heap.size, 4, none⟩ = some (.bool false) := hR5.cell 4
    have r5 : W5.cell? ⟨w.heap.size, 5, none⟩ = some (.int .i64 0) := hR5.cell 5
    have r6 : W5.cell? ⟨w.heap.size, 6, none⟩ = some (.int .i64 0) := hR5.cell 6
    have r7 : W5.cell? ⟨w.heap.size, 7, none⟩ = some (.int .i64 0) := hR5.cell 7
    have r8 : W5.cell? ⟨w.heap.size, 8, none⟩ = some (.int .i64 0) := hR5.cell 8
    rw [hDD]
    refine bodyPost_ret (v := decR none) ?_ rfl ⟨rfl, hB5⟩
    simp [results, Tryd.f55, go_sem, decR, Slt.val, Slt.zero, r0, r1, r2, r3, r4, r5, r6, r7, r8]
  | some y =>
    rw [show packR (some y) = .tuple #[.int .i64 y, .bool true] from rfl]
    by_cases hy : y = x
    · have hDD : decS x = some ⟨n0, n1, n2, n3 == 1, n4 == 1, n5, n6, n7, n8⟩ := by have := HD.out; rw [hy, if_pos rfl] at this; exact this
      subst hy
      go_wp2
      have hR5 : Blk (((((((((w4.setCell ⟨w.heap.size, 0, none⟩ (.int .i64 n0)).setCell ⟨w.heap.size, 1, none⟩ (.int .i64 n1)).setCell ⟨w.heap.size, 2, none⟩ (.int .i64 n2)).setCell ⟨w.heap.size, 3, none⟩ (.bool (n3 == 1))).setCell ⟨w.heap.size, 4, none⟩ (.bool (n4 == 1))).setCell ⟨w.heap.size, 5, none⟩ (.int .i64 n5)).setCell ⟨w.heap.size, 6, none⟩ (.int .i64 n6)).setCell ⟨w.heap.size, 7, none⟩ (.int .i64 n7)).setCell ⟨w.heap.size, 8, none⟩ (.int .i64 n8)) w.heap.size 49 #[.int .i64 n0, .int .i64 n1, .int .i64 n2, .bool (n3 == 1), .bool (n4 == 1), .int .i64 n5, .int .i64 n6, .int .i64 n7, .int .i64 n8] := blk9 hR4 (.int .i64 n0) (.int .i64 n1) (.int .i64 n2) (.bool (n3 == 1)) (.bool (n4 == 1)) (.int .i64 n5) (.int .i64 n6) (.int .i64 n7) (.int .i64 n8)
      have hB5 : Below w.heap.size w (((((((((w4.setCell ⟨w.heap.size, 0, none⟩ (.int .i64 n0)).setCell ⟨w.heap.size, 1, none⟩ (.int .i64 n1)).setCell ⟨w.heap.size, 2, none⟩ (.int .i64 n2)).setCell ⟨w.heap.size, 3, none⟩ (.bool (n3 == 1))).setCell ⟨w.heap.size, 4, none⟩ (.bool (n4 == 1))).setCell ⟨w.heap.size, 5, none⟩ (.int .i64 n5)).setCell ⟨w.heap.size, 6, none⟩ (.int .i64 n6)).setCell ⟨w.heap.size, 7, none⟩ (.int .i64 n7)).setCell ⟨w.heap.size, 8, none⟩ (.int .i64 n8)) := (((((((((hB4.setCell (p := ⟨w.heap.size, 0, none⟩) (Nat.le_refl _) (.int .i64 n0)).setCell (p := ⟨w.heap.size, 1, none⟩) (Nat.le_refl _) (.int .i64 n1)).setCell (p := ⟨w.heap.size, 2, none⟩) (Nat.le_refl _) (.int .i64 n2)).setCell (p := ⟨w.heap.size, 3, none⟩) (Nat.le_refl _) (.bool (n3 == 1))).setCell (p := ⟨w.heap.size, 4, none⟩) (Nat.le_refl _) (.bool (n4 == 1))).setCell (p := ⟨w.heap.size, 5, none⟩) (Nat.le_refl _) (.int .i64 n5)).setCell (p := ⟨w.heap.size, 6, none⟩) (Nat.le_refl _) (.int .i64 n6)).setCell (p := ⟨w.heap.size, 7, none⟩) (Nat.le_refl _) (.int .i64 n7)).setCell (p := ⟨w.heap.size, 8, none⟩) (Nat.le_refl _) (.int .i64 n8))
      obtain ⟨W5, hW5⟩ : ∃ W5, (((((((((w4.setCell ⟨w.heap.size, 0, none⟩ (.int .i64 n0)).setCell ⟨w.heap.size, 1, none⟩ (.int .i64 n1)).setCell ⟨w.heap.size, 2, none⟩ (.int .i64 n2)).setCell ⟨w.heap.size, 3, none⟩ (.bool (n3 == 1))).setCell ⟨w.heap.size, 4, none⟩ (.bool (n4 == 1))).setCell ⟨w.heap.size, 5, none⟩ (.int .i64 n5)).setCell ⟨w.heap.size, 6, none⟩ (.int .i64 n6)).setCell ⟨w.heap.size, 7, none⟩ (.int .i64 n7)).setCell ⟨w.heap.size, 8, none⟩ (.int .i64 n8)) = W5 := ⟨_, rfl⟩
      rw [hW5] at hR5 hB5 ⊢
      clear hW5
      have r0 : W5.cell? ⟨w.heap.size, 0, none⟩ = some (.int .i64 n0) := hR5.cell 0
      have r1 : W5.cell? ⟨w.heap.size, 1, none⟩ = some (.int .i64 n1) := hR5.cell 1
      have r2 : W5.cell? ⟨w.heap.size, 2, none⟩ = some (.int .i64 n2) := hR5.cell 2
      have r3 : W5.cell? ⟨w.heap.size, 3, none⟩ = some (.bool (n3 == 1)) := hR5.cell 3
      have r4 : W5.cell? ⟨w.heap.size, 4, none⟩ = some (.bool (n4 == 1)) := hR5.cell 4
      have r5 : W5.cell? ⟨w.heap.size, 5, none⟩ = some (.int .i64 n5) := hR5.cell 5
      have r6 : W5.cell? ⟨w.heap.size, 6, none⟩ = some (.int .i64 n6) := hR5.cell 6
      have r7 : W5.cell? ⟨w.heap.size, 7, none⟩ = some (.int .i64 n7) := hR5.cell 7
      have r8 : W5.cell? ⟨w.heap.size, 8, none⟩ = some (.int .i64 n8) := hR5.cell 8
      rw [hDD]
      refine bodyPost_ret (v := decR (some ⟨n0, n1, n2, n3 == 1, n4 == 1, n5, n6, n7, n8⟩)) ?_ rfl ⟨rfl, hB5⟩
      simp [results, Tryd.f55, go_sem, decR, Slt.val, Slt.zero, r0, r1, r2, r3, r4, r5, r6, r7, r8]
    · have hDD : decS x = none := by have := HD.out; rw [if_neg (by simpa using hy)] at this; exact this
      have hyb : (y != x) = true := by simpa using hy
      clear hy s0 s1 s2 s3 s4 s5 s6 s7 s8 hS4
      go_wp2
      have hR5 : Blk (((((((((w4.setCell ⟨w.heap.size, 0, none⟩ (.int .i64 0)).setCell ⟨w.heap.size, 1, none⟩ (.int .i64 0)).setCell ⟨w.heap.size, 2, none⟩ (.int .i64 0)).setCell ⟨w.heap.size, 3, none⟩ (.bool false)).setCell ⟨w.heap.size, 4, none⟩ (.bool false)).setCell ⟨w.heap.size, 5, none⟩ (.int .i64 0)).setCell ⟨w.heap.size, 6, none⟩ (.int .i64 0)).setCell ⟨w.heap.size, 7, none⟩ (.int .i64 0)).setCell ⟨w.heap.size, 8, none⟩ (.int .i64 0)) w.heap.size 49 #[.int .i64 0, .int .i64 0, .int .i64 0, .bool false, .bool false, .int .i64 0, .int .i64 0, .int .i64 0, .int .i64 0] := blk9 hR4 (.int .i64 0) (.int .i64 0) (.int .i64 0) (.bool false) (.bool false) (.int .i64 0) (.int .i64 0) (.int .i64 0) (.int .i64 0)
      have hB5 : Below w.heap.size w (((((((((w4.setCell ⟨w.heap.size, 0, none⟩ (.int .i64 0)).setCell ⟨w.heap.size, 1, none⟩ (.int .i64 0)).setCell ⟨w.heap.size, 2, none⟩ (.int .i64 0)).setCell ⟨w.heap.size, 3, none⟩ (.bool false)).setCell ⟨w.heap.size, 4, none⟩ (.bool false)).setCell ⟨w.heap.size, 5, none⟩ (.int .i64 0)).setCell ⟨w.heap.size, 6, none⟩ (.int .i64 0)).setCell ⟨w.heap.size, 7, none⟩ (.int .i64 0)).setCell ⟨w.heap.size, 8, none⟩ (.int .i64 0)) := (((((((((hB4.setCell (p := ⟨w.heap.size, 0, none⟩) (Nat.le_refl _) (.int .i64 0)).setCell (p := ⟨w.heap.size, 1, none⟩) (Nat.le_refl _) (.int .i64 0)).setCell (p := ⟨w.heap.size, 2, none⟩) (Nat.le_refl _) (.int .i64 0)).setCell (p := ⟨w.heap.size, 3, none⟩) (Nat.le_refl _) (.bool false)).setCell (p := ⟨w.heap.size, 4, none⟩) (Nat.le_refl _) (.bool false)).setCell (p := ⟨w.heap.size, 5, none⟩) (Nat.le_refl _) (.int .i64 0)).setCell (p := ⟨w.heap.size, 6, none⟩) (Nat.le_refl _) (.int .i64 0)).setCell (p := ⟨w.heap.size, 7, none⟩) (Nat.le_refl _) (.int .i64 0)).setCell (p := ⟨w.heap.size, 8, none⟩) (Nat.le_refl _) (.int .i64 0))
      obtain ⟨W5, hW5⟩ : ∃ W5, (((((((((w4.setCell ⟨w.heap.size, 0, none⟩ (.int .i64 0)).setCell ⟨w.heap.size, 1, none⟩ (.int .i64 0)).setCell ⟨w.heap.size, 2, none⟩ (.int .i64 0)).setCell ⟨w.heap.size, 3, none⟩ (.bool false)).setCell ⟨w.heap.size, 4, none⟩ (.bool false)).setCell ⟨w.heap.size, 5, none⟩ (.int .i64 0)).setCell ⟨w.heap.size, 6, none⟩ (.int .i64 0)).setCell ⟨w.heap.size, 7, none⟩ (.int .i64 0)).setCell ⟨w.heap.size, 8, none⟩ (.int .i64 0)) = W5 := ⟨_, rfl⟩
      rw [hW5] at hR5 hB5 ⊢
      clear hW5
      have r0 : W5.cell? ⟨w.heap.size, 0, none⟩ = some (.int .i64 0) := hR5.cell 0
      have r1 : W5.cell? ⟨w.heap.size, 1, none⟩ = some (.int .i64 0) := hR5.cell 1
      have r2 : W5.cell? ⟨w.heap.size, 2, none⟩ = some (.int .i64 0) := hR5.cell 2
      have r3 : W5.cell? ⟨w.heap.size, 3, none⟩ = some (.bool false) := hR5.cell 3
      have r4 : W5.cell? ⟨w.heap.size, 4, none⟩ = some (.bool false) := hR5.cell 4
      have r5 : W5.cell? ⟨w.heap.size, 5, none⟩ = some (.int .i64 0) := hR5.cell 5
      have r6 : W5.cell? ⟨w.heap.size, 6, none⟩ = some (.int .i64 0) := hR5.cell 6
      have r7 : W5.cell? ⟨w.heap.size, 7, none⟩ = some (.int .i64 0) := hR5.cell 7
      have r8 : W5.cell? ⟨w.heap.size, 8, none⟩ = some (.int .i64 0) := hR5.cell 8
      rw [hDD]
      refine bodyPost_ret (v := decR none) ?_ rfl ⟨rfl, hB5⟩
      simp [results, Tryd.f55, go_sem, decR, Slt.val, Slt.zero, r0, r1, r2, r3, r4, r5, r6, r7, r8]
end Go.Proofs.YthfoljgaiincdaaDoor
