
import Derived.Test.YthfoljgaiincdaaDoorSlotC
namespace Go.Proofs.YthfoljgaiincdaaDoor
open Go.RowKit Go.Fld
set_option linter.unusedVariables false
attribute [local go_sem ↓] Go.wp_at_zero Go.wp_at_succ slot_equal

/-- The variable slot.fields holds its table. -/
def Tab (w : World) : Prop := ∃ t fr, w.heap[0]? = some (.cells tabC t fr)
theorem Tab.lt {w : World} (h : Tab w) : 0 < w.heap.size := by
  obtain ⟨t, fr, h⟩ := h
  exact (Array.getElem?_eq_some_iff.1 h).1
theorem Tab.below {w w' : World} (h : Tab w) (hb : Below w.heap.size w w') : Tab w' := by
  obtain ⟨t, fr, h'⟩ := h
  exact ⟨t, fr, (hb.block 0 (Array.getElem?_eq_some_iff.1 h').1).trans h'⟩

theorem rowAt_blk {α : Type} {enc : α → List Value} {size : Nat} (hs : ∀ x, (enc x).length = size) {w : World} {g : Nat} {t : TypeId} {cs : Array Value} {xs : List α} (h : Blk w g t cs) (hcs : cs = (xs.flatMap enc).toArray) : RowAt enc size w w.heap.size (some ⟨g, 0, none⟩) xs := fun _ => by
  refine ⟨g, 0, rfl, h.lt, fun k x hx j u hu => ?_⟩
  rw [h.cell, hcs]
  have := flat_get enc size hs xs k j x u hx hu
  simpa using this
theorem encF_len (x : Int × Int) : (encF x).length = 2 := rfl
theorem encI_len (x : Int) : (encI x).length = 1 := rfl
theorem blk_alloc {w : World} {g : Nat} {t : TypeId} {cs : Array Value} (h : Blk w g t cs) (o : Obj) : Blk (w.alloc o) g t cs := (Below.heap_alloc w o g h.lt).trans h

set_option maxHeartbeats 2000000 in
theorem enc_any (a b c : Int) (d e : Bool) (f g h i : Int) (w : World) (hT : Tab w) :
    Calls Tryd.prog 72 #[.agg #[.int .i64 a, .int .i64 b, .int .i64 c, .bool d, .bool e, .int .i64 f, .int .i64 g, .int .i64 h, .int .i64 i]] w fun en w' => en = .returned (packR (encS ⟨a, b, c, d, e, f, g, h, i⟩)) ∧ Below w.heap.size w w' := by
  have hcs : ∀ j, (w.alloc (.cells #[.int .i64 a, .int .i64 b, .int .i64 c, .bool d, .bool e, .int .i64 f, .int .i64 g, .int .i64 h, .int .i64 i] 49)).cell? ⟨w.heap.size, j, none⟩ = (#[.int .i64 a, .int .i64 b, .int .i64 c, .bool d, .bool e, .int .i64 f, .int .i64 g, .int .i64 h, .int .i64 i] : Array Value)[j]? := fun j => (Blk.new w 49 _).cell j
  have c0 : (w.alloc (.cells #[.int .i64 a, .int .i64 b, .int .i64 c, .bool d, .bool e, .int .i64 f, .int .i64 g, .int .i64 h, .int .i64 i] 49)).cell? ⟨w.heap.size, 0, none⟩ = some (.int .i64 a) := hcs 0
  have c1 : (w.alloc (.cells #[.int .i64 a, .int .i64 b, .int .i64 c, .bool d, .bool e, .int .i64 f, .int .i64 g, .int .i64 h, .int .i64 i] 49)).cell? ⟨w.heap.size, 1, none⟩ = some (.int .i64 b) := hcs 1
  have c2 : (w.alloc (.cells #[.int .i64 a, .int .i64 b, .int .i64 c, .bool d, .bool e, .int .i64 f, .int .i64 g, .int .i64 h, .int .i64 i] 49)).cell? ⟨w.heap.size, 2, none⟩ = some (.int .i64 c) := hcs 2
  have c3 : (w.alloc (.cells #[.int .i64 a, .int .i64 b, .int .i64 c, .bool d, .bool e, .int .i64 f, .int .i64 g, .int .i64 h, .int .i64 i] 49)).cell? ⟨w.heap.size, 3, none⟩ = some (.bool d) := hcs 3
  have c4 : (w.alloc (.cells #[.int .i64 a, .int .i64 b, .int .i64 c, .bool d, .bool e, .int .i64 f, .int .i64 g, .int .i64 h, .int .i64 i] 49)).cell? ⟨w.heap.size, 4, none⟩ = some (.bool e) := hcs 4
  have c5 : (w.alloc (.cells #[.int .i64 a, .int .i64 b, .int .i64 c, .bool d, .bool e, .int .i64 f, .int .i64 g, .int .i64 h, .int .i64 i] 49)).cell? ⟨w.heap.size, 5, none⟩ = some (.int .i64 f) := hcs 5
  have c6 : (w.alloc (.cells #[.int .i64 a, .int .i64 b, .int .i64 c, .bool d, .bool e, .int .i64 f, .int .i64 g, .int .i64 h, .int .i64 i] 49)).cell? ⟨w.heap.size, 6, none⟩ = some (.int .i64 g) := hcs 6
  have c7 : (w.alloc (.cells #[.int .i64 a, .int .i64 b, .int .i64 c, .bool d, .bool e, .int .i64 f, .int .i64 g, .int .i64 h, .int .i64 i] 49)).cell? ⟨w.heap.size, 7, none⟩ = some (.int .i64 h) := hcs 7
  have c8 : (w.alloc (.cells #[.int .i64 a, .int .i64 b, .int .i64 c, .bool d, .bool e, .int .i64 f, .int .i64 g, .int .i64 h, .int .i64 i] 49)).cell? ⟨w.heap.size, 8, none⟩ = some (.int .i64 i) := hcs 8
  have hB0 : Below w.heap.size w (w.alloc (.cells #[.int .i64 a, .int .i64 b, .int .i64 c, .bool d, .bool e, .int .i64 f, .int .i64 g, .int .i64 h, .int .i64 i] 49)) := (Below.refl _ _).alloc (Nat.le_refl _) _
  have hZ0 : w.heap.size < (w.alloc (.cells #[.int .i64 a, .int .i64 b, .int .i64 c, .bool d, .bool e, .int .i64 f, .int .i64 g, .int .i64 h, .int .i64 i] 49)).heap.size := by simp
  clear hcs
  by_cases h6 : 6 < a
  · have hz : encS ⟨a, b, c, d, e, f, g, h, i⟩ = none := by unfold encS; rw [if_pos (.inl h6)]
    have HZ := Lib.hid hz
    have hg : decide (6 < a) = true := by simpa using h6
    clear hz h6
    go_enter Tryd.func72, Tryd.ntmps72
    go_wp2
    go_quiet (fail)
    go_wp2
    go_ret2
    exact ⟨by rw [HZ.out]; rfl, below_drewN hB0 _⟩
  · have hg : decide (6 < a) = false := by simpa using h6
    obtain ⟨bs, hbs⟩ : ∃ bs, bs = bareS ⟨a, b, c, d, e, f, g, h, i⟩ := ⟨_, rfl⟩
    by_cases hne : (⟨a, b, c, d, e, f, g, h, i⟩ : Slt) = bs
    · have hz : encS ⟨a, b, c, d, e, f, g, h, i⟩ = packZ fieldsL (numsL ⟨a, b, c, d, e, f, g, h, i⟩) := by unfold encS; rw [if_neg (by rw [← hbs, ← hne]; simp; omega)]
      have HZ := Lib.hid hz
      have HBS := Lib.hid hbs
      obtain ⟨a', b', c', d', e', f', g', h', i'⟩ := bs
      have hsq : seq (⟨a, b, c, d, e, f, g, h, i⟩ : Slt) ⟨a', b', c', d', e', f', g', h', i'⟩ = true := by unfold seq; rw [decide_eq_true_iff]; exact hne
      obtain ⟨tt, fr, hg1⟩ := hT
      have hg1L := (Array.getElem?_eq_some_iff.1 hg1).1
      clear hz h6 hbs hne
      go_enter Tryd.func72, Tryd.ntmps72
      go_wp2
      go_region_held3 (fun w' => w'.cell? ⟨w.heap.size, 0, none⟩ = some (.int .i64 a) ∧ w'.cell? ⟨w.heap.size, 1, none⟩ = some (.int .i64 b) ∧ w'.cell? ⟨w.heap.size, 2, none⟩ = some (.int .i64 c) ∧ w'.cell? ⟨w.heap.size, 3, none⟩ = some (.bool d) ∧ w'.cell? ⟨w.heap.size, 4, none⟩ = some (.bool e) ∧ w'.cell? ⟨w.heap.size, 5, none⟩ = some (.int .i64 f) ∧ w'.cell? ⟨w.heap.size, 6, none⟩ = some (.int .i64 g) ∧ w'.cell? ⟨w.heap.size, 7, none⟩ = some (.int .i64 h) ∧ w'.cell? ⟨w.heap.size, 8, none⟩ = some (.int .i64 i) ∧ Below w.heap.size w w' ∧ w.heap.size < w'.heap.size)
        (first | exact ⟨c0, c1, c2, c3, c4, c5, c6, c7, c8, hB0.drew, hZ0⟩ | (obtain ⟨g0, g1, g2, g3, g4, g5, g6, g7, g8, gB, gZ⟩ := ‹World.cell? _ _ = _ ∧ _ ∧ _ ∧ _ ∧ _ ∧ _ ∧ _ ∧ _ ∧ _ ∧ Below _ _ _ ∧ _ < _›; first | exact ⟨(hb.cell (p := ⟨w.heap.size, 0, none⟩) gZ).trans g0, (hb.cell (p := ⟨w.heap.size, 1, none⟩) gZ).trans g1, (hb.cell (p := ⟨w.heap.size, 2, none⟩) gZ).trans g2, (hb.cell (p := ⟨w.heap.size, 3, none⟩) gZ).trans g3, (hb.cell (p := ⟨w.heap.size, 4, none⟩) gZ).trans g4, (hb.cell (p := ⟨w.heap.size, 5, none⟩) gZ).trans g5, (hb.cell (p := ⟨w.heap.size, 6, none⟩) gZ).trans g6, (hb.cell (p := ⟨w.heap.size, 7, none⟩) gZ).trans g7, (hb.cell (p := ⟨w.heap.size, 8, none⟩) gZ).trans g8, gB.trans (hb.mono (Nat.le_of_lt gZ)), Nat.lt_of_lt_of_le gZ hb.size⟩ | exact ⟨cell_more g0 _, cell_more g1 _, cell_more g2 _, cell_more g3 _, cell_more g4 _, cell_more g5 _, cell_more g6 _, cell_more g7 _, cell_more g8 _, gB.alloc (Nat.le_of_lt gZ) _, by simp; omega⟩))
        (first | (go_at_call 87; refine (bare_any _ _ _ _ _ _ _ _ _ _).mono ?_; rintro en w1 ⟨rfl, hb⟩; rw [← HBS.out]; simp only [Slt.val]))
      obtain ⟨t0, t1, t2, t3, t4, t5, t6, t7, t8, tB, tZ⟩ := ‹World.cell? _ _ = _ ∧ _ ∧ _ ∧ _ ∧ _ ∧ _ ∧ _ ∧ _ ∧ _ ∧ Below _ _ _ ∧ _ < _›
      have hts : tabC.size = 18 := rfl
      have hst := store_tab w1
      have hg2 : w1.heap[0]? = some (.cells tabC tt fr) := (tB.block 0 (by omega)).trans hg1
      clear c0 c1 c2 c3 c4 c5 c6 c7 c8 hB0 hZ0 hb hg1
      go_wp2_with (refine wpList_load_row rfl 105 _ rfl 0 rfl tt _ fr _ hg2 Tryd.underlying105 rfl (by kernel_rfl) ?_)
      have hBT := Blk.new w1 105 tabC
      have hZ2 : w.heap.size < (w1.alloc (.cells tabC 105)).heap.size := by simp; omega
      have hB2 : Below w.heap.size w (w1.alloc (.cells tabC 105)) := tB.alloc (Nat.le_of_lt tZ) _
      have s0 := cell_more t0 (.cells tabC 105)
      have s1 := cell_more t1 (.cells tabC 105)
      have s2 := cell_more t2 (.cells tabC 105)
      have s3 := cell_more t3 (.cells tabC 105)
      have s4 := cell_more t4 (.cells tabC 105)
      have s5 := cell_more t5 (.cells tabC 105)
      have s6 := cell_more t6 (.cells tabC 105)
      have s7 := cell_more t7 (.cells tabC 105)
      have s8 := cell_more t8 (.cells tabC 105)
      clear t0 t1 t2 t3 t4 t5 t6 t7 t8 hg2
      clear hst hts
      have hdB : w.heap.size < w1.heap.size := tZ
      have hTr : RowAt encF 2 (w1.alloc (.cells tabC 105)) (w1.heap.size + 1) (some ⟨w1.heap.size, 0, none⟩) fieldsL := by
        have := rowAt_blk encF_len (xs := fieldsL) hBT rfl
        simpa using this
      have hNr : RowAt encI 1 ((w1.alloc (.cells tabC 105)).alloc (.cells #[.int .i64 a, .int .i64 b, .int .i64 c, .int .i64 (bitI d), .int .i64 (bitI e), .int .i64 f, .int .i64 g, .int .i64 h, .int .i64 i] 3)).drew ((w1.alloc (.cells tabC 105)).alloc (.cells #[.int .i64 a, .int .i64 b, .int .i64 c, .int .i64 (bitI d), .int .i64 (bitI e), .int .i64 f, .int .i64 g, .int .i64 h, .int .i64 i] 3)).drew.heap.size (some ⟨w1.heap.size + 1, 0, none⟩) (numsL ⟨a, b, c, d, e, f, g, h, i⟩) := by
        have := Blk.new (w1.alloc (.cells tabC 105)) 3 #[.int .i64 a, .int .i64 b, .int .i64 c, .int .i64 (bitI d), .int .i64 (bitI e), .int .i64 f, .int .i64 g, .int .i64 h, .int .i64 i]
        rw [World.size_alloc] at this
        exact rowAt_blk encI_len (xs := numsL ⟨a, b, c, d, e, f, g, h, i⟩) this rfl
      go_region_held3 (fun w' => w'.cell? ⟨w.heap.size, 0, none⟩ = some (.int .i64 a) ∧ w'.cell? ⟨w.heap.size, 1, none⟩ = some (.int .i64 b) ∧ w'.cell? ⟨w.heap.size, 2, none⟩ = some (.int .i64 c) ∧ w'.cell? ⟨w.heap.size, 3, none⟩ = some (.bool d) ∧ w'.cell? ⟨w.heap.size, 4, none⟩ = some (.bool e) ∧ w'.cell? ⟨w.heap.size, 5, none⟩ = some (.int .i64 f) ∧ w'.cell? ⟨w.heap.size, 6, none⟩ = some (.int .i64 g) ∧ w'.cell? ⟨w.heap.size, 7, none⟩ = some (.int .i64 h) ∧ w'.cell? ⟨w.heap.size, 8, none⟩ = some (.int .i64 i) ∧ RowAt encF 2 w' (w1.heap.size + 1) (some ⟨w1.heap.size, 0, none⟩) fieldsL ∧ Below w.heap.size w w' ∧ w1.heap.size < w'.heap.size)
        (first | assumption | exact ⟨s0, s1, s2, s3, s4, s5, s6, s7, s8, hTr, hB2.drew, by simp⟩ | (obtain ⟨g0, g1, g2, g3, g4, g5, g6, g7, g8, gR, gB, gZ⟩ := ‹World.cell? _ _ = _ ∧ _ ∧ _ ∧ _ ∧ _ ∧ _ ∧ _ ∧ _ ∧ _ ∧ _ ∧ Below _ _ _ ∧ _ < _›; first | exact ⟨(hb.cell (p := ⟨w.heap.size, 0, none⟩) (Nat.lt_trans hdB gZ)).trans g0, (hb.cell (p := ⟨w.heap.size, 1, none⟩) (Nat.lt_trans hdB gZ)).trans g1, (hb.cell (p := ⟨w.heap.size, 2, none⟩) (Nat.lt_trans hdB gZ)).trans g2, (hb.cell (p := ⟨w.heap.size, 3, none⟩) (Nat.lt_trans hdB gZ)).trans g3, (hb.cell (p := ⟨w.heap.size, 4, none⟩) (Nat.lt_trans hdB gZ)).trans g4, (hb.cell (p := ⟨w.heap.size, 5, none⟩) (Nat.lt_trans hdB gZ)).trans g5, (hb.cell (p := ⟨w.heap.size, 6, none⟩) (Nat.lt_trans hdB gZ)).trans g6, (hb.cell (p := ⟨w.heap.size, 7, none⟩) (Nat.lt_trans hdB gZ)).trans g7, (hb.cell (p := ⟨w.heap.size, 8, none⟩) (Nat.lt_trans hdB gZ)).trans g8, gR.below (hb.mono gZ), gB.trans (hb.mono (Nat.le_of_lt (Nat.lt_trans hdB gZ))), Nat.lt_of_lt_of_le gZ hb.size⟩ | exact ⟨cell_more g0 _, cell_more g1 _, cell_more g2 _, cell_more g3 _, cell_more g4 _, cell_more g5 _, cell_more g6 _, cell_more g7 _, cell_more g8 _, rowAt_alloc gR gZ _, gB.alloc (Nat.le_of_lt (Nat.lt_trans hdB gZ)) _, by simp; omega⟩))
        (first | (go_at_call 89; refine (bit_any _ _).mono ?_; rintro en w2 ⟨rfl, rfl⟩) | (go_at_call 88; refine (pack_any _ _ 9 9 fieldsL (numsL ⟨a, b, c, d, e, f, g, h, i⟩) (by decide) (by decide) (by simp [numsL]) _ ?_ ?_).mono ?_; have gS := ‹World.cell? _ _ = _ ∧ _ ∧ _ ∧ _ ∧ _ ∧ _ ∧ _ ∧ _ ∧ _ ∧ _ ∧ Below _ _ _ ∧ _ < _›; exact gS.2.2.2.2.2.2.2.2.2.1.more (Nat.succ_le_of_lt gS.2.2.2.2.2.2.2.2.2.2.2); exact hNr; rintro en w2 ⟨rfl, hb⟩; rw [packR_eq]))
      go_wp2
      go_ret2
      obtain ⟨_, _, _, _, _, _, _, _, _, _, fB, _⟩ := ‹World.cell? w2 _ = _ ∧ _ ∧ _ ∧ _ ∧ _ ∧ _ ∧ _ ∧ _ ∧ _ ∧ _ ∧ Below _ _ _ ∧ _ < _›
      exact ⟨by rw [HZ.out, packR_eq]; rfl, fB⟩
    · have hz : encS ⟨a, b, c, d, e, f, g, h, i⟩ = none := by unfold encS; rw [if_pos (.inr (by rw [← hbs]; exact hne))]
      have HZ := Lib.hid hz
      have HBS := Lib.hid hbs
      obtain ⟨a', b', c', d', e', f', g', h', i'⟩ := bs
      have hsq : seq (⟨a, b, c, d, e, f, g, h, i⟩ : Slt) ⟨a', b', c', d', e', f', g', h', i'⟩ = false := by unfold seq; rw [decide_eq_false_iff_not]; exact hne
      clear hz h6 hbs hne
      go_enter Tryd.func72, Tryd.ntmps72
      go_wp2
      go_region_held3 (fun w' => w'.cell? ⟨w.heap.size, 0, none⟩ = some (.int .i64 a) ∧ w'.cell? ⟨w.heap.size, 1, none⟩ = some (.int .i64 b) ∧ w'.cell? ⟨w.heap.size, 2, none⟩ = some (.int .i64 c) ∧ w'.cell? ⟨w.heap.size, 3, none⟩ = some (.bool d) ∧ w'.cell? ⟨w.heap.size, 4, none⟩ = some (.bool e) ∧ w'.cell? ⟨w.heap.size, 5, none⟩ = some (.int .i64 f) ∧ w'.cell? ⟨w.heap.size, 6, none⟩ = some (.int .i64 g) ∧ w'.cell? ⟨w.heap.size, 7, none⟩ = some (.int .i64 h) ∧ w'.cell? ⟨w.heap.size, 8, none⟩ = some (.int .i64 i) ∧ Below w.heap.size w w' ∧ w.heap.size < w'.heap.size)
        (first | exact ⟨c0, c1, c2, c3, c4, c5, c6, c7, c8, hB0.drew, hZ0⟩ | (obtain ⟨g0, g1, g2, g3, g4, g5, g6, g7, g8, gB, gZ⟩ := ‹World.cell? _ _ = _ ∧ _ ∧ _ ∧ _ ∧ _ ∧ _ ∧ _ ∧ _ ∧ _ ∧ Below _ _ _ ∧ _ < _›; first | exact ⟨(hb.cell (p := ⟨w.heap.size, 0, none⟩) gZ).trans g0, (hb.cell (p := ⟨w.heap.size, 1, none⟩) gZ).trans g1, (hb.cell (p := ⟨w.heap.size, 2, none⟩) gZ).trans g2, (hb.cell (p := ⟨w.heap.size, 3, none⟩) gZ).trans g3, (hb.cell (p := ⟨w.heap.size, 4, none⟩) gZ).trans g4, (hb.cell (p := ⟨w.heap.size, 5, none⟩) gZ).trans g5, (hb.cell (p := ⟨w.heap.size, 6, none⟩) gZ).trans g6, (hb.cell (p := ⟨w.heap.size, 7, none⟩) gZ).trans g7, (hb.cell (p := ⟨w.heap.size, 8, none⟩) gZ).trans g8, gB.trans (hb.mono (Nat.le_of_lt gZ)), Nat.lt_of_lt_of_le gZ hb.size⟩ | exact ⟨cell_more g0 _, cell_more g1 _, cell_more g2 _, cell_more g3 _, cell_more g4 _, cell_more g5 _, cell_more g6 _, cell_more g7 _, cell_more g8 _, gB.alloc (Nat.le_of_lt gZ) _, by simp; omega⟩))
        (first | (go_at_call 87; refine (bare_any _ _ _ _ _ _ _ _ _ _).mono ?_; rintro en w1 ⟨rfl, hb⟩; rw [← HBS.out]; simp only [Slt.val]))
      go_wp2
      go_ret2
      exact ⟨by rw [HZ.out]; rfl, by have := ‹World.cell? _ _ = _ ∧ _ ∧ _ ∧ _ ∧ _ ∧ _ ∧ _ ∧ _ ∧ _ ∧ Below _ _ _ ∧ _ < _›; exact this.2.2.2.2.2.2.2.2.2.1⟩
end Go.Proofs.YthfoljgaiincdaaDoor
