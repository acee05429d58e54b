import Derived.Test.YtljgocfmmdpdfaaRefFieldE
namespace Go.Proofs.Ytljgocfmmdpdfaa
open Go.RowKit Go.Fld
set_option linter.unusedVariables false
attribute [local go_sem ↓] Go.wp_at_zero Go.wp_at_succ

theorem rowAt_two {w : World} {b : Nat} {a d : Int} (h0 : w.cell? ⟨b, 0, none⟩ = some (.int .i64 a)) (h1 : w.cell? ⟨b, 1, none⟩ = some (.int .i64 d)) : RowAt encF 2 w w.heap.size (some ⟨b, 0, none⟩) [(a, d)] := fun _ => by
  refine ⟨b, 0, rfl, cell_lt h0, fun k x hx j u hu => ?_⟩
  match k, hx with
  | 0, hx =>
    simp at hx; subst hx
    match j, hu with
    | 0, hu => simp [encF] at hu; subst hu; simpa using h0
    | 1, hu => simp [encF] at hu; subst hu; simpa using h1
    | j + 2, hu => simp [encF] at hu
  | k + 1, hx => simp at hx
theorem rowAt_one {w : World} {b : Nat} {n : Int} (h0 : w.cell? ⟨b, 0, none⟩ = some (.int .i64 n)) : RowAt encI 1 w w.heap.size (some ⟨b, 0, none⟩) [n] := fun _ => by
  refine ⟨b, 0, rfl, cell_lt h0, fun k x hx j u hu => ?_⟩
  match k, hx with
  | 0, hx =>
    simp at hx; subst hx
    match j, hu with
    | 0, hu => simp [encI] at hu; subst hu; simpa using h0
    | j + 1, hu => simp [encI] at hu
  | k + 1, hx => simp at hx

theorem cell_more {w : World} {b i : Nat} {v : Value} (h : w.cell? ⟨b, i, none⟩ = some v) (o : Obj) : (w.alloc o).cell? ⟨b, i, none⟩ = some v :=
  (World.cell?_alloc_lt w o ⟨b, i, none⟩ (cell_lt h)).trans h
theorem cell_new {w : World} {cs : Array Value} {t : TypeId} {g i : Nat} {v : Value} (hg : g = w.heap.size) (h : cs[i]? = some v) : (w.alloc (.cells cs t)).cell? ⟨g, i, none⟩ = some v := by
  subst hg
  unfold World.cell?
  rw [World.alloc_heap_new w (.cells cs t)]
  simpa using h

theorem aw1 : packR (packZ [(4, 3)] [5]) = .tuple #[.int .i64 80, .bool true] := by
  have : packZ [(4, 3)] [5] = some 80 := by decide
  rw [this]; rfl

theorem aw2 : putZ 0 (4 : Int).toNat (3 : Int).toNat 5 = 80 := by decide
theorem aw3 : getZ 80 (4 : Int).toNat (3 : Int).toNat = 5 := by decide
theorem aw4 : getZ 80 (5 : Int).toNat (2 : Int).toNat = 2 := by decide
theorem aw5 : (2 : Int) ^ (3 : Int).toNat - 1 = 7 := by decide
theorem aw6 : partsZ 80 [(4, 3)] = [5] := by decide
theorem aw8 : decide ([(5 : Int)] = [5]) = true := by decide
theorem aw9 : rightB 4 3 = true := by decide
theorem aw7 : apartB [(4, 3)] = true := by decide

set_option maxHeartbeats 1000000 in
theorem awake_any (w : World) : Calls Try.prog 11 #[] w fun e w' => e = .returned (.bool true) ∧ Below w.heap.size w w' := by
  go_enter Try.func11, Try.ntmps11
  go_wp2_with fail
  refine (pack_any _ _ 1 1 [(4, 3)] [5] (by decide) (by decide) (by decide) _ (rowAt_two ?_ ?_) (rowAt_one ?_)).mono ?_
  case refine_1 => exact cell_more (cell_new (by simp) rfl) _
  case refine_2 => exact cell_more (cell_new (by simp) rfl) _
  case refine_3 => exact cell_new (by simp) rfl
  rintro e w1 ⟨rfl, hb1⟩
  rw [aw1]
  have hB1 : Below w.heap.size w w1 := ((((Below.refl _ w).alloc (Nat.le_refl _) _).alloc (by simp) _).alloc (by simp; omega) _).trans (hb1.mono (by simp; omega))
  have hc0 : w1.cell? ⟨w.heap.size, 0, none⟩ = some (.int .i64 4) := (hb1.cell (p := ⟨w.heap.size, 0, none⟩) (by simp; omega)).trans (cell_more (cell_more (cell_new rfl rfl) _) _)
  have hc1 : w1.cell? ⟨w.heap.size, 1, none⟩ = some (.int .i64 3) := (hb1.cell (p := ⟨w.heap.size, 1, none⟩) (by simp; omega)).trans (cell_more (cell_more (cell_new rfl rfl) _) _)
  clear hb1
  go_wp2_with fail
  refine (put_yes 0 4 3 5 (by unfold I64; omega) _ (by decide)).mono ?_
  rintro e w2 ⟨rfl, hb⟩
  rw [aw2]
  have hB2 := hB1.trans (hb.mono hB1.size)
  replace hc0 : w2.cell? ⟨w.heap.size, 0, none⟩ = some (.int .i64 4) := (hb.cell (p := ⟨w.heap.size, 0, none⟩) (cell_lt hc0)).trans hc0
  replace hc1 : w2.cell? ⟨w.heap.size, 1, none⟩ = some (.int .i64 3) := (hb.cell (p := ⟨w.heap.size, 1, none⟩) (cell_lt hc1)).trans hc1
  clear hb
  go_wp2_with fail
  refine (get_yes 80 4 3 _ (by decide)).mono ?_
  rintro e w3 ⟨rfl, hb⟩
  rw [aw3]
  have hB3 := hB2.trans (hb.mono hB2.size)
  replace hc0 : w3.cell? ⟨w.heap.size, 0, none⟩ = some (.int .i64 4) := (hb.cell (p := ⟨w.heap.size, 0, none⟩) (cell_lt hc0)).trans hc0
  replace hc1 : w3.cell? ⟨w.heap.size, 1, none⟩ = some (.int .i64 3) := (hb.cell (p := ⟨w.heap.size, 1, none⟩) (cell_lt hc1)).trans hc1
  clear hb
  go_wp2_with fail
  refine (get_yes 80 5 2 _ (by decide)).mono ?_
  rintro e w4 ⟨rfl, hb⟩
  rw [aw4]
  have hB4 := hB3.trans (hb.mono hB3.size)
  replace hc0 : w4.cell? ⟨w.heap.size, 0, none⟩ = some (.int .i64 4) := (hb.cell (p := ⟨w.heap.size, 0, none⟩) (cell_lt hc0)).trans hc0
  replace hc1 : w4.cell? ⟨w.heap.size, 1, none⟩ = some (.int .i64 3) := (hb.cell (p := ⟨w.heap.size, 1, none⟩) (cell_lt hc1)).trans hc1
  clear hb
  go_wp2_with fail
  refine (max_yes 4 3 _ (by decide)).mono ?_
  rintro e w5 ⟨rfl, hb⟩
  rw [aw5]
  have hB5 := hB4.trans (hb.mono hB4.size)
  replace hc0 : w5.cell? ⟨w.heap.size, 0, none⟩ = some (.int .i64 4) := (hb.cell (p := ⟨w.heap.size, 0, none⟩) (cell_lt hc0)).trans hc0
  replace hc1 : w5.cell? ⟨w.heap.size, 1, none⟩ = some (.int .i64 3) := (hb.cell (p := ⟨w.heap.size, 1, none⟩) (cell_lt hc1)).trans hc1
  clear hb
  go_wp2_with fail
  refine (parts_any 80 _ 1 [(4, 3)] (by decide) (by decide) _ (rowAt_two (cell_new rfl rfl) (cell_new rfl rfl))).mono ?_
  rintro e w6 ⟨⟨v, rfl, hs⟩, hb⟩
  have hB6 := (hB5.alloc hB5.size _).trans (hb.mono (Nat.le_trans hB5.size (by simp)))
  replace hc0 : w6.cell? ⟨w.heap.size, 0, none⟩ = some (.int .i64 4) := (hb.cell (p := ⟨w.heap.size, 0, none⟩) (cell_lt (cell_more hc0 _))).trans (cell_more hc0 _)
  replace hc1 : w6.cell? ⟨w.heap.size, 1, none⟩ = some (.int .i64 3) := (hb.cell (p := ⟨w.heap.size, 1, none⟩) (cell_lt (cell_more hc1 _))).trans (cell_more hc1 _)
  clear hb
  rw [aw6] at hs
  obtain ⟨A, cap, rfl, hcap, hrow⟩ := hs
  have hrow6 := (hrow.more (Nat.le_refl _)).below ((Below.refl w6.heap.size w6).alloc (Nat.le_refl _) (.cells #[.int .i64 5] 3))
  go_wp2_with fail
  refine (ints_any _ _ _ 1 [5] [5] (by decide) _ (hrow6.more (by simp)) (rowAt_one (cell_new rfl rfl))).mono ?_
  rintro e w7 ⟨rfl, hb⟩
  rw [aw8]
  have hB7 := (hB6.alloc hB6.size (.cells #[.int .i64 5] 3)).trans (hb.mono (Nat.le_trans hB6.size (by simp)))
  replace hc0 : w7.cell? ⟨w.heap.size, 0, none⟩ = some (.int .i64 4) := (hb.cell (p := ⟨w.heap.size, 0, none⟩) (cell_lt (cell_more hc0 _))).trans (cell_more hc0 _)
  replace hc1 : w7.cell? ⟨w.heap.size, 1, none⟩ = some (.int .i64 3) := (hb.cell (p := ⟨w.heap.size, 1, none⟩) (cell_lt (cell_more hc1 _))).trans (cell_more hc1 _)
  clear hb hrow hrow6
  go_wp2_with fail
  refine (apart_any _ 1 [(4, 3)] (by decide) (by decide) _ (rowAt_two (cell_new rfl rfl) (cell_new rfl rfl))).mono ?_
  rintro e w8 ⟨rfl, hb⟩
  rw [aw7]
  have hB8 := (hB7.alloc hB7.size (.cells #[.int .i64 4, .int .i64 3] 23)).trans (hb.mono (Nat.le_trans hB7.size (by simp)))
  replace hc0 : w8.cell? ⟨w.heap.size, 0, none⟩ = some (.int .i64 4) := (hb.cell (p := ⟨w.heap.size, 0, none⟩) (cell_lt (cell_more hc0 _))).trans (cell_more hc0 _)
  replace hc1 : w8.cell? ⟨w.heap.size, 1, none⟩ = some (.int .i64 3) := (hb.cell (p := ⟨w.heap.size, 1, none⟩) (cell_lt (cell_more hc1 _))).trans (cell_more hc1 _)
  clear hb
  go_wp2_with fail
  refine (right_any 4 3 _).mono ?_
  rintro e w9 ⟨rfl, hb⟩
  rw [aw9]
  go_wp2_with fail
  go_ret
  exact ⟨rfl, hB8.trans (hb.mono hB8.size)⟩
end Go.Proofs.Ytljgocfmmdpdfaa
