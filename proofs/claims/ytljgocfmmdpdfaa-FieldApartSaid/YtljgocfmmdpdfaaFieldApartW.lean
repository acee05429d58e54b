import Derived.Test.YtljgocfmmdpdfaaFieldAwake
namespace Go.Proofs.Ytljgocfmmdpdfaa
open Go.RowKit Go.Fld
set_option linter.unusedVariables false
attribute [local go_sem ↓] Go.wp_at_zero Go.wp_at_succ

theorem rowAt_four {w : World} {g : Nat} {a d b e : Int} (h0 : w.cell? ⟨g, 0, none⟩ = some (.int .i64 a)) (h1 : w.cell? ⟨g, 1, none⟩ = some (.int .i64 d)) (h2 : w.cell? ⟨g, 2, none⟩ = some (.int .i64 b)) (h3 : w.cell? ⟨g, 3, none⟩ = some (.int .i64 e)) :
    RowAt encF 2 w w.heap.size (some ⟨g, 0, none⟩) [(a, d), (b, e)] := fun _ => by
  refine ⟨g, 0, rfl, cell_lt h0, fun k x hx j u hu => ?_⟩
  match k, hx with
  | 0, hx =>
    simp at hx; subst hx
    match j, hu with
    | 0, hu => simp [encF] at hu; subst hu; simpa using h0
    | 1, hu => simp [encF] at hu; subst hu; simpa using h1
    | j + 2, hu => simp [encF] at hu
  | 1, hx =>
    simp at hx; subst hx
    match j, hu with
    | 0, hu => simp [encF] at hu; subst hu; simpa using h2
    | 1, hu => simp [encF] at hu; subst hu; simpa using h3
    | j + 2, hu => simp [encF] at hu
  | k + 2, hx => simp at hx

set_option maxHeartbeats 4000000 in
theorem apartL_walk (a d b e x : Int) (hx : I64 x) (v : Int) (hv : I64 v) (u : Int) (hu : I64 u) (w : World) : Calls Try.prog 6 #[.agg #[.int .i64 a, .int .i64 d], .agg #[.int .i64 b, .int .i64 e], .int .i64 x, .int .i64 v, .int .i64 u] w fun e w' => e = .returned (.bool true) ∧ Below w.heap.size w w' := by
  go_enter Try.func6, Try.ntmps6
  go_wp2_with fail
  refine (awake_any _).mono ?_
  rintro e w1 ⟨rfl, hb⟩
  have hB1 := (((Below.refl w.heap.size w).alloc (Nat.le_refl _) (.cells #[.int .i64 a, .int .i64 d] 23)).alloc (by simp) (.cells #[.int .i64 b, .int .i64 e] 23)).trans (hb.mono (by simp; omega))
  have hc0 : w1.cell? ⟨w.heap.size, 0, none⟩ = some (.int .i64 a) := (hb.cell (p := ⟨w.heap.size, 0, none⟩) (by simp; omega)).trans (cell_more (cell_new rfl rfl) _)
  have hc1 : w1.cell? ⟨w.heap.size, 1, none⟩ = some (.int .i64 d) := (hb.cell (p := ⟨w.heap.size, 1, none⟩) (by simp; omega)).trans (cell_more (cell_new rfl rfl) _)
  have hd0 : w1.cell? ⟨w.heap.size + 1, 0, none⟩ = some (.int .i64 b) := (hb.cell (p := ⟨w.heap.size + 1, 0, none⟩) (by simp)).trans (cell_new (by simp) rfl)
  have hd1 : w1.cell? ⟨w.heap.size + 1, 1, none⟩ = some (.int .i64 e) := (hb.cell (p := ⟨w.heap.size + 1, 1, none⟩) (by simp)).trans (cell_new (by simp) rfl)
  clear hb
  go_wp2_with fail
  refine (apart_any _ 2 [(a, d), (b, e)] (by simp) (by simp) _ (rowAt_four (cell_new rfl rfl) (cell_new rfl rfl) (cell_new rfl rfl) (cell_new rfl rfl))).mono ?_
  rintro e' w2 ⟨rfl, hb⟩
  have hB2 := (hB1.alloc hB1.size (.cells #[.int .i64 a, .int .i64 d, .int .i64 b, .int .i64 e] 23)).trans (hb.mono (Nat.le_trans hB1.size (by simp)))
  replace hc0 : w2.cell? ⟨w.heap.size, 0, none⟩ = some (.int .i64 a) := (hb.cell (p := ⟨w.heap.size, 0, none⟩) (cell_lt (cell_more hc0 _))).trans (cell_more hc0 _)
  replace hc1 : w2.cell? ⟨w.heap.size, 1, none⟩ = some (.int .i64 d) := (hb.cell (p := ⟨w.heap.size, 1, none⟩) (cell_lt (cell_more hc1 _))).trans (cell_more hc1 _)
  replace hd0 : w2.cell? ⟨w.heap.size + 1, 0, none⟩ = some (.int .i64 b) := (hb.cell (p := ⟨w.heap.size + 1, 0, none⟩) (cell_lt (cell_more hd0 _))).trans (cell_more hd0 _)
  replace hd1 : w2.cell? ⟨w.heap.size + 1, 1, none⟩ = some (.int .i64 e) := (hb.cell (p := ⟨w.heap.size + 1, 1, none⟩) (cell_lt (cell_more hd1 _))).trans (cell_more hd1 _)
  clear hb
  by_cases hap : apartB [(a, d), (b, e)] = true
  · have h2 := (apartB_iff _).1 hap
    have hrf : rightB a d = true := h2.1 (a, d) (by simp)
    have hrg : rightB b e = true := h2.1 (b, e) (by simp)
    have hm : meetB ((a, d), (b, e)) = false := by have := h2.2; simp at this; exact this
    have hfar := (meet_far (f := (a, d)) (g := (b, e)) hrf hrg).1 hm
    simp only at hfar
    have hap2 : apartB [(b, e), (a, d)] = true := by rw [apart_perm (List.Perm.swap (a, d) (b, e) [])]; exact hap
    have hf1 := rightB_t.1 hrf
    have hg1 := rightB_t.1 hrg
    obtain ⟨P, hP⟩ : ∃ P, P = putZ x a.toNat d.toNat v := ⟨_, rfl⟩
    obtain ⟨Q, hQ⟩ : ∃ Q, Q = putZ x b.toNat e.toNat u := ⟨_, rfl⟩
    obtain ⟨R, hR⟩ : ∃ R, R = putZ P b.toNat e.toNat u := ⟨_, rfl⟩
    obtain ⟨G, hG⟩ : ∃ G, G = getZ x b.toNat e.toNat := ⟨_, rfl⟩
    have hIP : I64 P := by rw [hP]; exact (putZ_I64 hx _ _ (by omega) v).1
    have hIQ : I64 Q := by rw [hQ]; exact (putZ_I64 hx _ _ (by omega) u).1
    have e1 : getZ P b.toNat e.toNat = G := by rw [hP, get_put_far _ _ _ _ _ _ hfar, hG]
    have e2 : putZ Q a.toNat d.toNat v = R := by rw [hR, hP, hQ, put_comm _ _ _ _ _ _ _ hfar]
    have HP := Lib.hid hP.symm
    have HQ := Lib.hid hQ.symm
    have HR := Lib.hid hR.symm
    have HG := Lib.hid hG.symm
    have E1 := Lib.hid e1
    have E2 := Lib.hid e2
    have HX := Lib.hid hx
    have HIP := Lib.hid hIP
    have HIQ := Lib.hid hIQ
    have HF := Lib.hid hrf
    have HGG := Lib.hid hrg
    have HA2 := Lib.hid hap2
    have HAP := Lib.hid hap
    clear hP hQ hR hG e1 e2 hx hIP hIQ hrf hrg hap2 hm hfar hf1 hg1 h2 hap
    simp only [HAP.out]
    go_wp2_with fail
    refine (put_yes _ _ _ _ HX.out _ HF.out).mono ?_
    rintro e' w3 ⟨rfl, hb⟩
    rw [HP.out]
    have hB3 := hB2.trans (hb.mono hB2.size)
    replace hc0 : w3.cell? ⟨w.heap.size, 0, none⟩ = some (.int .i64 a) := (hb.cell (p := ⟨w.heap.size, 0, none⟩) (cell_lt hc0)).trans hc0
    replace hc1 : w3.cell? ⟨w.heap.size, 1, none⟩ = some (.int .i64 d) := (hb.cell (p := ⟨w.heap.size, 1, none⟩) (cell_lt hc1)).trans hc1
    replace hd0 : w3.cell? ⟨w.heap.size + 1, 0, none⟩ = some (.int .i64 b) := (hb.cell (p := ⟨w.heap.size + 1, 0, none⟩) (cell_lt hd0)).trans hd0
    replace hd1 : w3.cell? ⟨w.heap.size + 1, 1, none⟩ = some (.int .i64 e) := (hb.cell (p := ⟨w.heap.size + 1, 1, none⟩) (cell_lt hd1)).trans hd1
    clear hb
    have hz := cell_lt hd0
    go_wp2_with fail
    go_region_held3 (fun w' => w'.cell? ⟨w.heap.size, 0, none⟩ = some (.int .i64 a) ∧ w'.cell? ⟨w.heap.size, 1, none⟩ = some (.int .i64 d) ∧ w'.cell? ⟨w.heap.size + 1, 0, none⟩ = some (.int .i64 b) ∧ w'.cell? ⟨w.heap.size + 1, 1, none⟩ = some (.int .i64 e) ∧ Below w.heap.size w w' ∧ w.heap.size + 1 < w'.heap.size)
      (first | exact ⟨hc0, hc1, hd0, hd1, hB3.drew, hz⟩ | (obtain ⟨g1, g2, g3, g4, gB, gZ⟩ := ‹World.cell? _ _ = _ ∧ _ ∧ _ ∧ _ ∧ Below _ _ _ ∧ _ < _›; first | exact ⟨(hb.cell (p := ⟨w.heap.size, 0, none⟩) (Nat.lt_of_succ_lt gZ)).trans g1, (hb.cell (p := ⟨w.heap.size, 1, none⟩) (Nat.lt_of_succ_lt gZ)).trans g2, (hb.cell (p := ⟨w.heap.size + 1, 0, none⟩) gZ).trans g3, (hb.cell (p := ⟨w.heap.size + 1, 1, none⟩) gZ).trans g4, gB.trans (hb.mono (Nat.le_of_lt (Nat.lt_of_succ_lt gZ))), Nat.lt_of_lt_of_le gZ hb.size⟩ | exact ⟨cell_more g1 _, cell_more g2 _, cell_more g3 _, cell_more g4 _, gB.alloc (Nat.le_of_lt (Nat.lt_of_succ_lt gZ)) _, by simp; omega⟩))
      (first | (go_at_call 16; refine (get_yes _ _ _ _ HGG.out).mono ?_; rintro e' w5 ⟨rfl, hb⟩; (first | rw [E1.out] | rw [HG.out])) | (go_at_call 18; refine (put_yes _ _ _ _ ?_ _ ?_).mono ?_; (first | exact HIP.out | exact HX.out | exact HIQ.out); (first | exact HF.out | exact HGG.out); rintro e' w5 ⟨rfl, hb⟩; (first | rw [HR.out] | rw [HQ.out] | rw [E2.out])) | (go_at_call 13; refine (right_any _ _ _).mono ?_; rintro e' w5 ⟨rfl, hb⟩; (first | rw [HF.out] | rw [HGG.out])) | (go_at_call 22; refine (apart_any _ 2 [(b, e), (a, d)] (by simp) (by simp) _ ?_).mono ?_; exact (rowAt_four (cell_new rfl rfl) (cell_new rfl rfl) (cell_new rfl rfl) (cell_new rfl rfl)); rintro e' w5 ⟨rfl, hb⟩; rw [HA2.out]))
    go_wp2
    go_ret
    exact ⟨rfl, ‹World.cell? w5 _ = _ ∧ _ ∧ _ ∧ _ ∧ Below _ _ _ ∧ _ < _›.2.2.2.2.1⟩
  · have hap' : apartB [(a, d), (b, e)] = false := by simpa using hap
    clear hap
    go_wp2_with fail
    go_ret
    exact ⟨rfl, hB2⟩
end Go.Proofs.Ytljgocfmmdpdfaa
