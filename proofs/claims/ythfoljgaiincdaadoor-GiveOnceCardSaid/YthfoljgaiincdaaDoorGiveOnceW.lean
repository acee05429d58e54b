
/- GiveOnce: the whole. No condition of its own. -/
import Derived.Test.YthfoljgaiincdaaDoorGiveOnceT
import Derived.Test.YthfoljgaiincdaaDoorRetQ
namespace Go.Proofs.YthfoljgaiincdaaDoor
open Go.RowKit Go.Fld Go.Sx
set_option linter.unusedVariables false
set_option linter.unusedSimpArgs false
theorem dec_I {w : Int} {s : Slt} (h : decS w = some s) : I64i w := by
  have := (dec_enc s w (enc_of_dec h)).2
  exact ⟨by omega, by omega⟩
/-! ### Single steps -/
section
variable (G : Gv) (a : GoA) {N : Nat} (C : Nat) (t : Int) {l : List Int} {x : Gq} (y : Gq) {r : Rq} {n : Nat}
theorem go_stepN (hn : n < 9) (h : okM N l = true) (ho : gOKN x.st = true) (hg : gGoes N l x = false) (hr : gret N l x = false) :
    (roundV glEnv 40 noLps 226 [2, 7, 8, 9, 10, 11, 12, 13, 14, 15] 3 goRound0 (unpack 226 [2, 7, 8, 9, 10, 11, 12, 13, 14, 15] (goV0 a n) (goHN G a N C t l x y))).get = some (.normal, goV0 a ((n + 1 : Nat) : Int), goHN G a N C (gtch N x t) (gmem N l x) (gq N l x) y) := by
  rw [go_treeN, decide_eq_true (by omega), bt_of (by rw [h, ho]; rfl), hg, hr, w64_succ (by omega)]; rfl
theorem go_exitN (hn : n < 9) (h : okM N l = true) (ho : gOKN x.st = true) (hg : gGoes N l x = false) (hr : gret N l x = true) :
    (roundV glEnv 40 noLps 226 [2, 7, 8, 9, 10, 11, 12, 13, 14, 15] 3 goRound0 (unpack 226 [2, 7, 8, 9, 10, 11, 12, 13, 14, 15] (goV0 a n) (goHN G a N C t l x y))).get = some (.exit 0, goV0 a n, goHN G a N C (gtch N x t) (gmem N l x) (gq N l x) y) := by
  rw [go_treeN, decide_eq_true (by omega), bt_of (by rw [h, ho]; rfl), hg, hr]; rfl
theorem go_goN (hn : n < 9) (h : okM N l = true) (ho : gOKN x.st = true) (hg : gGoes N l x = true) :
    (roundV glEnv 40 noLps 226 [2, 7, 8, 9, 10, 11, 12, 13, 14, 15] 3 goRound0 (unpack 226 [2, 7, 8, 9, 10, 11, 12, 13, 14, 15] (goV0 a n) (goHN G a N C t l x y))).get = some (.normal, goV0 a ((n + 1 : Nat) : Int), goHR G a N C (gtch N x t) (gmem N l x) (gq N l x) y (gNew N l x)) := by
  rw [go_treeN, decide_eq_true (by omega), bt_of (by rw [h, ho]; rfl), hg, w64_succ (by omega)]; rfl
theorem go_stepR (hn : n < 9) (h : okM N l = true) (hf : rOK r.f = true) (hr : rret N l r = false) :
    (roundV glEnv 40 noLps 226 [2, 7, 8, 9, 10, 11, 12, 13, 14, 15] 3 goRound0 (unpack 226 [2, 7, 8, 9, 10, 11, 12, 13, 14, 15] (goV0 a n) (goHR G a N C t l (gAt x 3) y r))).get = some (.normal, goV0 a ((n + 1 : Nat) : Int), goHR G a N C (rtch N r t) (rmem N l r) (gAt x 3) y (rstep N l r)) := by
  have e : gqR N l (gAt x 3) r = gAt x 3 := by unfold gqR; rw [hr]; rfl
  have e2 : ((gAt x 3).st == 4) = false := rfl
  rw [go_treeR, decide_eq_true (by omega), bt_of (by rw [h]; unfold gOKR; rw [hf]; rfl), e, e2, w64_succ (by omega)]; rfl
theorem go_exitR (hn : n < 9) (h : okM N l = true) (hf : rOK r.f = true) (hr : rret N l r = true) (hs : (rstep N l r).sw = true) :
    (roundV glEnv 40 noLps 226 [2, 7, 8, 9, 10, 11, 12, 13, 14, 15] 3 goRound0 (unpack 226 [2, 7, 8, 9, 10, 11, 12, 13, 14, 15] (goV0 a n) (goHR G a N C t l (gAt x 3) y r))).get = some (.exit 0, goV0 a n, goHR G a N C (rtch N r t) (rmem N l r) (gEnd (gAt x 3) 0) y (rstep N l r)) := by
  have e : gqR N l (gAt x 3) r = gEnd (gAt x 3) 0 := by unfold gqR; rw [hr, hs]; rfl
  have e2 : ((gEnd (gAt x 3) 0).st == 4) = true := rfl
  rw [go_treeR, decide_eq_true (by omega), bt_of (by rw [h]; unfold gOKR; rw [hf]; rfl), e, e2]; rfl
variable {S : Nat} {D : Nat → Slt} {e : Int}
theorem go_step2 {y : Gq} (hn : n < 20) (h : okM N l = true) (ho : gOKN y.st = true) (hg : gGoes N l y = false) (hr : gret N l y = false) :
    (roundV glEnv 40 noLps 226 [2, 7, 8, 9, 10, 11, 12, 14, 15, 16, 18] 3 goRound2 (unpack 226 [2, 7, 8, 9, 10, 11, 12, 14, 15, 16, 18] (goV2 a S n e) (goH2 G a N C S D t l y))).get = some (.normal, goV2 a S ((n + 1 : Nat) : Int) e, goH2 G a N C S D (gtch N y t) (gmem N l y) (gq N l y)) := by
  rw [go_tree2, decide_eq_true (by omega), bt_of (by rw [h, ho]; rfl), hg, hr, w64_succ (by omega)]; rfl
theorem go_exit2 {y : Gq} (hn : n < 20) (h : okM N l = true) (ho : gOKN y.st = true) (hg : gGoes N l y = false) (hr : gret N l y = true) :
    (roundV glEnv 40 noLps 226 [2, 7, 8, 9, 10, 11, 12, 14, 15, 16, 18] 3 goRound2 (unpack 226 [2, 7, 8, 9, 10, 11, 12, 14, 15, 16, 18] (goV2 a S n e) (goH2 G a N C S D t l y))).get = some (.exit 2, goV2 a S n e, goH2 G a N C S D (gtch N y t) (gmem N l y) (gq N l y)) := by
  rw [go_tree2, decide_eq_true (by omega), bt_of (by rw [h, ho]; rfl), hg, hr]; rfl
end
/-! ### Where the steps lead -/
theorem g_closed {N : Nat} {l : List Int} {q : Gq} (h : q.st = 0) (hc : ldS N l 0 = 2) : gOKN q.st = true ∧ gGoes N l q = false ∧ gret N l q = true ∧ gmem N l q = l ∧ gq N l q = gEnd (gCl q 2) 5 := by
  have e : gq N l q = gEnd (gCl q 2) 5 := by rw [gq_0 h, hc]; rfl
  exact ⟨by rw [h]; rfl, gGoes_0 h, by unfold gret; rw [e]; rfl, gmem_0 h, e⟩
theorem g_open {N : Nat} {l : List Int} {q : Gq} (h : q.st = 0) {c : Int} (hc : ldS N l 0 = c) (h2 : c ≠ 2) : gOKN q.st = true ∧ gGoes N l q = false ∧ gret N l q = false ∧ gmem N l q = l ∧ gq N l q = gAt (gCl q c) 1 := by
  have e : gq N l q = gAt (gCl q c) 1 := by rw [gq_0 h, hc, show (c == 2) = false from beq_eq_false_iff_ne.2 h2]; rfl
  exact ⟨by rw [h]; rfl, gGoes_0 h, by unfold gret; rw [e]; rfl, gmem_0 h, e⟩
theorem g_look {N : Nat} {l : List Int} {q : Gq} (h : q.st = 1) (hc : ¬ gCell q < 0) {w : Int} (hw : ldS N l (gCell q) = w) {k : Nat} (hk : lookC (decS w) q = k) : gOKN q.st = true ∧ gGoes N l q = Nat.beq k 2 ∧ gmem N l q = l ∧
    gq N l q = bif Nat.beq k 0 then gEnd (gWd q w) 2 else bif Nat.beq k 1 then gEnd (gWd q w) 8 else bif Nat.beq k 2 then gAt (gWd q w) 3 else gAt (gWd q w) 2 := by
  have hl : gLk N l q = k := by unfold gLk; rw [hw]; exact hk
  exact ⟨by rw [h]; rfl, by rw [gGoes_1 h, decide_eq_false hc, hl]; rfl, gmem_1 h, by rw [gq_1 h, decide_eq_false hc, hl, hw]; rfl⟩
theorem look_own {s : Slt} {q : Gq} (h3 : s.st = 3) (ho : s.own = q.w) (hg : s.gen = q.gen) : lookC (some s) q = bif s.str != 0 && !q.disc then 1 else bif q.disc || (s.brk || (decide (s.uses ≥ q.cf.u) || q.cl != 0)) then 2 else 3 := by
  unfold lookC lookK slt0
  simp only [Option.getD_some, Option.isSome_some, Bool.not_true, cond_false]
  rw [h3, ho, hg, bne_self_eq_false, bne_self_eq_false, bne_self_eq_false]
  simp only [cond_false]
  cases (s.str != 0) <;> cases q.disc <;> cases s.brk <;> cases decide (s.uses ≥ q.cf.u) <;> cases (q.cl != 0) <;> rfl
theorem look_not {s : Slt} {q : Gq} (h3 : s.st ≠ 3) : lookC (some s) q = 0 := by
  unfold lookC lookK slt0
  simp only [Option.getD_some, Option.isSome_some, Bool.not_true, cond_false]
  rw [show (s.st != 3) = true from bne_iff_ne.2 h3]; rfl
theorem next_rest {s : Slt} (F : Facts s) (h3 : s.st = 3) (hs : s.str = 0) : nextS s 4 s.own 0 = some { s with st := 2, ver := (s.ver + 1) % 32768 } := by
  have := F.own
  rw [next_of F (by omega) (by omega)]
  unfold rowS row4
  simp only [show ¬ (4 : Int) = 0 by decide, show ¬ (4 : Int) = 1 by decide, show ¬ (4 : Int) = 2 by decide, show ¬ (4 : Int) = 3 by decide, if_false, if_true]
  rw [if_pos (by simp [h3, hs])]; rfl
theorem ep0_of {α : Type} {cf : Cf} (hc : RightC cf) {l : List Int} (hok : okM (cntN cf) l = true) {K : Option α} : ep0 (cntN cf) l K = K := by
  obtain ⟨g1, _, _⟩ := okM_iff.1 hok
  have := hc.cntN
  unfold ep0
  rw [bt_of (by unfold inRange; simp; omega), bt_of (by rw [Nat.blt_eq]; show 0 + 0 < _; omega)]
theorem ixS {α : Type} {S : Nat} {i : Nat} {K : Option α} (h : i < S) : ixR i S S K = K := ixR_in rfl h
/-! ### The second one -/
theorem y_closed (G : Gv) (a : GoA) {N : Nat} (C S : Nat) (D : Nat → Slt) (t : Int) {l : List Int} {q : Gq} {n : Nat} (e : Int) (hn : n < 20) (hok : okM N l = true) (h : q.st = 0) (hc : ldS N l 0 = 2) :
    GoLp 2 [2, 7, 8, 9, 10, 11, 12, 14, 15, 16, 18] [2, 7, 8, 9, 10, 11, 14, 16, 18] (goV2 a S n e) (goH2 G a N C S D t l q) (goO2 G a S D (gEnd (gCl q 2) 5) e) := fun X w0 hE => by
  obtain ⟨c1, c2, c3, c4, c5⟩ := g_closed h hc
  have h1 := go_exit2 G a C t (S := S) (D := D) (e := e) hn hok c1 c2 c3
  rw [c4, c5] at h1
  rw [go_loop2]
  exact (LoopRunsB.exit (round_runs hE (noLps_ok _) h1 (Nat.zero_le _) (show 3 ≤ 10 by decide)) (by simp)).runs.block_exit.norm (go_norm2 G a N C S D _ l _ n e) (Nat.zero_le _)
theorem y_look (G : Gv) (a : GoA) {N : Nat} (C S : Nat) (D : Nat → Slt) (t : Int) {l : List Int} {q : Gq} {n : Nat} (e : Int) (hn : n < 19) (hok : okM N l = true) (h : q.st = 0) {c : Int} (hc : ldS N l 0 = c) (h2 : c ≠ 2) (hcell : ¬ gCell q < 0) {w : Int} (hw : ldS N l (gCell q) = w) {k : Nat} (hk : lookC (decS w) (gAt (gCl q c) 1) = k) (hk2 : k = 0 ∨ k = 1) :
    GoLp 2 [2, 7, 8, 9, 10, 11, 12, 14, 15, 16, 18] [2, 7, 8, 9, 10, 11, 14, 16, 18] (goV2 a S n e) (goH2 G a N C S D t l q) (goO2 G a S D (gEnd (gWd (gAt (gCl q c) 1) w) (bif Nat.beq k 0 then 2 else 8)) e) := fun X w0 hE => by
  obtain ⟨c1, c2, c3, c4, c5⟩ := g_open h hc h2
  have h1 := go_step2 G a C t (S := S) (D := D) (e := e) (show n < 20 by omega) hok c1 c2 c3
  rw [c4, c5] at h1
  obtain ⟨d1, d2, d4, d5⟩ := g_look (q := gAt (gCl q c) 1) rfl hcell hw hk
  have d2' : gGoes N l (gAt (gCl q c) 1) = false := by rw [d2]; rcases hk2 with rfl | rfl <;> rfl
  have d5' : gq N l (gAt (gCl q c) 1) = gEnd (gWd (gAt (gCl q c) 1) w) (bif Nat.beq k 0 then 2 else 8) := by rw [d5]; rcases hk2 with rfl | rfl <;> rfl
  have d3' : gret N l (gAt (gCl q c) 1) = true := by unfold gret; rw [d5']; rfl
  have h3 := go_exit2 G a C (gtch N q t) (S := S) (D := D) (e := e) (show n + 1 < 20 by omega) hok d1 d2' d3'
  rw [d4, d5'] at h3
  rw [go_loop2]
  have hb : 3 ≤ 10 := by decide
  exact (LoopRunsB.step (round_runs hE (noLps_ok _) h1 (Nat.zero_le _) hb) (LoopRunsB.exit (round_runs hE (noLps_ok _) h3 (Nat.zero_le _) hb) (by simp))).runs.block_exit.norm (go_norm2 G a N C S D _ l _ _ e) (Nat.zero_le _)
/-! ### The first one -/
theorem x_closed (G : Gv) (a : GoA) {N : Nat} (C : Nat) (t : Int) {l : List Int} {q : Gq} (y : Gq) (hok : okM N l = true) (h : q.st = 0) (hc : ldS N l 0 = 2) :
    GoLp 0 [2, 7, 8, 9, 10, 11, 12, 13, 14, 15] [2, 7, 8, 9, 10, 11, 12, 13, 14, 15] (goV0 a 0) (goHN G a N C t l q y) (.normal, goV0 a (0 : Nat), goHN G a N C (gtch N q t) l (gEnd (gCl q 2) 5) y) := fun X w0 hE => by
  obtain ⟨c1, c2, c3, c4, c5⟩ := g_closed h hc
  have h1 := go_exitN G a C t y (n := 0) (by decide) hok c1 c2 c3
  rw [c4, c5] at h1
  rw [go_loop0]
  exact (LoopRunsB.exit (round_runs hE (noLps_ok _) h1 (Nat.zero_le _) (show 3 ≤ 10 by decide)) (by simp)).runs.block_exit.norm (go_norm0N G a N C _ l _ y _) (Nat.zero_le _)
theorem x_busy (G : Gv) (a : GoA) {N : Nat} (C : Nat) (t : Int) {l : List Int} {q : Gq} (y : Gq) (hok : okM N l = true) (h : q.st = 0) {c : Int} (hc : ldS N l 0 = c) (h2 : c ≠ 2) (hcell : ¬ gCell q < 0) {w : Int} (hw : ldS N l (gCell q) = w) (hk : lookC (decS w) (gAt (gCl q c) 1) = 1) :
    GoLp 0 [2, 7, 8, 9, 10, 11, 12, 13, 14, 15] [2, 7, 8, 9, 10, 11, 12, 13, 14, 15] (goV0 a 0) (goHN G a N C t l q y) (.normal, goV0 a (1 : Nat), goHN G a N C (gtch N (gAt (gCl q c) 1) (gtch N q t)) l (gEnd (gWd (gAt (gCl q c) 1) w) 8) y) := fun X w0 hE => by
  obtain ⟨c1, c2, c3, c4, c5⟩ := g_open h hc h2
  have h1 := go_stepN G a C t y (n := 0) (by decide) hok c1 c2 c3
  rw [c4, c5] at h1
  obtain ⟨d1, d2, d4, d5⟩ := g_look (q := gAt (gCl q c) 1) rfl hcell hw hk
  have d5' : gq N l (gAt (gCl q c) 1) = gEnd (gWd (gAt (gCl q c) 1) w) 8 := d5
  have d3' : gret N l (gAt (gCl q c) 1) = true := by unfold gret; rw [d5']; rfl
  have h3 := go_exitN G a C (gtch N q t) y (n := 1) (by decide) hok d1 d2 d3'
  rw [d4, d5'] at h3
  rw [go_loop0]
  have hb : 3 ≤ 10 := by decide
  exact (LoopRunsB.step (round_runs hE (noLps_ok _) h1 (Nat.zero_le _) hb) (LoopRunsB.exit (round_runs hE (noLps_ok _) h3 (Nat.zero_le _) hb) (by simp))).runs.block_exit.norm (go_norm0N G a N C _ l _ y _) (Nat.zero_le _)
theorem x_rest (G : Gv) (a : GoA) {N : Nat} (C : Nat) (t : Int) {l : List Int} {q : Gq} (y : Gq) (hok : okM N l = true) (h : q.st = 0) {c : Int} (hc : ldS N l 0 = c) (h2 : c ≠ 2) (hcell : ¬ gCell q < 0) {w : Int} (hw : ldS N l (gCell q) = w) (hk : lookC (decS w) (gAt (gCl q c) 1) = 3)
    {w1 : Int} (ha : aftS decS w 4 q.w 0 = some w1) (hcas : casB N l (gCell q) w = true) :
    GoLp 0 [2, 7, 8, 9, 10, 11, 12, 13, 14, 15] [2, 7, 8, 9, 10, 11, 12, 13, 14, 15] (goV0 a 0) (goHN G a N C t l q y) (.normal, goV0 a (2 : Nat), goHN G a N C (gtch N (gAt (gWd (gAt (gCl q c) 1) w) 2) (gtch N (gAt (gCl q c) 1) (gtch N q t))) (casS N l (gCell q) w w1) (gEnd (gAt (gWd (gAt (gCl q c) 1) w) 2) 0) y) := fun X w0 hE => by
  obtain ⟨c1, c2, c3, c4, c5⟩ := g_open h hc h2
  have h1 := go_stepN G a C t y (n := 0) (by decide) hok c1 c2 c3
  rw [c4, c5] at h1
  obtain ⟨d1, d2, d4, d5⟩ := g_look (q := gAt (gCl q c) 1) rfl hcell hw hk
  have d5' : gq N l (gAt (gCl q c) 1) = gAt (gWd (gAt (gCl q c) 1) w) 2 := d5
  have d3' : gret N l (gAt (gCl q c) 1) = false := by unfold gret; rw [d5']; rfl
  have h3 := go_stepN G a C (gtch N q t) y (n := 1) (by decide) hok d1 d2 d3'
  rw [d4, d5'] at h3
  have ea : gAft (gAt (gWd (gAt (gCl q c) 1) w) 2) = some w1 := ha
  have eh : gHit N l (gAt (gWd (gAt (gCl q c) 1) w) 2) = true := by unfold gHit; rw [ea]; exact hcas
  have f5 : gq N l (gAt (gWd (gAt (gCl q c) 1) w) 2) = gEnd (gAt (gWd (gAt (gCl q c) 1) w) 2) 0 := by rw [gq_2 rfl, eh]; rfl
  have f4 : gmem N l (gAt (gWd (gAt (gCl q c) 1) w) 2) = casS N l (gCell q) w w1 := by rw [gmem_2 rfl, ea]; rfl
  have f3 : gret N l (gAt (gWd (gAt (gCl q c) 1) w) 2) = true := by unfold gret; rw [f5]; rfl
  have h4 := go_exitN G a C (gtch N (gAt (gCl q c) 1) (gtch N q t)) y (n := 2) (by decide) hok (show gOKN (gAt (gWd (gAt (gCl q c) 1) w) 2).st = true from rfl) (gGoes_2 rfl) f3
  rw [f4, f5] at h4
  rw [go_loop0]
  have hb : 3 ≤ 10 := by decide
  exact (LoopRunsB.step (round_runs hE (noLps_ok _) h1 (Nat.zero_le _) hb) (LoopRunsB.step (round_runs hE (noLps_ok _) h3 (Nat.zero_le _) hb) (LoopRunsB.exit (round_runs hE (noLps_ok _) h4 (Nat.zero_le _) hb) (by simp)))).runs.block_exit.norm (go_norm0N G a N C _ _ _ y _) (Nat.zero_le _)
/-- The four steps of a Retire that nobody else hinders. -/
structure Alone (R : Race) (r0 r4 : Rq) (t0 t4 : Int) : Prop where
  run : ∀ (G : Gv) (a : GoA) (C : Nat) (x y : Gq) (X : Nat → Prop) (w0 : World), EnvOK glEnv X w0 → LoopRunsB Tryd.prog X w0 0 3 goRound0 (unpack 226 [2, 7, 8, 9, 10, 11, 12, 13, 14, 15] (goV0 a ((2 : Nat) : Int)) (goHR G a R.N C t0 R.l0 (gAt x 3) y r0)) (.exit 0) (unpack 226 [2, 7, 8, 9, 10, 11, 12, 13, 14, 15] (goV0 a ((5 : Nat) : Int)) (goHR G a R.N C t4 R.l3 (gEnd (gAt x 3) 0) y r4))
theorem okM_len {N : Nat} {l m : List Int} (h : okM N l = true) (hl : m.length = l.length) : okM N m = true := by unfold okM at *; rw [hl]; exact h
theorem alone {R : Race} (hR : R.OK) (hok : okM R.N R.l0 = true) {r : Rq} (h : Fresh R r) (t0 : Int) : ∃ r4 t4, Alone R r r4 t0 t4 := by
  have w1 := win_first hR h
  have e1 : (rstep R.N R.l0 r).f = fLook ∧ rmem R.N R.l0 r = R.l1 := by
    have hn : rNext r = some R.w1 := by unfold rNext; rw [h.wd]; exact hR.a1
    obtain ⟨g1, g2⟩ := hR.at_.cas_yes hR.w0 R.w1
    have hh : rHit R.N R.l0 r = true := by unfold rHit; rw [hn, h.cell, h.wd, g1]; rfl
    rw [rstep_swap h.f, rmem_swap h.f, hh, hn, h.wd, h.cell]
    exact ⟨rfl, g2⟩
  have ret0 : rret R.N R.l0 r = false := by
    have hn : rNext r = some R.w1 := by unfold rNext; rw [h.wd]; exact hR.a1
    obtain ⟨g1, _⟩ := hR.at_.cas_yes hR.w0 R.w1
    have hh : rHit R.N R.l0 r = true := by unfold rHit; rw [hn, h.cell, h.wd, g1]; rfl
    rw [rret_swap h.f, hh]; rfl
  have k1 : okM R.N R.l1 = true := okM_len hok (by unfold Race.l1; rw [List.length_set])
  have k2 : okM R.N R.l2 = true := okM_len hok (by unfold Race.l2; rw [List.length_set])
  rw [e1.2] at w1
  have w2 := win_step hR w1
  have e2 : (rstep R.N R.l1 (rstep R.N R.l0 r)).f = fAge ∧ rmem R.N R.l1 (rstep R.N R.l0 r) = R.l1 := by rw [rstep_look e1.1, rmem_look e1.1]; exact ⟨rfl, rfl⟩
  have ret1 : rret R.N R.l1 (rstep R.N R.l0 r) = false := rret_look e1.1
  rw [e2.2] at w2
  have w3 := win_step hR w2
  have e3 : (rstep R.N R.l1 (rstep R.N R.l1 (rstep R.N R.l0 r))).f = fGoOn := by rw [rstep_age e2.1]
  have m3 : rmem R.N R.l1 (rstep R.N R.l1 (rstep R.N R.l0 r)) = R.l2 := by
    rcases w3.ph with ⟨e, _⟩ | ⟨e, _⟩ | ⟨_, e⟩ | ⟨e, _⟩
    · rw [e3] at e; exact absurd e (by decide)
    · rw [e3] at e; exact absurd e (by decide)
    · exact e
    · rw [e3] at e; exact absurd e (by decide)
  have ret2 : rret R.N R.l1 (rstep R.N R.l1 (rstep R.N R.l0 r)) = false := rret_age e2.1
  rw [m3] at w3
  have w4 := win_step hR w3
  have e4 : (rstep R.N R.l2 (rstep R.N R.l1 (rstep R.N R.l1 (rstep R.N R.l0 r)))).f = fEnd := by rw [rstep_go e3]; rfl
  have m4 : rmem R.N R.l2 (rstep R.N R.l1 (rstep R.N R.l1 (rstep R.N R.l0 r))) = R.l3 := (win_end w4 e4).2
  have ret3 : rret R.N R.l2 (rstep R.N R.l1 (rstep R.N R.l1 (rstep R.N R.l0 r))) = true := rret_go e3
  refine ⟨rstep R.N R.l2 (rstep R.N R.l1 (rstep R.N R.l1 (rstep R.N R.l0 r))), rtch R.N (rstep R.N R.l1 (rstep R.N R.l1 (rstep R.N R.l0 r))) (rtch R.N (rstep R.N R.l1 (rstep R.N R.l0 r)) (rtch R.N (rstep R.N R.l0 r) (rtch R.N r t0))), ⟨fun G a C x y X w0 hE => ?_⟩⟩
  have s0 := go_stepR G a C t0 (x := x) y (n := 2) (by decide) hok (by rw [h.f]; rfl) ret0
  rw [e1.2] at s0
  have s1 := go_stepR G a C (rtch R.N r t0) (x := x) y (n := 3) (by decide) k1 (by rw [e1.1]; rfl) ret1
  rw [e2.2] at s1
  have s2 := go_stepR G a C (rtch R.N (rstep R.N R.l0 r) (rtch R.N r t0)) (x := x) y (n := 4) (by decide) k1 (by rw [e2.1]; rfl) ret2
  rw [m3] at s2
  have s3 := go_exitR G a C (rtch R.N (rstep R.N R.l1 (rstep R.N R.l0 r)) (rtch R.N (rstep R.N R.l0 r) (rtch R.N r t0))) (x := x) y (n := 5) (by decide) k2 (by rw [e3]; rfl) ret3 w4.sw
  rw [m4] at s3
  have hb : 3 ≤ 11 := by decide
  exact LoopRunsB.step (round_runs hE (noLps_ok _) s0 (Nat.zero_le _) hb) (LoopRunsB.step (round_runs hE (noLps_ok _) s1 (Nat.zero_le _) hb) (LoopRunsB.step (round_runs hE (noLps_ok _) s2 (Nat.zero_le _) hb) (LoopRunsB.exit (round_runs hE (noLps_ok _) s3 (Nat.zero_le _) hb) (by simp))))
theorem x_goes (G : Gv) (a : GoA) {R : Race} (hR : R.OK) (C : Nat) (t : Int) {q : Gq} (y : Gq) (hok : okM R.N R.l0 = true) (h : q.st = 0) {c : Int} (hc : ldS R.N R.l0 0 = c) (h2 : c ≠ 2) (hcell : ¬ gCell q < 0) (hq : gCell q = R.c) (hk : lookC (decS R.w0) (gAt (gCl q c) 1) = 2) :
    ∃ r4 t4, GoLp 0 [2, 7, 8, 9, 10, 11, 12, 13, 14, 15] [2, 7, 8, 9, 10, 11, 12, 13, 14, 15] (goV0 a 0) (goHN G a R.N C t R.l0 q y) (.normal, goV0 a (5 : Nat), goHR G a R.N C t4 R.l3 (gEnd (gAt (gWd (gAt (gCl q c) 1) R.w0) 3) 0) y r4) := by
  obtain ⟨c1, c2, c3, c4, c5⟩ := g_open h hc h2
  have h1 := go_stepN G a C t y (n := 0) (by decide) hok c1 c2 c3
  rw [c4, c5] at h1
  have hw : ldS R.N R.l0 (gCell (gAt (gCl q c) 1)) = R.w0 := by rw [show gCell (gAt (gCl q c) 1) = R.c from hq, hR.at_.ld]; exact hR.w0
  obtain ⟨d1, d2, d4, d5⟩ := g_look (q := gAt (gCl q c) 1) rfl hcell hw hk
  have d5' : gq R.N R.l0 (gAt (gCl q c) 1) = gAt (gAt (gWd (gAt (gCl q c) 1) R.w0) 3) 3 := d5
  have h3 := go_goN G a C (gtch R.N q t) y (n := 1) (by decide) hok d1 d2
  rw [d4, d5'] at h3
  have hfr : Fresh R (gNew R.N R.l0 (gAt (gCl q c) 1)) := ⟨hq, hw, rfl, rfl⟩
  obtain ⟨r4, t4, hA⟩ := alone hR hok hfr (gtch R.N (gAt (gCl q c) 1) (gtch R.N q t))
  refine ⟨r4, t4, fun X w0 hE => ?_⟩
  have h4 := hA.run G a C (gAt (gWd (gAt (gCl q c) 1) R.w0) 3) y X w0 hE
  rw [go_loop0]
  have hb : 3 ≤ 10 := by decide
  exact (LoopRunsB.step (round_runs hE (noLps_ok _) h1 (Nat.zero_le _) hb) (LoopRunsB.step (round_runs hE (noLps_ok _) h3 (Nat.zero_le _) hb) h4)).runs.block_exit.norm (go_norm0R G a R.N C _ _ _ y _ _) (Nat.zero_le _)
end Go.Proofs.YthfoljgaiincdaaDoor
