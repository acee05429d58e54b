
/- GiveStranger: the whole. No condition of its own. -/
import Derived.Test.YthfoljgaiincdaaDoorGiveStrT
namespace Go.Proofs.YthfoljgaiincdaaDoor
open Go.RowKit Go.Fld Go.Sx
set_option linter.unusedVariables false
set_option linter.unusedSimpArgs false
def wsI (l0 : List Int) (gi : Nat → Nat → Int) : Nat → List Int
  | 0 => l0
  | j + 1 => wsI l0 gi j ++ [gi j 2]
theorem wsI_length (l0 : List Int) (gi : Nat → Nat → Int) : ∀ j, (wsI l0 gi j).length = l0.length + j
  | 0 => rfl
  | j + 1 => by unfold wsI; rw [List.length_append, wsI_length l0 gi j]; rfl
theorem wsI_old {x : Int} {l0 : List Int} (gi : Nat → Nat → Int) (h : x ∈ l0) : ∀ j, x ∈ wsI l0 gi j
  | 0 => h
  | j + 1 => List.mem_append_left _ (wsI_old gi h j)
theorem wsI_new (l0 : List Int) (gi : Nat → Nat → Int) {i : Nat} : ∀ j, i < j → gi i 2 ∈ wsI l0 gi j
  | 0, h => by omega
  | j + 1, h => by
    unfold wsI
    by_cases e : i = j
    · subst e; exact List.mem_append_right _ (by simp)
    · exact List.mem_append_left _ (wsI_new l0 gi j (by omega))
theorem gs_rounds0 {X : Nat → Prop} {w0 : World} (hE : EnvOK glEnv X w0) (a : GsA) (G : Gv) (W : Wv) (cf : Cf) (l0 : List Int) (hn : W.nl ≤ 20) (hl : l0.length ≤ 1000) : ∀ (m j : Nat), j + m = W.nl →
    LoopRunsB Tryd.prog X w0 0 4 gsRound0 (unpack 143 [2, 3, 4, 5, 13, 14, 15, 16, 17, 18] (gsV0 a W (l0.length + j) j) (gsH0 G W cf l0 (wsI l0 W.gi j))) (.exit 0) (unpack 143 [2, 3, 4, 5, 13, 14, 15, 16, 17, 18] (gsV0 a W (l0.length + W.nl) W.nl) (gsH0 G W cf l0 (wsI l0 W.gi W.nl)))
  | 0, j, hj => by
    obtain rfl : j = W.nl := by omega
    have ht := gs_tree0 a G W cf l0 (wsI l0 W.gi W.nl) (l0.length + W.nl) W.nl
    rw [decide_eq_false (by omega)] at ht
    exact LoopRunsB.exit (round_runs hE (noLps_ok _) ht (Nat.zero_le _) (show 4 ≤ 7 by decide)) (by simp)
  | m + 1, j, hj => by
    have ht := gs_tree0 a G W cf l0 (wsI l0 W.gi j) (l0.length + j) j
    rw [decide_eq_true (by omega), ixR_in rfl (by omega), Int.toNat_natCast, w64_succ (by omega), bt_of (by rw [wsI_length]; exact Nat.beq_refl _), bt_of (show smallN (l0.length + j + 1) = true from Nat.ble_eq_true_of_le (by omega))] at ht
    exact LoopRunsB.step (round_runs hE (noLps_ok _) ht (Nat.zero_le _) (show 4 ≤ 7 by decide)) (gs_rounds0 hE a G W cf l0 hn hl m (j + 1) (by omega))
theorem isLease_parts {k gen x : Int} : isLease k gen x = true ↔ (decA x).isSome = true ∧ (slt0 (decA x)).st = 3 ∧ (slt0 (decA x)).own = k ∧ (slt0 (decA x)).gen = gen := by
  unfold isLease
  cases (decA x).isSome with
  | false => simp
  | true =>
    cases h1 : ((slt0 (decA x)).st == 3) with
    | false => simp at h1; simp [h1]
    | true =>
      cases h2 : ((slt0 (decA x)).own == k) with
      | false => simp at h1 h2; simp [h1, h2]
      | true => simp at h1 h2; simp [h1, h2]
theorem gs_rounds2 {X : Nat → Prop} {w0 : World} (hE : EnvOK glEnv X w0) (a : GsA) (G : Gv) (W : Wv) (cf : Cf) (l0 ws : List Int) (hm : ws.length ≤ 2000) : ∀ (m j : Nat), j + m = ws.length →
    (∃ j' : Nat, j' < ws.length ∧ isLease a.k a.gen (ws.getD j' 0) = true ∧ LoopRunsB Tryd.prog X w0 0 4 gsRound2 (unpack 143 [2, 3, 4, 5, 12, 13, 14, 15, 16, 17, 19] (gsV2 a W undef ws.length j) (gsH0 G W cf l0 ws)) .ret (unpack 143 [2, 3, 4, 5, 12, 13, 14, 15, 16, 17, 19] (gsV2 a W (.bool true) ws.length j') (gsH0 G W cf l0 ws))) ∨
    ((∀ i : Nat, j ≤ i → i < ws.length → isLease a.k a.gen (ws.getD i 0) = false) ∧ LoopRunsB Tryd.prog X w0 0 4 gsRound2 (unpack 143 [2, 3, 4, 5, 12, 13, 14, 15, 16, 17, 19] (gsV2 a W undef ws.length j) (gsH0 G W cf l0 ws)) (.exit 2) (unpack 143 [2, 3, 4, 5, 12, 13, 14, 15, 16, 17, 19] (gsV2 a W undef ws.length ws.length) (gsH0 G W cf l0 ws)))
  | 0, j, hj => by
    obtain rfl : j = ws.length := by omega
    have ht := gs_tree2 a G W cf l0 ws ws.length ws.length
    rw [decide_eq_false (by omega)] at ht
    exact .inr ⟨fun i h1 h2 => by omega, LoopRunsB.exit (round_runs hE (noLps_ok _) ht (Nat.zero_le _) (show 4 ≤ 7 by decide)) (by simp)⟩
  | m + 1, j, hj => by
    have ht := gs_tree2 a G W cf l0 ws ws.length j
    rw [decide_eq_true (by omega), Int.toNat_natCast, w64_succ (by omega), bt_of (by unfold inRange; simp; omega), bt_of (by rw [Nat.blt_eq]; omega)] at ht
    cases hi : isLease a.k a.gen (ws.getD j 0) with
    | true =>
      obtain ⟨e1, e2, e3, e4⟩ := isLease_parts.1 hi
      rw [e1, e2, e3, e4, beq_self_eq_true, beq_self_eq_true, beq_self_eq_true] at ht
      exact .inl ⟨j, by omega, hi, LoopRunsB.exit (round_runs hE (noLps_ok _) ht (Nat.zero_le _) (show 4 ≤ 7 by decide)) (by simp)⟩
    | false =>
      have ht2 : (roundV glEnv 40 noLps 143 [2, 3, 4, 5, 12, 13, 14, 15, 16, 17, 19] 4 gsRound2 (unpack 143 [2, 3, 4, 5, 12, 13, 14, 15, 16, 17, 19] (gsV2 a W undef ws.length j) (gsH0 G W cf l0 ws))).get = some (.normal, gsV2 a W undef ws.length ((j + 1 : Nat) : Int), gsH0 G W cf l0 ws) := by
        refine ht.trans ?_
        unfold isLease at hi
        cases h0 : (decA (ws.getD j 0)).isSome with
        | false => rfl
        | true =>
          cases h1 : ((slt0 (decA (ws.getD j 0))).st == 3) with
          | false => rfl
          | true =>
            cases h2 : ((slt0 (decA (ws.getD j 0))).own == a.k) with
            | false => rfl
            | true =>
              cases h3 : ((slt0 (decA (ws.getD j 0))).gen == a.gen) with
              | false => rfl
              | true => rw [h0, h1, h2, h3] at hi; cases hi
      have hr := round_runs hE (noLps_ok _) ht2 (Nat.zero_le _) (show 4 ≤ 7 by decide)
      rcases gs_rounds2 hE a G W cf l0 ws hm m (j + 1) (by omega) with ⟨j', g1, g2, h⟩ | ⟨h1, h2⟩
      · exact .inl ⟨j', g1, g2, LoopRunsB.step hr h⟩
      · refine .inr ⟨fun i g1 g2 => ?_, LoopRunsB.step hr h2⟩
        by_cases e : i = j
        · subst e; exact hi
        · exact h1 i (by omega) g2
/-! ### The third loop -/
def AllP (P : Int → Prop) (l : List Int) : Prop := ∀ x ∈ l, P x
theorem AllP.set {P : Int → Prop} {l : List Int} (h : AllP P l) (k : Nat) {v : Int} (hv : P v) : AllP P (l.set k v) := fun x hx => by
  rcases List.mem_or_eq_of_mem_set hx with hx | rfl
  · exact h x hx
  · exact hv
theorem AllP.wrs {P : Int → Prop} {l : List Int} (h : AllP P l) (N : Nat) (gi : Nat → Nat → Int) (step : Int) : ∀ k, (∀ i, i < k → P (gi i 2)) → AllP P (wrsL N gi step k l)
  | 0, _ => h
  | k + 1, hw => by
    have ih := AllP.wrs h N gi step k fun i hi => hw i (by omega)
    unfold wrsL
    split
    · unfold stS
      split
      · exact ih.set _ (hw k (by omega))
      · exact ih
    · exact ih
theorem look_other {d : Option Slt} {q : Gq} (h : (bif d.isSome then (bif (slt0 d).st == 3 then (bif (slt0 d).own == q.w then (slt0 d).gen == q.gen else false) else false) else false) = false) : lookC d q = 0 := by
  unfold lookC lookK bne
  cases h0 : d.isSome with
  | false => rfl
  | true =>
    rw [h0] at h
    cases h1 : ((slt0 d).st == 3) with
    | false => rfl
    | true =>
      rw [h1] at h
      cases h2 : ((slt0 d).own == q.w) with
      | false => rfl
      | true =>
        rw [h2] at h
        simp only [cond_true] at h
        rw [h]; rfl
structure GsInv (N : Nat) (cf : Cf) (k gen : Int) (l : List Int) (q : Gq) (j : Nat) : Prop where
  ok : okM N l = true
  I : AllI l
  no : AllP (fun x => isLease k gen x = false) l
  cf : q.cf = cf
  w : q.w = k
  gen : q.gen = gen
  st : (j = 0 ∧ q.st = 0) ∨ (j = 1 ∧ q.st = 1) ∨ (1 ≤ j ∧ q.st = 4 ∧ (q.e = 2 ∨ q.e = 5))
theorem ldS_mem {n : Nat} {l : List Int} {i : Int} (h : n = l.length) (hi : inR n i = true) : ldS n l i ∈ l := by
  unfold ldS
  rw [if_pos hi]
  unfold inR at hi
  simp only [Bool.and_eq_true, decide_eq_true_eq] at hi
  rw [List.getD_eq_getElem?_getD, List.getElem?_eq_getElem (by omega)]
  exact List.getElem_mem _
/-- One step: nothing is changed. -/
theorem gs_step {N : Nat} {cf : Cf} (hc : RightC cf) (hN : N = cntN cf) {k gen : Int} {l : List Int} {q : Gq} {j : Nat} (H : GsInv N cf k gen l q j) : gOKN q.st = true ∧ gGoes N l q = false ∧ gmem N l q = l ∧ GsInv N cf k gen l (gq N l q) (j + 1) := by
  rcases H.st with ⟨hj, hs⟩ | ⟨hj, hs⟩ | ⟨hj, hs, he⟩
  · refine ⟨by rw [hs]; rfl, gGoes_0 hs, gmem_0 hs, ?_⟩
    rw [gq_0 hs]
    cases hcl : (ldS N l 0 == 2) with
    | true => exact ⟨H.ok, H.I, H.no, H.cf, H.w, H.gen, .inr (.inr ⟨by omega, rfl, .inr rfl⟩)⟩
    | false => exact ⟨H.ok, H.I, H.no, H.cf, H.w, H.gen, .inr (.inl ⟨by omega, rfl⟩)⟩
  · by_cases hneg : gCell q < 0
    · refine ⟨by rw [hs]; rfl, ?_, gmem_1 hs, ?_⟩
      · rw [gGoes_1 hs, decide_eq_true hneg]; rfl
      · rw [gq_1 hs, decide_eq_true hneg]
        exact ⟨H.ok, H.I, H.no, H.cf, H.w, H.gen, .inr (.inr ⟨by omega, rfl, .inl rfl⟩)⟩
    · have hin : inR N (gCell q) = true := by
        unfold gCell at hneg ⊢
        rw [H.cf] at hneg ⊢
        have := hc.cntN
        by_cases hh : 0 ≤ q.i ∧ q.i < cf.s
        · have := hc.cellC hh.1 hh.2
          have := hc.w
          unfold inR; rw [decide_eq_true (by omega), decide_eq_true (by omega)]; rfl
        · rw [RightC.cellC_out hh] at hneg; omega
      obtain ⟨g1, _, _⟩ := okM_iff.1 H.ok
      have hm := ldS_mem g1 hin
      have hx := H.no _ hm
      have hlk : gLk N l q = 0 := by
        unfold gLk
        rw [← decA_eq _ (H.I _ hm)]
        apply look_other
        have hx' : isLease k gen (ldS N l (gCell q)) = false := hx
        unfold isLease at hx'
        rw [H.w, H.gen]
        exact hx'
      refine ⟨by rw [hs]; rfl, ?_, gmem_1 hs, ?_⟩
      · rw [gGoes_1 hs, decide_eq_false hneg, hlk]; rfl
      · rw [gq_1 hs, decide_eq_false hneg, hlk]
        exact ⟨H.ok, H.I, H.no, H.cf, H.w, H.gen, .inr (.inr ⟨by omega, rfl, .inl rfl⟩)⟩
  · refine ⟨by rw [hs]; rfl, gGoes_4 hs, gmem_4 hs, ?_⟩
    rw [gq_4 hs]
    exact ⟨H.ok, H.I, H.no, H.cf, H.w, H.gen, .inr (.inr ⟨by omega, hs, he⟩)⟩
structure G1s where
  l : List Int
  t : Int
  q : Gq
def g1N (N : Nat) (W : Wv) (j : Nat) (s : G1s) : G1s := ⟨wrsL N W.gi j W.nl s.l, gtch N s.q (wrsT N W.gi j W.nl s.t), gq N (wrsL N W.gi j W.nl s.l) s.q⟩
def g1Iter (N : Nat) (W : Wv) (s : G1s) : Nat → G1s
  | 0 => s
  | j + 1 => g1N N W j (g1Iter N W s j)
theorem GsInv.wrs {N : Nat} {cf : Cf} {k gen : Int} {l : List Int} {q : Gq} {j : Nat} (H : GsInv N cf k gen l q j) {W : Wv} (hw : WrI W.gi W.nl) (hn : ∀ i, i < W.nl → isLease k gen (W.gi i 2) = false) (i : Int) : GsInv N cf k gen (wrsL N W.gi i W.nl l) q j :=
  ⟨by rw [okM_wrs]; exact H.ok, H.I.wrs N W.gi i W.nl hw, H.no.wrs N W.gi i W.nl hn, H.cf, H.w, H.gen, H.st⟩
theorem g1_inv {N : Nat} {cf : Cf} (hc : RightC cf) (hN : N = cntN cf) {k gen : Int} {W : Wv} (hw : WrI W.gi W.nl) (hn : ∀ i, i < W.nl → isLease k gen (W.gi i 2) = false) {s : G1s} (H : GsInv N cf k gen s.l s.q 0) : ∀ j, GsInv N cf k gen (g1Iter N W s j).l (g1Iter N W s j).q j
  | 0 => H
  | j + 1 => (gs_step hc hN ((g1_inv hc hN hw hn H j).wrs hw hn j)).2.2.2
theorem gs_rounds4 {X : Nat → Prop} {w0 : World} (hE : EnvOK glEnv X w0) (G : Gv) (W : Wv) {N : Nat} (C : Nat) {cf : Cf} (hc : RightC cf) (hN : N = cntN cf) {k gen : Int} (hl : W.nl ≤ 20) (hw : WrI W.gi W.nl) (hn : ∀ i, i < W.nl → isLease k gen (W.gi i 2) = false) {s : G1s} (H : GsInv N cf k gen s.l s.q 0) : ∀ (m j : Nat), j + m = 4 →
    LoopRunsB Tryd.prog X w0 0 4 gsRound4 (unpack 143 [5, 13, 22, 23, 24] (gsV4 W j) (gsH4 G W N C (g1Iter N W s j).t (g1Iter N W s j).l (g1Iter N W s j).q)) (.exit 4) (unpack 143 [5, 13, 22, 23, 24] (gsV4 W 4) (gsH4 G W N C (g1Iter N W s 4).t (g1Iter N W s 4).l (g1Iter N W s 4).q))
  | 0, j, hj => by
    obtain rfl : j = 4 := by omega
    have ht := gs_tree4 G W N C (g1Iter N W s 4).t (g1Iter N W s 4).l (g1Iter N W s 4).q 4
    rw [decide_eq_false (by omega)] at ht
    exact LoopRunsB.exit (round_runs hE (noLps_ok _) ht (Nat.zero_le _) (show 4 ≤ 7 by decide)) (by simp)
  | m + 1, j, hj => by
    have H1 := g1_inv hc hN hw hn H j
    have H0 := H1.wrs hw hn (j : Int)
    obtain ⟨s1, s2, s3, s4⟩ := gs_step hc hN H0
    have hs : smallN W.nl = true := Nat.ble_eq_true_of_le (by omega)
    have ht := gs_tree4 G W N C (g1Iter N W s j).t (g1Iter N W s j).l (g1Iter N W s j).q j
    rw [decide_eq_true (by omega : (j : Int) < 4), bt_of (by rw [H1.ok, Nat.beq_refl, hs]; rfl), bt_of H0.ok, bt_of (by rw [H0.ok, s1]; rfl), s2, s3, cond_false, bt_of H0.ok, bt_of (by rw [lenOK_okM H0.ok]; rfl), decide_eq_true rfl, w64_succ (by omega)] at ht
    exact LoopRunsB.step (round_runs hE (noLps_ok _) ht (Nat.zero_le _) (show 4 ≤ 7 by decide)) (gs_rounds4 hE G W C hc hN hl hw hn H m (j + 1) (by omega))
noncomputable def gsEnv (V0 : List Value) (H0 : List Go.Sx.Blk) (o0 : Exit × List Value × List Go.Sx.Blk) (V2 : List Value) (H2 : List Go.Sx.Blk) (o2 : Exit × List Value × List Go.Sx.Blk) (V4 : List Value) (H4 : List Go.Sx.Blk) (o4 : Exit × List Value × List Go.Sx.Blk) : Env :=
  mkEnv Tryd.prog glFns [slotEq] gl1 [(12, 0, loopV 143 [2, 3, 4, 5, 13, 14, 15, 16, 17, 18] [2, 3, 4, 5, 13, 14, 15, 16, 17] (specC V0 H0 o0) 4), (12, 2, loopV 143 [2, 3, 4, 5, 12, 13, 14, 15, 16, 17, 19] [2, 3, 4, 5, 12, 13, 14, 15, 16] (specC V2 H2 o2) 4), (12, 4, loopV 143 [5, 13, 22, 23, 24] [13, 23] (specC V4 H4 o4) 4)]
/-- What a loop does, as its summary asks it. -/
def LpAt (id : Nat) (K K' : List Nat) (V : List Value) (H : List Go.Sx.Blk) (o : Exit × List Value × List Go.Sx.Blk) : Prop := ∀ (X : Nat → Prop) (w0 : World), EnvOK glEnv X w0 → RunsB Tryd.prog X w0 0 4 (.block id (blkAt id gsBody)) (unpack 143 K V H) o.1 (unpack 143 K' o.2.1 o.2.2)
theorem gsEnv_ok {V0 : List Value} {H0 : List Go.Sx.Blk} {o0 : Exit × List Value × List Go.Sx.Blk} {V2 : List Value} {H2 : List Go.Sx.Blk} {o2 : Exit × List Value × List Go.Sx.Blk} {V4 : List Value} {H4 : List Go.Sx.Blk} {o4 : Exit × List Value × List Go.Sx.Blk}
    (h0 : LpAt 0 [2, 3, 4, 5, 13, 14, 15, 16, 17, 18] [2, 3, 4, 5, 13, 14, 15, 16, 17] V0 H0 o0) (h2 : LpAt 2 [2, 3, 4, 5, 12, 13, 14, 15, 16, 17, 19] [2, 3, 4, 5, 12, 13, 14, 15, 16] V2 H2 o2) (h4 : LpAt 4 [5, 13, 22, 23, 24] [13, 23] V4 H4 o4) (X : Nat → Prop) (w0 : World) (hX : X 0) (hB : Bnd X w0) (hT : Tab w0) : EnvOK (gsEnv V0 H0 o0 V2 H2 o2 V4 H4 o4) X w0 :=
  mkEnv_ok slotEq_ok (by kernel_rfl) glFns_ok gl1_ok (lpSounds_cons (lpSound_const (c := gsBody) Tryd.func12 (by kernel_rfl) (by kernel_rfl) fun X W0 a b c => h0 X W0 (glEnv_ok X W0 a b c)) <| lpSounds_cons (lpSound_const (c := gsBody) Tryd.func12 (by kernel_rfl) (by kernel_rfl) fun X W0 a b c => h2 X W0 (glEnv_ok X W0 a b c)) <| lpSounds_cons (lpSound_const (c := gsBody) Tryd.func12 (by kernel_rfl) (by kernel_rfl) fun X W0 a b c => h4 X W0 (glEnv_ok X W0 a b c)) lpSounds_nil) hX hB hT
theorem gs_lp0 (a : GsA) (G : Gv) (W : Wv) (cf : Cf) (l0 : List Int) (hn : W.nl ≤ 20) (hl : l0.length ≤ 1000) : LpAt 0 [2, 3, 4, 5, 13, 14, 15, 16, 17, 18] [2, 3, 4, 5, 13, 14, 15, 16, 17] (gsV0 a W l0.length 0) (gsH0 G W cf l0 l0) (gsO0 a G W cf l0 (wsI l0 W.gi W.nl) (l0.length + W.nl)) := fun X w0 hE => by
  rw [gs_loop0]
  exact (gs_rounds0 hE a G W cf l0 hn hl W.nl 0 (Nat.zero_add _)).runs.block_exit.norm (gs_norm0 a G W cf l0 _ _ _) (Nat.zero_le _)
theorem gs_lp4 (G : Gv) (W : Wv) {N : Nat} (C : Nat) {cf : Cf} (hc : RightC cf) (hN : N = cntN cf) {k gen : Int} (hl : W.nl ≤ 20) (hw : WrI W.gi W.nl) (hn : ∀ i, i < W.nl → isLease k gen (W.gi i 2) = false) {s : G1s} (H : GsInv N cf k gen s.l s.q 0) : LpAt 4 [5, 13, 22, 23, 24] [13, 23] (gsV4 W 0) (gsH4 G W N C s.t s.l s.q) (gsO4 G W (g1Iter N W s 4).q) := fun X w0 hE => by
  rw [gs_loop4]
  exact (gs_rounds4 hE G W C hc hN hl hw hn H 4 0 rfl).runs.block_exit.norm (gs_norm4 G W N C _ _ _ 4) (Nat.zero_le _)
end Go.Proofs.YthfoljgaiincdaaDoor
