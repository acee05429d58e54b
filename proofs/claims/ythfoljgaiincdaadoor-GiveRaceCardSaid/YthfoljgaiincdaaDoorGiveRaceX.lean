
/- GiveRace: the whole. No condition of its own. -/
import Derived.Test.YthfoljgaiincdaaDoorGiveRaceP
namespace Go.Proofs.YthfoljgaiincdaaDoor
open Go.RowKit Go.Fld Go.Sx
set_option linter.unusedVariables false
set_option linter.unusedSimpArgs false
theorem sR_some {N : Nat} {l : List Int} {q : Gq} {ro : Option Rq} (h : ro.isSome = true) : (sR N l q ro).isSome = true := by
  cases ro with
  | none => cases h
  | some r =>
    unfold sR
    simp only
    cases q.st == 3
    · cases gGoes N l q <;> rfl
    · rfl
theorem rXn_ry (N : Nat) (s : Rs) : ∀ n, (rXn N s n).ry = s.ry
  | 0 => rfl
  | n + 1 => rXn_ry N s n
theorem rYn_rx (N : Nat) (s : Rs) : ∀ n, (rYn N s n).rx = s.rx
  | 0 => rfl
  | n + 1 => rYn_rx N s n
theorem rXn_rx {N : Nat} {s : Rs} (h : s.rx.isSome = true) : ∀ n, (rXn N s n).rx.isSome = true
  | 0 => h
  | n + 1 => sR_some (rXn_rx h n)
theorem rYn_ry {N : Nat} {s : Rs} (h : s.ry.isSome = true) : ∀ n, (rYn N s n).ry.isSome = true
  | 0 => h
  | n + 1 => sR_some (rYn_ry h n)
theorem gr_hNN (T : Tb) (cf : Cf) (N C : Nat) (t : Int) (l : List Int) (x y : Gq) : grH T cf N C ⟨t, l, x, y, none, none⟩ = grNN T cf N C t l x y := rfl
theorem gr_hRN (T : Tb) (cf : Cf) (N C : Nat) (t : Int) (l : List Int) (x y : Gq) (r : Rq) : grH T cf N C ⟨t, l, x, y, some r, none⟩ = grRN T cf N C t l x y r := rfl
theorem gr_hNR (T : Tb) (cf : Cf) (N C : Nat) (t : Int) (l : List Int) (x y : Gq) (r : Rq) : grH T cf N C ⟨t, l, x, y, none, some r⟩ = grNR T cf N C t l x y r := rfl
theorem gr_hRR (T : Tb) (cf : Cf) (N C : Nat) (t : Int) (l : List Int) (x y : Gq) (r q : Rq) : grH T cf N C ⟨t, l, x, y, some r, some q⟩ = grRR T cf N C t l x y r q := rfl
theorem gr_fin (t : Int) (l : List Int) (x y : Gq) (rx ry : Option Rq) : grFin ⟨t, l, x, y, rx, ry⟩ = grFinL l x y := rfl
theorem gr_asm (one two : Bool) (uses : Int) (T : Tb) (V0 : List Value) (H0 : List Go.Sx.Blk) (V2 : List Value) (H2 : List Go.Sx.Blk) (V4 : List Value) (H4 : List Go.Sx.Blk) (s1 s2 s3 : Rs)
    (h1 : s2.ry.isSome = s1.ry.isSome) (h2 : s3.rx.isSome = s2.rx.isSome) (h3 : s1.rx.isSome = true → s2.rx.isSome = true) (h4 : s2.ry.isSome = true → s3.ry.isSome = true) :
    (callV (grEnv V0 H0 (grH T grC 8 8 s1) V2 H2 (grH T grC 8 8 s2) V4 H4 (grH T grC 8 8 s3)) 60 10 [.bool one, .bool two, .int .u8 uses, .slice (some ⟨0, 0, some 2⟩) T.nt T.ct] [T.row]).run (Option Value) none (fun r => some r.1) =
    grTop one two uses T V0 H0 (bt (sure (isIt (grW 0) (grH T grC 8 8 s1) V2 H2)) (bt (sure (isIt (grW 0) (grH T grC 8 8 s2) V4 H4)) (grFin s3))) := by
  obtain ⟨t0, l0, x0, y0, rx0, ry0⟩ := s1
  obtain ⟨t2, l2, x2, y2, rx2, ry2⟩ := s2
  obtain ⟨t4, l4, x4, y4, rx4, ry4⟩ := s3
  simp only at h1 h2 h3 h4
  cases rx0 with
  | none =>
    cases ry0 with
    | none =>
      cases rx2 with
      | none =>
        cases ry2 with
        | none =>
          cases rx4 with
          | none =>
            cases ry4 with
            | none =>
              rw [gr_hNN T grC 8 8 t0 l0 x0 y0, gr_hNN T grC 8 8 t2 l2 x2 y2, gr_hNN T grC 8 8 t4 l4 x4 y4, gr_fin]
              exact gr_allNNNNNN one two uses T V0 H0 V2 H2 V4 H4 t0 l0 x0 y0 t2 l2 x2 y2 t4 l4 x4 y4
            | some b4 =>
              rw [gr_hNN T grC 8 8 t0 l0 x0 y0, gr_hNN T grC 8 8 t2 l2 x2 y2, gr_hNR T grC 8 8 t4 l4 x4 y4 b4, gr_fin]
              exact gr_allNNNNNR one two uses T V0 H0 V2 H2 V4 H4 t0 l0 x0 y0 t2 l2 x2 y2 t4 l4 x4 y4 b4
          | some a4 =>
            cases ry4 with
            | none =>
              cases h2
            | some b4 =>
              cases h2
        | some b2 =>
          cases rx4 with
          | none =>
            cases ry4 with
            | none =>
              cases h1
            | some b4 =>
              cases h1
          | some a4 =>
            cases ry4 with
            | none =>
              cases h1
            | some b4 =>
              cases h1
      | some a2 =>
        cases ry2 with
        | none =>
          cases rx4 with
          | none =>
            cases ry4 with
            | none =>
              cases h2
            | some b4 =>
              cases h2
          | some a4 =>
            cases ry4 with
            | none =>
              rw [gr_hNN T grC 8 8 t0 l0 x0 y0, gr_hRN T grC 8 8 t2 l2 x2 y2 a2, gr_hRN T grC 8 8 t4 l4 x4 y4 a4, gr_fin]
              exact gr_allNNRNRN one two uses T V0 H0 V2 H2 V4 H4 t0 l0 x0 y0 t2 l2 x2 y2 a2 t4 l4 x4 y4 a4
            | some b4 =>
              rw [gr_hNN T grC 8 8 t0 l0 x0 y0, gr_hRN T grC 8 8 t2 l2 x2 y2 a2, gr_hRR T grC 8 8 t4 l4 x4 y4 a4 b4, gr_fin]
              exact gr_allNNRNRR one two uses T V0 H0 V2 H2 V4 H4 t0 l0 x0 y0 t2 l2 x2 y2 a2 t4 l4 x4 y4 a4 b4
        | some b2 =>
          cases rx4 with
          | none =>
            cases ry4 with
            | none =>
              cases h1
            | some b4 =>
              cases h1
          | some a4 =>
            cases ry4 with
            | none =>
              cases h1
            | some b4 =>
              cases h1
    | some b0 =>
      cases rx2 with
      | none =>
        cases ry2 with
        | none =>
          cases rx4 with
          | none =>
            cases ry4 with
            | none =>
              cases h1
            | some b4 =>
              cases h1
          | some a4 =>
            cases ry4 with
            | none =>
              cases h1
            | some b4 =>
              cases h1
        | some b2 =>
          cases rx4 with
          | none =>
            cases ry4 with
            | none =>
              cases h4 rfl
            | some b4 =>
              rw [gr_hNR T grC 8 8 t0 l0 x0 y0 b0, gr_hNR T grC 8 8 t2 l2 x2 y2 b2, gr_hNR T grC 8 8 t4 l4 x4 y4 b4, gr_fin]
              exact gr_allNRNRNR one two uses T V0 H0 V2 H2 V4 H4 t0 l0 x0 y0 b0 t2 l2 x2 y2 b2 t4 l4 x4 y4 b4
          | some a4 =>
            cases ry4 with
            | none =>
              cases h2
            | some b4 =>
              cases h2
      | some a2 =>
        cases ry2 with
        | none =>
          cases rx4 with
          | none =>
            cases ry4 with
            | none =>
              cases h1
            | some b4 =>
              cases h1
          | some a4 =>
            cases ry4 with
            | none =>
              cases h1
            | some b4 =>
              cases h1
        | some b2 =>
          cases rx4 with
          | none =>
            cases ry4 with
            | none =>
              cases h2
            | some b4 =>
              cases h2
          | some a4 =>
            cases ry4 with
            | none =>
              cases h4 rfl
            | some b4 =>
              rw [gr_hNR T grC 8 8 t0 l0 x0 y0 b0, gr_hRR T grC 8 8 t2 l2 x2 y2 a2 b2, gr_hRR T grC 8 8 t4 l4 x4 y4 a4 b4, gr_fin]
              exact gr_allNRRRRR one two uses T V0 H0 V2 H2 V4 H4 t0 l0 x0 y0 b0 t2 l2 x2 y2 a2 b2 t4 l4 x4 y4 a4 b4
  | some a0 =>
    cases ry0 with
    | none =>
      cases rx2 with
      | none =>
        cases ry2 with
        | none =>
          cases rx4 with
          | none =>
            cases ry4 with
            | none =>
              cases h3 rfl
            | some b4 =>
              cases h3 rfl
          | some a4 =>
            cases ry4 with
            | none =>
              cases h2
            | some b4 =>
              cases h2
        | some b2 =>
          cases rx4 with
          | none =>
            cases ry4 with
            | none =>
              cases h1
            | some b4 =>
              cases h1
          | some a4 =>
            cases ry4 with
            | none =>
              cases h1
            | some b4 =>
              cases h1
      | some a2 =>
        cases ry2 with
        | none =>
          cases rx4 with
          | none =>
            cases ry4 with
            | none =>
              cases h2
            | some b4 =>
              cases h2
          | some a4 =>
            cases ry4 with
            | none =>
              rw [gr_hRN T grC 8 8 t0 l0 x0 y0 a0, gr_hRN T grC 8 8 t2 l2 x2 y2 a2, gr_hRN T grC 8 8 t4 l4 x4 y4 a4, gr_fin]
              exact gr_allRNRNRN one two uses T V0 H0 V2 H2 V4 H4 t0 l0 x0 y0 a0 t2 l2 x2 y2 a2 t4 l4 x4 y4 a4
            | some b4 =>
              rw [gr_hRN T grC 8 8 t0 l0 x0 y0 a0, gr_hRN T grC 8 8 t2 l2 x2 y2 a2, gr_hRR T grC 8 8 t4 l4 x4 y4 a4 b4, gr_fin]
              exact gr_allRNRNRR one two uses T V0 H0 V2 H2 V4 H4 t0 l0 x0 y0 a0 t2 l2 x2 y2 a2 t4 l4 x4 y4 a4 b4
        | some b2 =>
          cases rx4 with
          | none =>
            cases ry4 with
            | none =>
              cases h1
            | some b4 =>
              cases h1
          | some a4 =>
            cases ry4 with
            | none =>
              cases h1
            | some b4 =>
              cases h1
    | some b0 =>
      cases rx2 with
      | none =>
        cases ry2 with
        | none =>
          cases rx4 with
          | none =>
            cases ry4 with
            | none =>
              cases h1
            | some b4 =>
              cases h1
          | some a4 =>
            cases ry4 with
            | none =>
              cases h1
            | some b4 =>
              cases h1
        | some b2 =>
          cases rx4 with
          | none =>
            cases ry4 with
            | none =>
              cases h3 rfl
            | some b4 =>
              cases h3 rfl
          | some a4 =>
            cases ry4 with
            | none =>
              cases h2
            | some b4 =>
              cases h2
      | some a2 =>
        cases ry2 with
        | none =>
          cases rx4 with
          | none =>
            cases ry4 with
            | none =>
              cases h1
            | some b4 =>
              cases h1
          | some a4 =>
            cases ry4 with
            | none =>
              cases h1
            | some b4 =>
              cases h1
        | some b2 =>
          cases rx4 with
          | none =>
            cases ry4 with
            | none =>
              cases h2
            | some b4 =>
              cases h2
          | some a4 =>
            cases ry4 with
            | none =>
              cases h4 rfl
            | some b4 =>
              rw [gr_hRR T grC 8 8 t0 l0 x0 y0 a0 b0, gr_hRR T grC 8 8 t2 l2 x2 y2 a2 b2, gr_hRR T grC 8 8 t4 l4 x4 y4 a4 b4, gr_fin]
              exact gr_allRRRRRR one two uses T V0 H0 V2 H2 V4 H4 t0 l0 x0 y0 a0 b0 t2 l2 x2 y2 a2 b2 t4 l4 x4 y4 a4 b4
theorem gr_go (w : World) (hT : Tab w) (one two : Bool) (uses : Int) (hu : 0 ≤ uses ∧ uses ≤ 255) (nt ct : Nat) (gi : Nat → Nat → Int) (gb : Nat → Nat → Bool) {σ : Nat → Option Pl} (hr : HR (· < w.heap.size) w 0 σ [(⟨nt, ct, gi, gb⟩ : Tb).row] w)
    {args' : Array Value} (hv : VRA σ [.bool one, .bool two, .int .u8 uses, .slice (some ⟨0, 0, some 2⟩) nt ct].toArray args') : Calls Tryd.prog 10 args' w fun e w' => e = .returned (.bool true) ∧ Below w.heap.size w w' := by
  obtain ⟨T, hTT⟩ : ∃ T : Tb, T = ⟨nt, ct, gi, gb⟩ := ⟨_, rfl⟩
  obtain rfl : nt = T.nt := by rw [hTT]
  obtain rfl : ct = T.ct := by rw [hTT]
  rw [← hTT] at hr
  by_cases hn : T.nt ≤ 30
  case neg =>
    refine callV_start (fuel := 60) (grEnvN_ok _ w hT.lt (bnd_self w) hT) rfl ?_ rfl hr hv
    rw [gr_big, decide_eq_true (by omega)]; rfl
  have h5 : 0 ≤ w64 (uses.tmod 5) ∧ w64 (uses.tmod 5) < 5 := by
    rw [Int.tmod_eq_emod_of_nonneg hu.1]
    have g1 := Int.emod_nonneg uses (show (5 : Int) ≠ 0 by omega)
    have g2 := Int.emod_lt_of_pos uses (show (0 : Int) < 5 by omega)
    rw [w64_in ⟨by omega, by omega⟩]
    exact ⟨g1, g2⟩
  have hk := gr_all _ h5 one two T
  have h0 := gr_lp0 T grC 8 8 _ hk.it hn
  have h2 := gr_lp2 T grC 8 8 _ hk.xs
  have h4 := gr_lp4 T grC 8 8 _ hk.ys
  refine callV_start (fuel := 60) (grEnv_ok h0 h2 h4 _ w hT.lt (bnd_self w) hT) rfl ?_ rfl hr hv
  rw [gr_asm one two uses T _ _ _ _ _ _ _ _ _ (by rw [rXn_ry]) (by rw [rYn_rx]) (fun h => rXn_rx h 9) (fun h => rYn_ry h 9)]
  unfold grTop
  rw [decide_eq_false (by omega), cond_false, bt_of (isIt_refl _ _), bt_of (isIt_refl _ _), bt_of (isIt_refl _ _)]
  exact hk.fin
theorem gr_walk (w : World) (hT : Tab w) (x0 : Bool) (x1 : Bool) (x2 : Int) (b2 : 0 ≤ x2 ∧ x2 ≤ 255) {B3 : Option Addr} {m3 q3 : Nat} {S3 : Go.Sx.Rows} (k3 : S3.ks = [.bo]) (r3 : ArgRow w B3 m3 q3 1 S3) :
    Calls Tryd.prog 10 #[.bool x0, .bool x1, .int .u8 x2, .slice B3 m3 q3] w fun e w' => e = .returned (.bool true) ∧ Below w.heap.size w w' := by
  obtain ⟨ks3, S3gi, S3gb⟩ := S3
  simp only at k3
  subst k3
  let L : List ArgE := [(B3, m3, q3, 1, ⟨[.bo], S3gi, S3gb⟩)]
  let σ : Nat → Option Pl := fun k => (L[k]?).bind fun e : ArgE => plOf e.1 e.2.1 e.2.2.2.1
  have hL : ∀ e ∈ L, ArgRow w e.1 e.2.1 e.2.2.1 e.2.2.2.1 e.2.2.2.2 := by
    intro e he
    simp only [L, List.mem_cons, List.not_mem_nil, or_false] at he
    rcases he with rfl
    · exact r3
  have hr : HR (· < w.heap.size) w 0 σ ((L.map fun e : ArgE => (e.2.2.2.1, e.2.1, e.2.2.2.2)).map fun e => .rows false false e.1 e.2.1 e.2.2) w := args_hr _ (plOfs_some L hL)
  refine gr_go w hT x0 x1 x2 b2 m3 q3 S3gi S3gb hr (VRA.of_list ?_)
  exact .cons (.bool _) (.cons (.bool _) (.cons (.int _ _) (.cons (VR.argRow (σ := σ) (k := 0) r3 rfl _) .nil)))
end Go.Proofs.YthfoljgaiincdaaDoor
