/- RetireKeeps: the whole. No condition of its own. -/
import Derived.Test.YtcakklnacnnlaaaDoorRetKeepsW
namespace Go.Proofs.YtcakklnacnnlaaaDoor
open Go.RowKit Go.Fld Go.Sx
set_option linter.unusedVariables false
set_option linter.unusedSimpArgs false
theorem rstep_cell (n : Nat) (l : List Int) (q : Rq) : (rstep n l q).cell = q.cell := by
  unfold rstep
  cases Nat.beq q.f fSwap with
  | true => simp only [cond_true]; cases rHit n l q <;> rfl
  | false =>
    cases Nat.beq q.f fLook with
    | true => rfl
    | false => cases Nat.beq q.f fAge <;> rfl
theorem st_but {n : Nat} {l : List Int} {i v : Int} {k : Nat} (h : (k : Int) ≠ i) : (stS n l i v).getD k 0 = l.getD k 0 := by
  unfold stS inR
  split
  · rename_i hh
    simp only [Bool.and_eq_true, decide_eq_true_eq] at hh
    exact getD_set_ne (by omega) _
  · rfl
theorem cas_but {n : Nat} {l : List Int} {i a v : Int} {k : Nat} (h : (k : Int) ≠ i) : (casS n l i a v).getD k 0 = l.getD k 0 := by
  unfold casS
  split
  · exact st_but h
  · rfl
theorem rmem_but {n : Nat} {l : List Int} {q : Rq} {k : Nat} (h1 : (k : Int) ≠ q.cell) (h2 : k ≠ 2) : (rmem n l q).getD k 0 = l.getD k 0 := by
  unfold rmem
  cases Nat.beq q.f fSwap with
  | true => simp only [cond_true]; cases (rNext q).isSome; rfl; exact cas_but h1
  | false =>
    cases Nat.beq q.f fLook with
    | true => rfl
    | false =>
      cases Nat.beq q.f fAge with
      | true => simp only [cond_true, cond_false]; cases (rAged q).isSome; rfl; exact cas_but h1
      | false =>
        cases Nat.beq q.f fGoOn with
        | true => exact st_but (by omega)
        | false => rfl
theorem k1_but {N : Nat} {s : K1s} {c : Int} (hc : s.q.cell = c) : ∀ k, (k1Iter N s k).q.cell = c ∧ AlikeBut c s.l (k1Iter N s k).l
  | 0 => ⟨hc, fun _ _ _ => rfl⟩
  | k + 1 => by
    obtain ⟨h1, h2⟩ := k1_but hc k
    refine ⟨(rstep_cell _ _ _).trans h1, fun j g1 g2 => ?_⟩
    exact (rmem_but (by rw [h1]; exact g1) g2).trans (h2 j g1 g2)
/-- A swap that misses. -/
theorem rk_miss {N : Nat} {l : List Int} {q : Rq} (h : okM N l = true) (hf : q.f = fSwap) (hs : q.sw = false) (hm : casB N l q.cell q.word = false) : rkElse N l q = isT := by
  have hh : rHit N l q = false := by
    unfold rHit
    rw [hm]
    cases (rNext q).isSome <;> rfl
  have hcas : ∀ v, casS N l q.cell q.word v = l := fun v => by unfold casS; rw [if_neg (by rw [hm]; simp)]
  have e1 : rmem N l q = l := by rw [rmem_swap hf, hcas]; cases (rNext q).isSome <;> rfl
  have e2 : rstep N l q = rEnd q := by rw [rstep_swap hf, hh]; rfl
  have e3 : rret N l q = true := by rw [rret_swap hf, hh]; rfl
  have g1 : rmem N l (rEnd q) = l := rmem_end rfl
  have g2 : rstep N l (rEnd q) = rEnd (rEnd q) := rstep_end rfl
  have g3 : rret N l (rEnd q) = true := rret_end rfl
  have g4 : (rEnd (rEnd q)).sw = false := hs
  have g5 : rOK (rEnd q).f = true := rfl
  unfold rkElse
  rw [e3, e1, e2, g1, g2, g3, g4, g5, hf, bt_of h, bt_of (by rw [h]; rfl), bt_of (by rw [h]; rfl), bt_of h, lenOK_okM h, bt_of (c := true && true) rfl, decide_eq_true rfl]
  rfl
theorem rk_go (w : World) (hT : Tab w) (G : Gv) (hG : G.OK) (at_ : Int) (ha : 0 ≤ at_ ∧ at_ ≤ 255) (other : Int) (ho : I64i other) {σ : Nat → Option Pl} (hr : HR (· < w.heap.size) w 0 σ (rkA G) w)
    {args' : Array Value} (hv : VRA σ [G.val, .int .u8 at_, .int .i64 other].toArray args') : Calls Tryd.prog 11 args' w fun e w' => e = .returned (.bool true) ∧ Below w.heap.size w w' := by
  have hc := hG.right
  have hok := hG.okM
  obtain ⟨i, hi, his⟩ := atI_in (m := G.cf.s) hc.s.1 ha
  obtain ⟨e1, e2, e3, e4⟩ := slotCell_in hc his
  obtain ⟨g1, _, _⟩ := okM_iff.1 hok
  have hs0 : K1ok (cntN G.cf) (rkS G.cf G.l i) := ⟨hok, rfl⟩
  have hb := (k1_but (N := cntN G.cf) (s := rkS G.cf G.l i) (c := cellC G.cf i) rfl 5).2
  have hE := rkEnv_ok G G.cf (cntN G.cf) (cntN G.cf) G.l (rkS G.cf G.l i) i hs0 hok hb _ w hT.lt (bnd_self w) hT
  refine callV_start (fuel := 60) hE rfl ?_ rfl hr hv
  rw [rk_all, bt_of hG.made, noS_of hc, bt_of hG.ld, hi, ixC_of hc hok his]
  by_cases h : other = G.l.getD (0 + (cellC G.cf i).toNat) 0
  · rw [h, bne_self_eq_false, cond_false, bt_of (isIt_refl _ _), bt_of (hs0.iter 5).ok, bt_of (isIt_refl _ _), beq_self_eq_true]
  · have hC : CellAt (cntN G.cf) G.l (cellC G.cf i) (cellC G.cf i).toNat := ⟨by have := hc.w; omega, g1, e4⟩
    have hne : (other != G.l.getD (0 + (cellC G.cf i).toNat) 0) = true := bne_iff_ne.2 h
    rw [hne, cond_true, bt_of hok]
    refine rk_miss (by rw [okM_st]; exact hok) rfl rfl ?_
    rw [hC.st]
    refine ((hC.set _ _).cas_no ?_ 0).1
    rw [getD_set_eq (by omega)]
    exact h
theorem rk_walk (w : World) (hT : Tab w) {v : Value} {a b c d e : Int} {A0 A1 A2 : Option Addr} {n0 c0 n1 c1 n2 c2 : Nat} {R0 R1 R2 : Go.Sx.Rows} (hg : GivenA w v a b c d e A0 n0 c0 R0 A1 n1 c1 R1 A2 n2 c2 R2) (x1 : Int) (b1 : 0 ≤ x1 ∧ x1 ≤ 255) (x2 : Int) (b2 : -9223372036854775808 ≤ x2 ∧ x2 ≤ 9223372036854775807) :
    Calls Tryd.prog 11 #[v, .int .u8 x1, .int .i64 x2] w fun e w' => e = .returned (.bool true) ∧ Below w.heap.size w w' := by
  have hval := hg.val
  have hfi : ∀ i, i < n1 → 0 ≤ R1.gi i 0 ∧ R1.gi i 0 ≤ 255 := fun i hi => U8_of_wf (hg.r1.wf i 0 .u8 hi (by decide) (by rw [hg.k1]; rfl))
  have q0 := hg.k0; have q1 := hg.k1; have q2 := hg.k2
  obtain ⟨ks0, R0gi, R0gb⟩ := R0
  obtain ⟨ks1, R1gi, R1gb⟩ := R1
  obtain ⟨ks2, R2gi, R2gb⟩ := R2
  simp only at q0 q1 q2
  subst q0 q1 q2
  let G : Gv := ⟨n0, n1, n2, c0, c1, c2, R0gi, R1gi, R2gi, R0gb, R1gb, R2gb, a, b, c, d, e⟩
  have hG : G.OK := ⟨hg.ha, hg.hb, hg.hc, hg.hd, hg.he, hfi⟩
  let L : List ArgE := [(A0, n0, c0, 9, ⟨kSlot, R0gi, R0gb⟩), (A1, n1, c1, 1, ⟨[.it .u8], R1gi, R1gb⟩), (A2, n2, c2, 1, ⟨[.it .u8], R2gi, R2gb⟩)]
  let σ : Nat → Option Pl := fun k => (L[k]?).bind fun e : ArgE => plOf e.1 e.2.1 e.2.2.2.1
  have hL : ∀ e ∈ L, ArgRow w e.1 e.2.1 e.2.2.1 e.2.2.2.1 e.2.2.2.2 := by
    intro e he
    simp only [L, List.mem_cons, List.not_mem_nil, or_false] at he
    rcases he with rfl | rfl | rfl
    · exact hg.r0
    · exact hg.r1
    · exact hg.r2
  have hr : HR (· < w.heap.size) w 0 σ ((L.map fun e : ArgE => (e.2.2.2.1, e.2.1, e.2.2.2.2)).map fun e => .rows false false e.1 e.2.1 e.2.2) w := args_hr _ (plOfs_some L hL)
  rw [hval]
  refine rk_go w hT G hG x1 b1 x2 b2 hr (VRA.of_list ?_)
  exact .cons (.agg rfl (VRA.of_list (.cons (.int _ _) (.cons (.int _ _) (.cons (.int _ _) (.cons (.int _ _) (.cons (.int _ _) (.cons (VR.argRow (σ := σ) (k := 0) hg.r0 rfl _) (.cons (VR.argRow (σ := σ) (k := 1) hg.r1 rfl _) (.cons (VR.argRow (σ := σ) (k := 2) hg.r2 rfl _) .nil))))))))).2) (.cons (.int _ _) (.cons (.int _ _) .nil))
end Go.Proofs.YtcakklnacnnlaaaDoor
