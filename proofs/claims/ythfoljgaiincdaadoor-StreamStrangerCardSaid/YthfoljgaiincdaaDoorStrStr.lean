
/- StreamStranger: the whole. No condition of its own. -/
import Derived.Test.YthfoljgaiincdaaDoorStrL
import Derived.Test.YthfoljgaiincdaaDoorSxMf
namespace Go.Proofs.YthfoljgaiincdaaDoor
open Go.RowKit Go.Fld Go.Sx
set_option linter.unusedVariables false
set_option linter.unusedSimpArgs false
abbrev stnA (G : Gv) : List Go.Sx.Blk := [G.r0, G.r1, G.r2]
def stnQ (cf : Cf) (k i gen : Int) : Sq := ⟨cf, k, i, gen, 0, 0, 0, 0, 0⟩
/-- Behind one that opens. -/
def stnXg (g : Kd → Nat → S1 → S1) (cf : Cf) (l : List Int) (k i gen : Int) : S1 := g (.op k cf) (cntN cf) ⟨l, cntN cf, stnQ cf k i gen⟩
/-- And one that shuts. -/
def stnYg (g : Kd → Nat → S1 → S1) (cf : Cf) (l : List Int) (k i gen num : Int) : S1 := g (.sh k num) (cntN cf) ⟨(stnXg g cf l k i gen).l, (stnXg g cf l k i gen).t, stnQ cf k i gen⟩
def stnX := stnXg s14
def stnY := stnYg s14
noncomputable def stnBody : Code := Tryd.f9.body.getD .skip
abbrev stnO1 := Option (Exit × List Value × List Go.Sx.Blk)
abbrev stnR (G : Gv) (b : Bool) : stnO1 := some (.ret, [.bool b], stnA G)
noncomputable def stnF (G : Gv) (cf : Cf) (l : List Int) (x y : S1) (want : Int) : stnO1 :=
  bif ansE x.q == want then bif ansE y.q == want then bif ansN x.q == 0 then bif ansN y.q == 0 then bt (okM (cntN cf) y.l) (bt (lenOK (cntN cf) y.l && lenOK (cntN cf) l) (stnR G (decide (y.l = l)))) else stnR G false else stnR G false else stnR G false else stnR G false
noncomputable def stnZg (g : Kd → Nat → S1 → S1) (G : Gv) (cf : Cf) (l : List Int) (k i gen num : Int) : stnO1 :=
  bt (ldG cf l) (bt (okM (cntN cf) l && true && Nat.beq 0 0) (bt (okM (cntN cf) (stnXg g cf l k i gen).l && true && Nat.beq 0 0) (bt (inRange 0 (cntN cf)) (bt (Nat.blt (0 + Int.toNat 0) l.length) (bif l.getD (0 + Int.toNat 0) 0 == 2 then stnF G cf l (stnXg g cf l k i gen) (stnYg g cf l k i gen num) 5 else stnF G cf l (stnXg g cf l k i gen) (stnYg g cf l k i gen num) 2)))))
noncomputable def stnZ := stnZg s14
noncomputable def stnO {α : Type} (cf : Cf) (l : List Int) (k i gen : Int) (A Z : Option α) : Option α :=
  bif decide (i ≥ 0) then bif decide (i < (cf.s.toNat : Int)) then ixR i cf.s.toNat cf.s.toNat (bif (slD cf l i.toNat).st == 3 then ixR i cf.s.toNat cf.s.toNat (bif (slD cf l i.toNat).own == k then ixR i cf.s.toNat cf.s.toNat (bif (slD cf l i.toNat).gen == gen then A else Z) else Z) else Z) else Z else Z
abbrev stnV (i gen num k : Int) (r : Value) (N : Nat) : List Value := [.int .i64 i, .int .i64 gen, .int .i64 num, r, .bool true, .pointer (some ⟨3, 0, none⟩), .slice (some ⟨4, 0, none⟩) N N, .int .i64 k]
abbrev stnH (G : Gv) (cf : Cf) (l : List Int) : List Go.Sx.Blk := stnA G ++ [.cells true true (cfCells cf), .ints true true l]
theorem stn_cut : cutOK 5 stnBody = true := by kernel_rfl
theorem stn_pre (G : Gv) (who i gen num : Int) :
    (roundV smEnv 60 noLps 138 [2, 3, 4, 10, 11, 12, 13, 14] 3 (cutA 5 stnBody) ⟨[G.val, .int .u8 who, .int .i64 i, .int .i64 gen, .int .i64 num] ++ List.replicate (138 - 5) undef, stnA G⟩).get =
    bt (mdC G.cf G.ns G.nf G.np) (noW G.cf (bt (ldG G.cf G.l) (stnO G.cf G.l (atI G.cf.w who) i gen (some (.ret, stnV i gen num (atI G.cf.w who) (.bool true) (cntN G.cf), stnH G G.cf G.l)) (some (.normal, stnV i gen num (atI G.cf.w who) (.bool false) (cntN G.cf), stnH G G.cf G.l))))) := by kernel_rfl
theorem stn_post (g : Kd → Nat → S1 → S1) (G : Gv) (cf : Cf) (l : List Int) (k i gen num : Int) (r : Value) :
    (roundV (smEnvG g) 60 noLps 138 [10] 3 (cutZ 5 stnBody) (unpack 138 [2, 3, 4, 10, 11, 12, 13, 14] (stnV i gen num k (.bool false) (cntN cf)) (stnH G cf l))).get = stnZg g G cf l k i gen num := by kernel_rfl
theorem stn_res (G : Gv) (N : Nat) (V : List Value) (H : List Go.Sx.Blk) : (resultsM Tryd.prog Tryd.f9 (unpack 138 [10] [.bool true] H)).get = some (.bool true) := by kernel_rfl
theorem stn_res2 (G : Gv) (i gen num k : Int) (N : Nat) (H : List Go.Sx.Blk) : (resultsM Tryd.prog Tryd.f9 (unpack 138 [2, 3, 4, 10, 11, 12, 13, 14] (stnV i gen num k (.bool true) N) H)).get = some (.bool true) := by kernel_rfl
/-! ### Nothing is changed -/
theorem stn_four (K : Kd) (N : Nat) (l : List Int) (t : Int) (q : Sq) (h0 : q.st = 0) (hA : ¬ sCell q < 0 → ∀ A Z : Sq, slookK (decS (ldS N l (sCell q))) q A Z = A) :
    (s14 K N ⟨l, t, q⟩).l = l ∧ (s14 K N ⟨l, t, q⟩).q.st = 3 ∧ (s14 K N ⟨l, t, q⟩).q.e = bif ldS N l 0 == 2 then 5 else 2 := by
  have d : ∀ (t : Int) (p : Sq), p.st = 3 → s1N K N ⟨l, t, p⟩ = ⟨l, t, p⟩ := fun t p hp => by
    unfold s1N
    simp only
    rw [smem_3 hp, stch_3 hp, sq_3 hp]
  have e1 : s1N K N ⟨l, t, q⟩ = ⟨l, tcS N 0 t, bif ldS N l 0 == 2 then sEnd q 5 else sAt q 1⟩ := by
    unfold s1N
    simp only
    rw [smem_0 h0, stch_0 h0, sq_0 h0]
  unfold s14
  rw [e1]
  cases (ldS N l 0 == 2) with
  | true =>
    simp only [cond_true]
    rw [d _ _ rfl, d _ _ rfl, d _ _ rfl]
    exact ⟨rfl, rfl, rfl⟩
  | false =>
    simp only [cond_false]
    have e2 : ∀ t, ∃ t' p, s1N K N ⟨l, t, sAt q 1⟩ = ⟨l, t', p⟩ ∧ p.st = 3 ∧ p.e = 2 := fun t => by
      unfold s1N
      simp only
      rw [smem_1 rfl, stch_1 rfl, sq_1 rfl]
      refine ⟨_, _, rfl, ?_⟩
      by_cases hc : sCell q < 0
      · rw [show sCell (sAt q 1) = sCell q from rfl, decide_eq_true hc]
        exact ⟨rfl, rfl⟩
      · rw [show sCell (sAt q 1) = sCell q from rfl, decide_eq_false hc, cond_false]
        unfold sLook
        have := hA hc (sEnd (sWd (sAt q 1) (ldS N l (sCell (sAt q 1)))) 2)
        rw [show sCell (sAt q 1) = sCell q from rfl] at this ⊢
        rw [show ∀ A Z : Sq, slookK (decS (ldS N l (sCell q))) (sAt q 1) A Z = slookK (decS (ldS N l (sCell q))) q A Z from fun _ _ => rfl, this]
        exact ⟨rfl, rfl⟩
    obtain ⟨t', p, e3, h3, h4⟩ := e2 (tcS N 0 t)
    rw [e3, d _ _ h3, d _ _ h3]
    exact ⟨rfl, h3, h4⟩
theorem stnF_true {G : Gv} {cf : Cf} {l : List Int} {x y : S1} {want : Int} (hok : okM (cntN cf) l = true) (hl : y.l = l) (hx : x.q.st = 3) (hy : y.q.st = 3) (ex : x.q.e = want) (ey : y.q.e = want) (h0 : want ≠ 0) : stnF G cf l x y want = stnR G true := by
  have hne : (want != 0) = true := bne_iff_ne.2 h0
  have e1 : ansE x.q = want := by unfold ansE; rw [hx, ex, hne]; rfl
  have e2 : ansE y.q = want := by unfold ansE; rw [hy, ey, hne]; rfl
  have e3 : ansN x.q = 0 := by unfold ansN; rw [hx, ex, hne]; rfl
  have e4 : ansN y.q = 0 := by unfold ansN; rw [hy, ey, hne]; rfl
  unfold stnF
  rw [e1, e2, e3, e4, hl, bt_of hok, bt_of (by rw [lenOK_okM hok]; rfl), decide_eq_true rfl, beq_self_eq_true, cond_true, cond_true]
  rfl
theorem stnZ_true {G : Gv} {cf : Cf} (hc : RightC cf) {l : List Int} (hok : okM (cntN cf) l = true) {k i gen num : Int} (hA : ¬ cellC cf i < 0 → ∀ A Z : Sq, slookK (decS (ldS (cntN cf) l (cellC cf i))) (stnQ cf k i gen) A Z = A) : stnZ G cf l k i gen num = stnR G true := by
  obtain ⟨g1, g2, g3⟩ := okM_iff.1 hok
  have hN := hc.cntN
  have hcl : ldS (cntN cf) l 0 = l.getD 0 0 := by
    unfold ldS
    rw [if_pos (show inR (cntN cf) 0 = true by unfold inR; rw [decide_eq_true (by omega), decide_eq_true (by omega)]; rfl)]; rfl
  obtain ⟨x1, x2, x3⟩ := stn_four (.op k cf) (cntN cf) l (cntN cf) (stnQ cf k i gen) rfl hA
  have X1 : (stnX cf l k i gen).l = l := x1
  obtain ⟨y1, y2, y3⟩ := stn_four (.sh k num) (cntN cf) l (stnX cf l k i gen).t (stnQ cf k i gen) rfl hA
  have hY : stnY cf l k i gen num = s14 (.sh k num) (cntN cf) ⟨l, (stnX cf l k i gen).t, stnQ cf k i gen⟩ := by show s14 (.sh k num) (cntN cf) ⟨(stnX cf l k i gen).l, (stnX cf l k i gen).t, stnQ cf k i gen⟩ = _; rw [X1]
  unfold stnZ stnZg
  rw [show stnYg s14 cf l k i gen num = stnY cf l k i gen num from rfl, show stnXg s14 cf l k i gen = stnX cf l k i gen from rfl, hY, X1, bt_of (show ldG cf l = true by unfold ldG; rw [rightC_iff.2 hc, hok, Nat.beq_refl]; rfl), bt_of (show (okM (cntN cf) l && true && Nat.beq 0 0) = true by rw [hok]; rfl), bt_of (show (okM (cntN cf) l && true && Nat.beq 0 0) = true by rw [hok]; rfl),
    bt_of (show inRange 0 (cntN cf) = true by unfold inRange; simp; omega), bt_of (show Nat.blt (0 + Int.toNat 0) l.length = true by rw [Nat.blt_eq]; show 0 + 0 < _; omega)]
  rw [hcl] at x3 y3
  rw [show l.getD (0 + Int.toNat 0) 0 = l.getD 0 0 from rfl]
  cases h2 : (l.getD 0 0 == 2) with
  | true =>
    rw [h2] at x3 y3
    exact stnF_true hok y1 x2 y2 x3 y3 (by decide)
  | false =>
    rw [h2] at x3 y3
    exact stnF_true hok y1 x2 y2 x3 y3 (by decide)
theorem cell_neg {cf : Cf} {i : Int} (h : ¬ (0 ≤ i ∧ i < cf.s)) : cellC cf i < 0 := by rw [RightC.cellC_out h]; decide
/-- Whose it is. -/
theorem stnO_cases {G : Gv} (hG : G.OK) {k i gen : Int} {α : Type} {A Z : Option α} : stnO G.cf G.l k i gen A Z = A ∨ stnO G.cf G.l k i gen A Z = Z ∧ (¬ cellC G.cf i < 0 → ∀ A Z : Sq, slookK (decS (ldS (cntN G.cf) G.l (cellC G.cf i))) (stnQ G.cf k i gen) A Z = A) := by
  have hc := hG.right
  have hs := hc.s
  have hz : ∀ (h : ¬ cellC G.cf i < 0 → ∀ A Z : Sq, slookK (decS (ldS (cntN G.cf) G.l (cellC G.cf i))) (stnQ G.cf k i gen) A Z = A), Z = A ∨ Z = Z ∧ (¬ cellC G.cf i < 0 → ∀ A Z : Sq, slookK (decS (ldS (cntN G.cf) G.l (cellC G.cf i))) (stnQ G.cf k i gen) A Z = A) := fun h => .inr ⟨rfl, h⟩
  unfold stnO
  by_cases h1 : 0 ≤ i
  case neg =>
    rw [decide_eq_false (show ¬ i ≥ 0 by omega)]
    exact hz fun h => absurd (cell_neg (by omega)) h
  rw [decide_eq_true (show i ≥ 0 by omega), cond_true]
  by_cases h2 : i < G.cf.s
  case neg =>
    rw [decide_eq_false (by omega)]
    exact hz fun h => absurd (cell_neg (by omega)) h
  rw [decide_eq_true (by omega), cond_true]
  obtain ⟨j, rfl⟩ : ∃ j : Nat, i = j := ⟨i.toNat, by omega⟩
  have hj : j < G.cf.s.toNat := by omega
  rw [ixR_in rfl hj, ixR_in rfl hj, ixR_in rfl hj, Int.toNat_natCast]
  obtain ⟨e1, e2, e3, e4⟩ := slotCell_in hc h2
  have hld : ldS (cntN G.cf) G.l (cellC G.cf j) = G.l.getD (cellC G.cf j).toNat 0 := by unfold ldS; rw [if_pos e2]
  have hI := hG.I.ld (cntN G.cf) (cellC G.cf j)
  have hsl : slt0 (decS (ldS (cntN G.cf) G.l (cellC G.cf j))) = slD G.cf G.l j := by
    unfold slD
    rw [← decA_eq _ hI, hld]
  rw [← hsl] 
  have hq : ∀ A Z : Sq, slookK (decS (ldS (cntN G.cf) G.l (cellC G.cf j))) (stnQ G.cf k j gen) A Z = bif !(decS (ldS (cntN G.cf) G.l (cellC G.cf j))).isSome then A else bif (slt0 (decS (ldS (cntN G.cf) G.l (cellC G.cf j)))).st != 3 then A else bif (slt0 (decS (ldS (cntN G.cf) G.l (cellC G.cf j)))).own != k then A else bif (slt0 (decS (ldS (cntN G.cf) G.l (cellC G.cf j)))).gen != gen then A else Z := fun _ _ => rfl
  generalize decS (ldS (cntN G.cf) G.l (cellC G.cf j)) = d at hz hq ⊢
  cases h3 : ((slt0 d).st == 3) with
  | false =>
    refine hz fun _ A Z => ?_
    rw [hq, show ((slt0 d).st != 3) = true from by rw [bne, h3]; rfl]
    cases d.isSome <;> rfl
  | true =>
    cases h4 : ((slt0 d).own == k) with
    | false =>
      refine hz fun _ A Z => ?_
      rw [hq, show ((slt0 d).own != k) = true from by rw [bne, h4]; rfl]
      cases d.isSome <;> cases ((slt0 d).st != 3) <;> rfl
    | true =>
      cases h5 : ((slt0 d).gen == gen) with
      | false =>
        refine hz fun _ A Z => ?_
        rw [hq, show ((slt0 d).gen != gen) = true from by rw [bne, h5]; rfl]
        cases d.isSome <;> cases ((slt0 d).st != 3) <;> cases ((slt0 d).own != k) <;> rfl
      | true => exact .inl rfl
theorem stn_go (w : World) (hT : TT w) (G : Gv) (hG : G.OK) (who : Int) (hwho : 0 ≤ who ∧ who ≤ 255) (i : Int) (hi : I64i i) (gen : Int) (hgen : I64i gen) (num : Int) (hnum : I64i num) {σ : Nat → Option Pl} (hr : HR (· < w.heap.size) w 0 σ (stnA G) w)
    {args' : Array Value} (hv : VRA σ [G.val, .int .u8 who, .int .i64 i, .int .i64 gen, .int .i64 num].toArray args') : Calls Tryd.prog 9 args' w fun e w' => e = .returned (.bool true) ∧ Below w.heap.size w w' := by
  have hE := smEnv_ok _ w hT.lt (bnd_self w) hT
  have hf : smEnv.P.funcs[9]? = some Tryd.f9 := Tryd.func9
  have hb : Tryd.f9.body = some stnBody := by kernel_rfl
  have hn : Tryd.f9.ntmps = 138 := by kernel_rfl
  have hp := stn_pre G who i gen num
  rw [bt_of hG.made, noW_of hG.right, bt_of hG.ld] at hp
  generalize atI G.cf.w who = k at hp
  rcases stnO_cases hG (k := k) (i := i) (gen := gen) (A := some (Exit.ret, stnV i gen num k (.bool true) (cntN G.cf), stnH G G.cf G.l)) (Z := some (Exit.normal, stnV i gen num k (.bool false) (cntN G.cf), stnH G G.cf G.l)) with h | ⟨h, hA⟩
  · rw [h] at hp
    have hq := (cut_runs hE (Nat.zero_le _) stn_cut (show 3 ≤ 3 by decide) hp).2 (by simp)
    exact body_start (E := smEnv) rfl hf hb (by rw [hn]; exact hq) (.inr rfl) (stn_res2 G i gen num k (cntN G.cf) _) rfl hr hv
  · rw [h] at hp
    have hq := (cut_runs hE (Nat.zero_le _) stn_cut (show 3 ≤ 3 by decide) hp).1 rfl
    have ht := (stn_post s14 G G.cf G.l k i gen num (.bool false)).trans (stnZ_true hG.right hG.okM hA)
    have hq2 := hq _ _ (round_runs hE (noLps_ok _) ht (Nat.zero_le _) (show 3 ≤ 5 by decide))
    exact body_start (E := smEnv) rfl hf hb (by rw [hn]; exact hq2) (.inr rfl) (stn_res G 0 [] _) rfl hr hv
theorem stn_walk (w : World) (hT : TT w) {v : Value} {a b c d e : Int} {A0 A1 A2 : Option Addr} {n0 c0 n1 c1 n2 c2 : Nat} {R0 R1 R2 : Go.Sx.Rows} (hg : GivenA w v a b c d e A0 n0 c0 R0 A1 n1 c1 R1 A2 n2 c2 R2) (x1 : Int) (b1 : 0 ≤ x1 ∧ x1 ≤ 255) (x2 : Int) (b2 : -9223372036854775808 ≤ x2 ∧ x2 ≤ 9223372036854775807) (x3 : Int) (b3 : -9223372036854775808 ≤ x3 ∧ x3 ≤ 9223372036854775807) (x4 : Int) (b4 : -9223372036854775808 ≤ x4 ∧ x4 ≤ 9223372036854775807) :
    Calls Tryd.prog 9 #[v, .int .u8 x1, .int .i64 x2, .int .i64 x3, .int .i64 x4] w fun e w' => e = .returned (.bool true) ∧ Below w.heap.size w w' := by
  have hval := hg.val
  have hfi : ∀ i, i < n1 → 0 ≤ R1.gi i 0 ∧ R1.gi i 0 ≤ 255 := fun i hi => U8_of_wf (hg.r1.wf i 0 .u8 hi (by decide) (by rw [hg.k1]; rfl))
  have q0 := hg.k0; have q1 := hg.k1; have q2 := hg.k2
  obtain ⟨ks0, R0gi, R0gb⟩ := R0
  obtain ⟨ks1, R1gi, R1gb⟩ := R1
  obtain ⟨ks2, R2gi, R2gb⟩ := R2
  simp only at q0 q1 q2
  subst q0 q1 q2
  let G : Gv := ⟨n0, n1, n2, c0, c1, c2, R0gi, R1gi, R2gi, R0gb, R1gb, R2gb, a, b, c, d, e⟩
  have hG : G.OK := ⟨hg.ha, hg.hb, hg.hc, hg.hd, hg.he, hfi⟩
  let L : List ArgE := [(A0, n0, c0, 9, ⟨kSlot, R0gi, R0gb⟩), (A1, n1, c1, 1, ⟨[.it .u8], R1gi, R1gb⟩), (A2, n2, c2, 1, ⟨[.it .u8], R2gi, R2gb⟩)]
  let σ : Nat → Option Pl := fun k => (L[k]?).bind fun e : ArgE => plOf e.1 e.2.1 e.2.2.2.1
  have hL : ∀ e ∈ L, ArgRow w e.1 e.2.1 e.2.2.1 e.2.2.2.1 e.2.2.2.2 := by
    intro e he
    simp only [L, List.mem_cons, List.not_mem_nil, or_false] at he
    rcases he with rfl | rfl | rfl
    · exact hg.r0
    · exact hg.r1
    · exact hg.r2
  have hr : HR (· < w.heap.size) w 0 σ ((L.map fun e : ArgE => (e.2.2.2.1, e.2.1, e.2.2.2.2)).map fun e => .rows false false e.1 e.2.1 e.2.2) w := args_hr _ (plOfs_some L hL)
  rw [hval]
  refine stn_go w hT G hG x1 b1 x2 b2 x3 b3 x4 b4 hr (VRA.of_list ?_)
  exact .cons (.agg rfl (VRA.of_list (.cons (.int _ _) (.cons (.int _ _) (.cons (.int _ _) (.cons (.int _ _) (.cons (.int _ _) (.cons (VR.argRow (σ := σ) (k := 0) hg.r0 rfl _) (.cons (VR.argRow (σ := σ) (k := 1) hg.r1 rfl _) (.cons (VR.argRow (σ := σ) (k := 2) hg.r2 rfl _) .nil))))))))).2) (.cons (.int _ _) (.cons (.int _ _) (.cons (.int _ _) (.cons (.int _ _) .nil))))
end Go.Proofs.YthfoljgaiincdaaDoor
