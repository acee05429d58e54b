
/- GiveStranger: the whole. No condition of its own. -/
import Derived.Test.YthfoljgaiincdaaDoorGiveStrW
namespace Go.Proofs.YthfoljgaiincdaaDoor
open Go.RowKit Go.Fld Go.Sx
set_option linter.unusedVariables false
set_option linter.unusedSimpArgs false
def gsQ (cf : Cf) (k i gen : Int) (disc : Bool) : Gq := ⟨cf, k, i, gen, disc, 0, 0, 0, 0⟩
def gsFin (q : Gq) : Option Value := bif q.st == 4 then (bif q.e == 2 then isT else some (.bool (q.e == 5))) else isF
noncomputable def gsTop (G : Gv) (W : Wv) (who i gen : Int) (disc : Bool) (V0 : List Value) (H0 : List Go.Sx.Blk) (K : Option Value) : Option Value :=
  bif decide ((W.nl : Int) > 20) then isT else bt (mdC G.cf G.ns G.nf G.np) (noW G.cf (cpyM (cntN G.cf) G.l (bt (sure (isIt (gsV0 ⟨i, gen, disc, atI G.cf.w who, cntN G.cf⟩ W (cpyN (cntN G.cf) G.l) 0) (gsH0 G W G.cf G.l (cpyL (cntN G.cf) G.l)) V0 H0)) K)))
noncomputable def gsEnvA (V0 : List Value) (H0 : List Go.Sx.Blk) (o0 : Exit × List Value × List Go.Sx.Blk) (V2 : List Value) (H2 : List Go.Sx.Blk) (o2 : Exit × List Value × List Go.Sx.Blk) : Env :=
  mkEnv Tryd.prog glFns [slotEq] gl1 [(12, 0, loopV 143 [2, 3, 4, 5, 13, 14, 15, 16, 17, 18] [2, 3, 4, 5, 13, 14, 15, 16, 17] (specC V0 H0 o0) 4), (12, 2, loopV 143 [2, 3, 4, 5, 12, 13, 14, 15, 16, 17, 19] [2, 3, 4, 5, 12, 13, 14, 15, 16] (specC V2 H2 o2) 4), (12, 4, fun _ _ => .bad)]
theorem gsEnvA_ok {V0 : List Value} {H0 : List Go.Sx.Blk} {o0 : Exit × List Value × List Go.Sx.Blk} {V2 : List Value} {H2 : List Go.Sx.Blk} {o2 : Exit × List Value × List Go.Sx.Blk}
    (h0 : LpAt 0 [2, 3, 4, 5, 13, 14, 15, 16, 17, 18] [2, 3, 4, 5, 13, 14, 15, 16, 17] V0 H0 o0) (h2 : LpAt 2 [2, 3, 4, 5, 12, 13, 14, 15, 16, 17, 19] [2, 3, 4, 5, 12, 13, 14, 15, 16] V2 H2 o2) (X : Nat → Prop) (w0 : World) (hX : X 0) (hB : Bnd X w0) (hT : Tab w0) : EnvOK (gsEnvA V0 H0 o0 V2 H2 o2) X w0 :=
  mkEnv_ok slotEq_ok (by kernel_rfl) glFns_ok gl1_ok (lpSounds_cons (lpSound_const (c := gsBody) Tryd.func12 (by kernel_rfl) (by kernel_rfl) fun X W0 a b c => h0 X W0 (glEnv_ok X W0 a b c)) <| lpSounds_cons (lpSound_const (c := gsBody) Tryd.func12 (by kernel_rfl) (by kernel_rfl) fun X W0 a b c => h2 X W0 (glEnv_ok X W0 a b c)) <| lpSounds_cons (lpSound_bad (c := gsBody) Tryd.func12 (by kernel_rfl) (by kernel_rfl)) lpSounds_nil) hX hB hT
noncomputable def gsEnvN : Env := mkEnv Tryd.prog glFns [slotEq] gl1 [(12, 0, fun _ _ => .bad), (12, 2, fun _ _ => .bad), (12, 4, fun _ _ => .bad)]
theorem gsEnvN_ok (X : Nat → Prop) (w0 : World) (hX : X 0) (hB : Bnd X w0) (hT : Tab w0) : EnvOK gsEnvN X w0 :=
  mkEnv_ok slotEq_ok (by kernel_rfl) glFns_ok gl1_ok (lpSounds_cons (lpSound_bad (c := gsBody) Tryd.func12 (by kernel_rfl) (by kernel_rfl)) <| lpSounds_cons (lpSound_bad (c := gsBody) Tryd.func12 (by kernel_rfl) (by kernel_rfl)) <| lpSounds_cons (lpSound_bad (c := gsBody) Tryd.func12 (by kernel_rfl) (by kernel_rfl)) lpSounds_nil) hX hB hT
theorem gs_big (G : Gv) (W : Wv) (who i gen : Int) (disc : Bool) :
  (callV gsEnvN 60 12 [G.val, .int .u8 who, .int .i64 i, .int .i64 gen, .bool disc, W.val 3] (gsA G W)).run (Option Value) none (fun r => some r.1) =
    bif decide ((W.nl : Int) > 20) then isT else bt (mdC G.cf G.ns G.nf G.np) (noW G.cf (cpyM (cntN G.cf) G.l none)) := by kernel_rfl
theorem gs_allA (G : Gv) (W : Wv) (who i gen : Int) (disc : Bool) (V0 : List Value) (H0 : List Go.Sx.Blk) (V2 : List Value) (H2 : List Go.Sx.Blk) (a : GsA) (cf : Cf) (l0 ws : List Int) (m : Nat) :
  (callV (gsEnvA V0 H0 (gsO0 a G W cf l0 ws m) V2 H2 (gsO2 .ret a G W (.bool true) cf l0)) 60 12 [G.val, .int .u8 who, .int .i64 i, .int .i64 gen, .bool disc, W.val 3] (gsA G W)).run (Option Value) none (fun r => some r.1) =
    gsTop G W who i gen disc V0 H0 (bt (sure (isIt (gsV2 a W undef m 0) (gsH0 G W cf l0 ws) V2 H2)) isT) := by kernel_rfl
theorem gs_allB (G : Gv) (W : Wv) (who i gen : Int) (disc : Bool) (V0 : List Value) (H0 : List Go.Sx.Blk) (V2 : List Value) (H2 : List Go.Sx.Blk) (V4 : List Value) (H4 : List Go.Sx.Blk) (a : GsA) (cf : Cf) (l0 ws : List Int) (m : Nat) (q : Gq) :
  (callV (gsEnv V0 H0 (gsO0 a G W cf l0 ws m) V2 H2 (gsO2 .normal a G W undef cf l0) V4 H4 (gsO4 G W q)) 60 12 [G.val, .int .u8 who, .int .i64 i, .int .i64 gen, .bool disc, W.val 3] (gsA G W)).run (Option Value) none (fun r => some r.1) =
    gsTop G W who i gen disc V0 H0 (bt (sure (isIt (gsV2 a W undef m 0) (gsH0 G W cf l0 ws) V2 H2)) (bt (rightC cf && okM a.N l0 && Nat.beq (cntN cf) a.N) (bt (sure (isIt (gsV4 W 0) (gsH4 G W (cntN cf) (cntN cf) a.N l0 (gsQ cf a.k a.i a.gen a.disc)) V4 H4)) (gsFin q)))) := by kernel_rfl
theorem gsTop_of {G : Gv} (hG : G.OK) {W : Wv} {who i gen : Int} {disc : Bool} {K : Option Value} (hn : W.nl ≤ 20) : gsTop G W who i gen disc (gsV0 ⟨i, gen, disc, atI G.cf.w who, cntN G.cf⟩ W G.l.length 0) (gsH0 G W G.cf G.l G.l) K = K := by
  obtain ⟨g1, g2⟩ := cpy_eq hG.okM
  obtain ⟨k1, _, _⟩ := okM_iff.1 hG.okM
  unfold gsTop
  rw [decide_eq_false (by omega), cond_false, bt_of hG.made, noW_of hG.right, cpyM_of hG.okM, g1, g2, ← k1, bt_of (isIt_refl _ _)]
theorem any_mem {P : Int → Bool} {l : List Int} (h : ∀ i : Nat, i < l.length → P (l.getD i 0) = false) : ∀ x ∈ l, P x = false := fun x hx => by
  obtain ⟨i, hi, rfl⟩ := List.mem_iff_getElem.1 hx
  have := h i hi
  rw [List.getD_eq_getElem?_getD, List.getElem?_eq_getElem hi] at this
  exact this
theorem gs_go (w : World) (hT : Tab w) (G : Gv) (hG : G.OK) (who : Int) (hwho : 0 ≤ who ∧ who ≤ 255) (i : Int) (hi : I64i i) (gen : Int) (hgen : I64i gen) (disc : Bool) (W : Wv) (hw : WrI W.gi W.nl) {σ : Nat → Option Pl} (hr : HR (· < w.heap.size) w 0 σ (gsA G W) w)
    {args' : Array Value} (hv : VRA σ [G.val, .int .u8 who, .int .i64 i, .int .i64 gen, .bool disc, W.val 3].toArray args') : Calls Tryd.prog 12 args' w fun e w' => e = .returned (.bool true) ∧ Below w.heap.size w w' := by
  have hc := hG.right
  have hok := hG.okM
  obtain ⟨k1, _, k3⟩ := okM_iff.1 hok
  have hN := hc.cntN
  have hEl := glEnv_ok _ w hT.lt (bnd_self w) hT
  let a : GsA := ⟨i, gen, disc, atI G.cf.w who, cntN G.cf⟩
  by_cases hn : W.nl ≤ 20
  case neg =>
    refine callV_start (fuel := 60) (gsEnvN_ok _ w hT.lt (bnd_self w) hT) rfl ?_ rfl hr hv
    rw [gs_big, decide_eq_true (by omega)]; rfl
  have hlen := wsI_length G.l W.gi W.nl
  have h0 := gs_lp0 a G W G.cf G.l hn (by omega)
  have hm : (wsI G.l W.gi W.nl).length ≤ 2000 := by omega
  rcases gs_rounds2 hEl a G W G.cf G.l (wsI G.l W.gi W.nl) hm (wsI G.l W.gi W.nl).length 0 (Nat.zero_add _) with ⟨j', hj1, hj2, _⟩ | ⟨hB, _⟩
  · -- it is its own
    have hex : ∃ i : Nat, i < (wsI G.l W.gi W.nl).length ∧ isLease a.k a.gen ((wsI G.l W.gi W.nl).getD i 0) = true := ⟨j', hj1, hj2⟩
    have h2 : LpAt 2 [2, 3, 4, 5, 12, 13, 14, 15, 16, 17, 19] [2, 3, 4, 5, 12, 13, 14, 15, 16] (gsV2 a W undef (G.l.length + W.nl) 0) (gsH0 G W G.cf G.l (wsI G.l W.gi W.nl)) (gsO2 .ret a G W (.bool true) G.cf G.l) := fun X w0 hE => by
      rw [gs_loop2, ← hlen]
      rcases gs_rounds2 hE a G W G.cf G.l (wsI G.l W.gi W.nl) hm (wsI G.l W.gi W.nl).length 0 (Nat.zero_add _) with ⟨j', _, _, h⟩ | ⟨h, _⟩
      · exact (h.runs.block_out (by simp)).norm (gs_norm2 .ret a G W _ (.inr rfl) G.cf G.l _ _ _) (Nat.zero_le _)
      · obtain ⟨i, g1, g2⟩ := hex
        rw [h i (Nat.zero_le _) g1] at g2; cases g2
    refine callV_start (fuel := 60) (gsEnvA_ok h0 h2 _ w hT.lt (bnd_self w) hT) rfl ?_ rfl hr hv
    rw [gs_allA, gsTop_of hG hn, bt_of (isIt_refl _ _)]; rfl
  · have hno := any_mem (P := isLease a.k a.gen) fun i hi => hB i (Nat.zero_le _) hi
    have h2 : LpAt 2 [2, 3, 4, 5, 12, 13, 14, 15, 16, 17, 19] [2, 3, 4, 5, 12, 13, 14, 15, 16] (gsV2 a W undef (G.l.length + W.nl) 0) (gsH0 G W G.cf G.l (wsI G.l W.gi W.nl)) (gsO2 .normal a G W undef G.cf G.l) := fun X w0 hE => by
      rw [gs_loop2, ← hlen]
      rcases gs_rounds2 hE a G W G.cf G.l (wsI G.l W.gi W.nl) hm (wsI G.l W.gi W.nl).length 0 (Nat.zero_add _) with ⟨j', g1, g2, _⟩ | ⟨_, h⟩
      · rw [hB j' (Nat.zero_le _) g1] at g2; cases g2
      · exact h.runs.block_exit.norm (gs_norm2 .normal a G W undef (.inl rfl) G.cf G.l _ _ _) (Nat.zero_le _)
    have hI : GsInv (cntN G.cf) G.cf a.k a.gen (⟨G.l, cntN G.cf, gsQ G.cf a.k i gen disc⟩ : G1s).l (⟨G.l, cntN G.cf, gsQ G.cf a.k i gen disc⟩ : G1s).q 0 :=
      ⟨hok, hG.I, fun x hx => hno x (wsI_old W.gi hx W.nl), rfl, rfl, rfl, .inl ⟨rfl, rfl⟩⟩
    have hnw : ∀ i, i < W.nl → isLease a.k a.gen (W.gi i 2) = false := fun i hi => hno _ (wsI_new G.l W.gi W.nl hi)
    have h4 := gs_lp4 G W (cntN G.cf) hc rfl hn hw hnw hI
    have hend := g1_inv hc rfl hw hnw hI 4
    refine callV_start (fuel := 60) (gsEnv_ok h0 h2 h4 _ w hT.lt (bnd_self w) hT) rfl ?_ rfl hr hv
    rw [gs_allB, gsTop_of hG hn, bt_of (isIt_refl _ _), bt_of (by rw [hG.rightC, show okM a.N G.l = true from hok, show Nat.beq (cntN G.cf) a.N = true from Nat.beq_refl _]; rfl), bt_of (isIt_refl _ _)]
    unfold gsFin
    rcases hend.st with ⟨h, _⟩ | ⟨h, _⟩ | ⟨_, h1, h2⟩
    · cases h
    · cases h
    · rw [h1]
      rcases h2 with h2 | h2 <;> rw [h2] <;> rfl
theorem gs_walk (w : World) (hT : Tab w) {v : Value} {a b c d e : Int} {A0 A1 A2 : Option Addr} {n0 c0 n1 c1 n2 c2 : Nat} {R0 R1 R2 : Go.Sx.Rows} (hg : GivenA w v a b c d e A0 n0 c0 R0 A1 n1 c1 R1 A2 n2 c2 R2) (x1 : Int) (b1 : 0 ≤ x1 ∧ x1 ≤ 255) (x2 : Int) (b2 : -9223372036854775808 ≤ x2 ∧ x2 ≤ 9223372036854775807) (x3 : Int) (b3 : -9223372036854775808 ≤ x3 ∧ x3 ≤ 9223372036854775807) (x4 : Bool) {B5 : Option Addr} {m5 q5 : Nat} {S5 : Go.Sx.Rows} (k5 : S5.ks = kWr) (r5 : ArgRow w B5 m5 q5 3 S5) :
    Calls Tryd.prog 12 #[v, .int .u8 x1, .int .i64 x2, .int .i64 x3, .bool x4, .slice B5 m5 q5] w fun e w' => e = .returned (.bool true) ∧ Below w.heap.size w w' := by
  have hw5 : WrI S5.gi m5 := fun i hi => ⟨U8_of_wf (r5.wf i 1 .u8 hi (by decide) (by rw [k5]; rfl)), I64_of_wf (r5.wf i 2 .i64 hi (by decide) (by rw [k5]; rfl))⟩
  have hval := hg.val
  have hfi : ∀ i, i < n1 → 0 ≤ R1.gi i 0 ∧ R1.gi i 0 ≤ 255 := fun i hi => U8_of_wf (hg.r1.wf i 0 .u8 hi (by decide) (by rw [hg.k1]; rfl))
  have q0 := hg.k0; have q1 := hg.k1; have q2 := hg.k2
  obtain ⟨ks0, R0gi, R0gb⟩ := R0
  obtain ⟨ks1, R1gi, R1gb⟩ := R1
  obtain ⟨ks2, R2gi, R2gb⟩ := R2
  simp only at q0 q1 q2
  subst q0 q1 q2
  let G : Gv := ⟨n0, n1, n2, c0, c1, c2, R0gi, R1gi, R2gi, R0gb, R1gb, R2gb, a, b, c, d, e⟩
  have hG : G.OK := ⟨hg.ha, hg.hb, hg.hc, hg.hd, hg.he, hfi⟩
  obtain ⟨ks5, S5gi, S5gb⟩ := S5
  simp only at k5
  subst k5
  let L : List ArgE := [(A0, n0, c0, 9, ⟨kSlot, R0gi, R0gb⟩), (A1, n1, c1, 1, ⟨[.it .u8], R1gi, R1gb⟩), (A2, n2, c2, 1, ⟨[.it .u8], R2gi, R2gb⟩), (B5, m5, q5, 3, ⟨kWr, S5gi, S5gb⟩)]
  let σ : Nat → Option Pl := fun k => (L[k]?).bind fun e : ArgE => plOf e.1 e.2.1 e.2.2.2.1
  have hL : ∀ e ∈ L, ArgRow w e.1 e.2.1 e.2.2.1 e.2.2.2.1 e.2.2.2.2 := by
    intro e he
    simp only [L, List.mem_cons, List.not_mem_nil, or_false] at he
    rcases he with rfl | rfl | rfl | rfl
    · exact hg.r0
    · exact hg.r1
    · exact hg.r2
    · exact r5
  have hr : HR (· < w.heap.size) w 0 σ ((L.map fun e : ArgE => (e.2.2.2.1, e.2.1, e.2.2.2.2)).map fun e => .rows false false e.1 e.2.1 e.2.2) w := args_hr _ (plOfs_some L hL)
  rw [hval]
  refine gs_go w hT G hG x1 b1 x2 b2 x3 b3 x4 ⟨m5, q5, S5gi, S5gb⟩ hw5 hr (VRA.of_list ?_)
  exact .cons (.agg rfl (VRA.of_list (.cons (.int _ _) (.cons (.int _ _) (.cons (.int _ _) (.cons (.int _ _) (.cons (.int _ _) (.cons (VR.argRow (σ := σ) (k := 0) hg.r0 rfl _) (.cons (VR.argRow (σ := σ) (k := 1) hg.r1 rfl _) (.cons (VR.argRow (σ := σ) (k := 2) hg.r2 rfl _) .nil))))))))).2) (.cons (.int _ _) (.cons (.int _ _) (.cons (.int _ _) (.cons (.bool _) (.cons (VR.argRow (σ := σ) (k := 3) r5 rfl _) .nil)))))
end Go.Proofs.YthfoljgaiincdaaDoor
