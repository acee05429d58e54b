/- RetireAges: the whole. No condition of its own. -/
import Derived.Test.YtcakklnacnnlaaaDoorRetAgesT
namespace Go.Proofs.YtcakklnacnnlaaaDoor
open Go.RowKit Go.Fld Go.Sx
set_option linter.unusedVariables false
set_option linter.unusedSimpArgs false
theorem dec_I {w : Int} {s : Slt} (h : decS w = some s) : I64i w := by
  have := (dec_enc s w (enc_of_dec h)).2
  exact ⟨by omega, by omega⟩
/-- What stands in the epoch's cell, and in the slot's. -/
structure AgAt (N : Nat) (c : Int) (n : Nat) (l : List Int) (e w : Int) : Prop where
  ok : okM N l = true
  at_ : CellAt N l c n
  two : CellAt N l 2 2
  ne : n ≠ 2
  e : l.getD 2 0 = e
  w : l.getD n 0 = w
theorem AgAt.add {N : Nat} {c : Int} {n : Nat} {l : List Int} {e w : Int} (h : AgAt N c n l e w) (d : Int) : AgAt N c n (addS N l 2 d) (w64 (e + d)) w := by
  have e1 : addS N l 2 d = l.set 2 (w64 (e + d)) := by unfold addS; rw [h.two.st, h.two.ld, h.e]
  rw [e1]
  exact ⟨by rw [← e1, okM_add]; exact h.ok, h.at_.set _ _, h.two.set _ _, h.ne, getD_set_eq h.two.lt' _, by rw [getD_set_ne (Ne.symm h.ne)]; exact h.w⟩
theorem AgAt.cas {N : Nat} {c : Int} {n : Nat} {l : List Int} {e w : Int} (h : AgAt N c n l e w) (v : Int) : casB N l c w = true ∧ AgAt N c n (casS N l c w v) e v := by
  obtain ⟨g1, g2⟩ := h.at_.cas_yes h.w v
  refine ⟨g1, ?_⟩
  have hok : okM N (casS N l c w v) = true := by rw [okM_cas]; exact h.ok
  rw [g2] at hok ⊢
  exact ⟨hok, h.at_.set _ _, h.two.set _ _, h.ne, by rw [getD_set_ne h.ne]; exact h.e, getD_set_eq h.at_.lt' _⟩
theorem AgAt.ld2 {N : Nat} {c : Int} {n : Nat} {l : List Int} {e w : Int} (h : AgAt N c n l e w) : ldS N l 2 = e := h.two.ld.trans h.e
theorem AgAt.ld {N : Nat} {c : Int} {n : Nat} {l : List Int} {e w : Int} (h : AgAt N c n l e w) : ldS N l c = w := h.at_.ld.trans h.w
/-- One round where all is well. -/
theorem a1W_of {cf : Cf} {N : Nat} {i d : Int} {s : A1s} {ep : Int} {R X : Option (Exit × List Value × List Go.Sx.Blk)} (h1 : okM N s.l = true) (h2 : okM N (a1L N d s) = true) (hf : rOK s.q.f = true) (h3 : okM N (a1M N d s) = true) {t : Slt} (hd : a1D cf N i d s = some t) (ht : t.st = 6) (he : t.ep = ep) : a1W cf N i d s ep R X = X := by
  unfold a1W
  rw [bt_of h1, bt_of h2, bt_of (by rw [h2, hf]; rfl), bt_of h3, hd]
  show (bif t.st != 6 then R else bif t.ep != ep then R else X) = X
  rw [ht, he, bne_self_eq_false, bne_self_eq_false]; rfl
structure Ages where
  cf : Cf
  i : Nat
  w0 : Int
  w1 : Int
  w2 : Int
  t1 : Slt
  t2 : Slt
  E : Int
structure Ages.OK (A : Ages) : Prop where
  a1 : aftS decS A.w0 11 0 4095 = some A.w1
  d1 : decS A.w1 = some A.t1
  s1 : A.t1.st = 6
  p1 : A.t1.ep = 4095
  a2 : aftS decS A.w1 17 0 A.E = some A.w2
  d2 : decS A.w2 = some A.t2
  s2 : A.t2.st = 6
  p2 : A.t2.ep = A.E
def Ages.c (A : Ages) : Int := cellC A.cf A.i
theorem ages0 {A : Ages} (hA : A.OK) {N n : Nat} {s : A1s} {e : Int} (h : AgAt N A.c n s.l e A.w0) (hc : s.q.cell = A.c) (hw : s.q.word = A.w0) (hf : s.q.f = fSwap) (d : Int) :
    a1D A.cf N A.i d s = some A.t1 ∧ okM N (a1L N d s) = true ∧ okM N (a1M N d s) = true ∧ AgAt N A.c n (a1M N d s) (w64 (e + d)) A.w1 ∧ (a1Q N d s).cell = A.c ∧ (a1Q N d s).word = A.w1 ∧ (a1Q N d s).f = fLook := by
  have h1 := h.add d
  have hn : rNext s.q = some A.w1 := by unfold rNext; rw [hw]; exact hA.a1
  obtain ⟨g1, g2⟩ := h1.cas A.w1
  have hh : rHit N (a1L N d s) s.q = true := by unfold rHit; rw [hn, hc, hw]; exact g1
  have e1 : a1M N d s = casS N (addS N s.l 2 d) A.c A.w0 A.w1 := by unfold a1M; rw [rmem_swap hf, hn, hc, hw]; rfl
  have e2 : a1Q N d s = ⟨A.c, A.w1, s.q.ep, fLook, true, s.q.dn⟩ := by unfold a1Q; rw [rstep_swap hf, hh, hn, hc]; rfl
  rw [e2]
  unfold a1D
  rw [e1]
  exact ⟨by rw [show cellC A.cf A.i = A.c from rfl, g2.ld, decA_eq _ (dec_I hA.d1)]; exact hA.d1, h1.ok, g2.ok, g2, rfl, rfl, rfl⟩
theorem ages1 {A : Ages} (hA : A.OK) {N n : Nat} {s : A1s} {e : Int} (h : AgAt N A.c n s.l e A.w1) (hc : s.q.cell = A.c) (hw : s.q.word = A.w1) (hf : s.q.f = fLook) (d : Int) :
    a1D A.cf N A.i d s = some A.t1 ∧ okM N (a1L N d s) = true ∧ okM N (a1M N d s) = true ∧ AgAt N A.c n (a1M N d s) (w64 (e + d)) A.w1 ∧ (a1Q N d s).cell = A.c ∧ (a1Q N d s).word = A.w1 ∧ (a1Q N d s).f = fAge ∧ (a1Q N d s).ep = w64 (e + d) ∧ a1E N d s = w64 (e + d) := by
  have h1 := h.add d
  have e1 : a1M N d s = addS N s.l 2 d := by unfold a1M; rw [rmem_look hf]; rfl
  have e2 : a1Q N d s = ⟨s.q.cell, s.q.word, ldS N (addS N s.l 2 d) 2, fAge, s.q.sw, s.q.dn⟩ := by unfold a1Q; rw [rstep_look hf]; rfl
  rw [e2]
  unfold a1D a1E
  rw [e1]
  exact ⟨by rw [show cellC A.cf A.i = A.c from rfl, h1.ld, decA_eq _ (dec_I hA.d1)]; exact hA.d1, h1.ok, h1.ok, h1, hc, hw, rfl, h1.ld2, h1.ld2⟩
theorem ages2 {A : Ages} (hA : A.OK) {N n : Nat} {s : A1s} {e : Int} (h : AgAt N A.c n s.l e A.w1) (hc : s.q.cell = A.c) (hw : s.q.word = A.w1) (hf : s.q.f = fAge) (he : s.q.ep = A.E) (d : Int) :
    a1D A.cf N A.i d s = some A.t2 ∧ okM N (a1L N d s) = true ∧ okM N (a1M N d s) = true ∧ AgAt N A.c n (a1M N d s) (w64 (e + d)) A.w2 ∧ (a1Q N d s).f = fGoOn := by
  have h1 := h.add d
  have hn : rAged s.q = some A.w2 := by unfold rAged; rw [hw, he]; exact hA.a2
  obtain ⟨g1, g2⟩ := h1.cas A.w2
  have e1 : a1M N d s = casS N (addS N s.l 2 d) A.c A.w1 A.w2 := by unfold a1M; rw [rmem_age hf, hn, hc, hw]; rfl
  have e2 : (a1Q N d s).f = fGoOn := by unfold a1Q; rw [rstep_age hf]
  unfold a1D
  rw [e1]
  exact ⟨by rw [show cellC A.cf A.i = A.c from rfl, g2.ld, decA_eq _ (dec_I hA.d2)]; exact hA.d2, h1.ok, g2.ok, g2, e2⟩
theorem ages3 {A : Ages} (hA : A.OK) {N n : Nat} {s : A1s} {e : Int} (h : AgAt N A.c n s.l e A.w2) (hf : s.q.f = fGoOn) (d : Int) :
    a1D A.cf N A.i d s = some A.t2 ∧ okM N (a1L N d s) = true ∧ okM N (a1M N d s) = true ∧ AgAt N A.c n (a1M N d s) (w64 (w64 (e + d) + 1)) A.w2 ∧ a1E N d s = w64 (e + d) := by
  have h1 := h.add d
  have h2 := h1.add 1
  have e1 : a1M N d s = addS N (addS N s.l 2 d) 2 1 := by unfold a1M; rw [rmem_go hf]; rfl
  unfold a1D a1E
  rw [e1]
  exact ⟨by rw [show cellC A.cf A.i = A.c from rfl, h2.ld, decA_eq _ (dec_I hA.d2)]; exact hA.d2, h1.ok, h2.ok, h2, h1.ld2⟩
def raD (T : Uv) (k : Nat) : Int := w64 (T.ti k 0)
def raSt1 (cf : Cf) (N : Nat) (i : Int) (T : Uv) (s : A1s) : A1s := a1S cf N i (raD T 0) s 0
def raSt2 (cf : Cf) (N : Nat) (i : Int) (T : Uv) (s : A1s) : A1s := a1S cf N i (raD T 1) (raSt1 cf N i T s) 1
def raSt3 (cf : Cf) (N : Nat) (i : Int) (T : Uv) (s : A1s) : A1s := a1S cf N i (raD T 2) (raSt2 cf N i T s) 2
def raSt4 (cf : Cf) (N : Nat) (i : Int) (T : Uv) (s : A1s) : A1s := a1S cf N i (raD T 3) (raSt3 cf N i T s) 3
theorem ra_rounds {X : Nat → Prop} {w0 : World} (hE : EnvOK rlEnv X w0) (G : Gv) (T : Uv) (C ct : Nat) {A : Ages} (hA : A.OK) {N n : Nat} {s : A1s} {e : Int} (hn : T.nt = 4) (h : AgAt N A.c n s.l e A.w0) (hc : s.q.cell = A.c) (hw : s.q.word = A.w0) (hf : s.q.f = fSwap) (hEp : w64 (w64 (e + raD T 0) + raD T 1) = A.E) :
    LoopRunsB Tryd.prog X w0 0 4 raRound (unpack 138 [2, 7, 8, 10, 11, 14, 15, 16] (raV 4 ct A.i 0) (raH G T A.cf N C s)) (.exit 0) (unpack 138 [2, 7, 8, 10, 11, 14, 15, 16] (raV 4 ct A.i 4) (raH G T A.cf N C (raSt4 A.cf N A.i T s))) ∧
    okM N (raSt4 A.cf N A.i T s).l = true ∧ ldS N (raSt4 A.cf N A.i T s).l 2 = w64 ((raSt4 A.cf N A.i T s).e3 + 1) := by
  obtain ⟨x1, x2, x3, x4, x5, x6, x7⟩ := ages0 hA h hc hw hf (raD T 0)
  obtain ⟨y1, y2, y3, y4, y5, y6, y7, y8, y9⟩ := ages1 hA (s := raSt1 A.cf N A.i T s) x4 x5 x6 x7 (raD T 1)
  obtain ⟨z1, z2, z3, z4, z5⟩ := ages2 hA (s := raSt2 A.cf N A.i T s) y4 y5 y6 y7 (y8.trans hEp) (raD T 2)
  obtain ⟨v1, v2, v3, v4, v5⟩ := ages3 hA (s := raSt3 A.cf N A.i T s) z4 z5 (raD T 3)
  have t0 : (roundV rlEnv 40 noLps 138 [2, 7, 8, 10, 11, 14, 15, 16] 4 raRound (unpack 138 [2, 7, 8, 10, 11, 14, 15, 16] (raV 4 ct A.i 0) (raH G T A.cf N C s))).get = some (.normal, raV 4 ct A.i 1, raH G T A.cf N C (raSt1 A.cf N A.i T s)) :=
    (ra_tree0 G T A.cf N C ct s A.i).trans ((bt_of (by rw [hn]; rfl)).trans (a1W_of (d := raD T 0) h.ok x2 (by rw [hf]; rfl) x3 x1 hA.s1 hA.p1))
  have t1 : (roundV rlEnv 40 noLps 138 [2, 7, 8, 10, 11, 14, 15, 16] 4 raRound (unpack 138 [2, 7, 8, 10, 11, 14, 15, 16] (raV 4 ct A.i 1) (raH G T A.cf N C (raSt1 A.cf N A.i T s)))).get = some (.normal, raV 4 ct A.i 2, raH G T A.cf N C (raSt2 A.cf N A.i T s)) :=
    (ra_tree1 G T A.cf N C ct (raSt1 A.cf N A.i T s) A.i).trans ((bt_of (by rw [hn]; rfl)).trans (a1W_of (d := raD T 1) x4.ok y2 (rOK_of (.inr (.inl x7))) y3 y1 hA.s1 hA.p1))
  have t2 : (roundV rlEnv 40 noLps 138 [2, 7, 8, 10, 11, 14, 15, 16] 4 raRound (unpack 138 [2, 7, 8, 10, 11, 14, 15, 16] (raV 4 ct A.i 2) (raH G T A.cf N C (raSt2 A.cf N A.i T s)))).get = some (.normal, raV 4 ct A.i 3, raH G T A.cf N C (raSt3 A.cf N A.i T s)) :=
    (ra_tree2 G T A.cf N C ct (raSt2 A.cf N A.i T s) A.i).trans ((bt_of (by rw [hn]; rfl)).trans (a1W_of (d := raD T 2) y4.ok z2 (rOK_of (.inr (.inr (.inl y7)))) z3 z1 hA.s2 (hA.p2.trans (hEp.symm.trans y9.symm))))
  have t3 : (roundV rlEnv 40 noLps 138 [2, 7, 8, 10, 11, 14, 15, 16] 4 raRound (unpack 138 [2, 7, 8, 10, 11, 14, 15, 16] (raV 4 ct A.i 3) (raH G T A.cf N C (raSt3 A.cf N A.i T s)))).get = some (.normal, raV 4 ct A.i 4, raH G T A.cf N C (raSt4 A.cf N A.i T s)) :=
    (ra_tree3 G T A.cf N C ct (raSt3 A.cf N A.i T s) A.i).trans ((bt_of (by rw [hn]; rfl)).trans (a1W_of (d := raD T 3) z4.ok v2 (rOK_of (.inr (.inr (.inr (.inl z5))))) v3 v1 hA.s2 (hA.p2.trans (hEp.symm.trans y9.symm))))
  have t4 := ra_tree4 G T A.cf N C ct (raSt4 A.cf N A.i T s) A.i
  have hb : 4 ≤ 9 := by decide
  refine ⟨LoopRunsB.step (round_runs hE (noLps_ok _) t0 (Nat.zero_le _) hb) (LoopRunsB.step (round_runs hE (noLps_ok _) t1 (Nat.zero_le _) hb) (LoopRunsB.step (round_runs hE (noLps_ok _) t2 (Nat.zero_le _) hb) (LoopRunsB.step (round_runs hE (noLps_ok _) t3 (Nat.zero_le _) hb) (LoopRunsB.exit (round_runs hE (noLps_ok _) t4 (Nat.zero_le _) hb) (by simp))))), v4.ok, ?_⟩
  rw [show ldS N (raSt4 A.cf N A.i T s).l 2 = _ from v4.ld2]
  show _ = w64 (a1E N (raD T 3) (raSt3 A.cf N A.i T s) + 1)
  rw [v5]
noncomputable def raEnv (V1 : List Value) (H1 : List Go.Sx.Blk) (o1 : Exit × List Value × List Go.Sx.Blk) : Env := mkEnv Tryd.prog rlFns [slotEq] rl1 [(9, 0, loopV 138 [2, 7, 8, 10, 11, 14, 15, 16] [7, 11, 15] (specC V1 H1 o1) 4)]
theorem raEnv_ok (V1 : List Value) (H1 : List Go.Sx.Blk) (o1 : Exit × List Value × List Go.Sx.Blk) (h : ∀ (X : Nat → Prop) (w0 : World), EnvOK rlEnv X w0 → RunsB Tryd.prog X w0 0 4 (.block 0 (blkAt 0 raBody)) (unpack 138 [2, 7, 8, 10, 11, 14, 15, 16] V1 H1) o1.1 (unpack 138 [7, 11, 15] o1.2.1 o1.2.2)) (X : Nat → Prop) (w0 : World) (hX : X 0) (hB : Bnd X w0) (hT : Tab w0) : EnvOK (raEnv V1 H1 o1) X w0 :=
  mkEnv_ok slotEq_ok (by kernel_rfl) rlFns_ok rl1_ok (lpSounds_cons (lpSound_const (c := raBody) Tryd.func9 (by kernel_rfl) (by kernel_rfl) fun X W0 h0 hB hT => h X W0 (rlEnv_ok X W0 h0 hB hT)) lpSounds_nil) hX hB hT
/-! ### The whole -/
def raQ (cf : Cf) (l : List Int) (i : Int) : Rq := ⟨cellC cf i, l.getD (0 + (cellC cf i).toNat) 0, 0, fSwap, false, false⟩
def raS (cf : Cf) (l : List Int) (i : Int) : A1s := ⟨l, cntN cf, raQ cf l i, 0, 0, 0, 0⟩
def raZ (cf : Cf) (l : List Int) (i : Int) : Slt := slt0 (decA (l.getD (0 + (cellC cf i).toNat) 0))
noncomputable def raGo (G : Gv) (T : Uv) (i : Int) (V1 : List Value) (H1 : List Go.Sx.Blk) (N : Nat) (s : A1s) : Option Value :=
  bt (sure (isIt (raV T.nt T.ct i 0) (raH G T G.cf (cntN G.cf) (cntN G.cf) (raS G.cf G.l i)) V1 H1)) (bt (okM N s.l) (some (.bool (ldS N s.l 2 == w64 (s.e3 + 1)))))
theorem ra_all (G G' : Gv) (T T' : Uv) (at_ : Int) (V1 : List Value) (H1 : List Go.Sx.Blk) (N C : Nat) (s : A1s) :
  (callV (raEnv V1 H1 (raO G' T' N C s)) 60 9 [G.val, .int .u8 at_, .slice (some ⟨3, 0, some 2⟩) T.nt T.ct] (raA G T)).run (Option Value) none (fun r => some r.1) =
    bif ((T.nt : Int) != 4) then isT else bt (mdC G.cf G.ns G.nf G.np) (noS G.cf (bt (ldG G.cf G.l) (ixC G.cf G.l (atI G.cf.s at_) (ixC G.cf G.l (atI G.cf.s at_)
      (bif (raZ G.cf G.l (atI G.cf.s at_)).st != 2 then (bif (raZ G.cf G.l (atI G.cf.s at_)).st != 3 then isT else raGo G T (atI G.cf.s at_) V1 H1 N s) else raGo G T (atI G.cf.s at_) V1 H1 N s))))) := by kernel_rfl
/-- A loop that is not met. -/
theorem ra_never : ∀ (X : Nat → Prop) (w0 : World), EnvOK rlEnv X w0 → RunsB Tryd.prog X w0 0 4 (.block 0 (blkAt 0 raBody)) (unpack 138 [2, 7, 8, 10, 11, 14, 15, 16] (raV 4 0 0 4) (raH ⟨0, 0, 0, 0, 0, 0, fun _ _ => 0, fun _ _ => 0, fun _ _ => 0, fun _ _ => false, fun _ _ => false, fun _ _ => false, 0, 0, 0, 0, 0⟩ ⟨0, 0, fun _ _ => 0, fun _ _ => false⟩ ⟨0, 0, 0, 0, 0⟩ 0 0 ⟨[], 0, ⟨0, 0, 0, 0, false, false⟩, 0, 0, 0, 0⟩)) .normal (unpack 138 [7, 11, 15] (raO ⟨0, 0, 0, 0, 0, 0, fun _ _ => 0, fun _ _ => 0, fun _ _ => 0, fun _ _ => false, fun _ _ => false, fun _ _ => false, 0, 0, 0, 0, 0⟩ ⟨0, 0, fun _ _ => 0, fun _ _ => false⟩ 0 0 ⟨[], 0, ⟨0, 0, 0, 0, false, false⟩, 0, 0, 0, 0⟩).2.1 (raO ⟨0, 0, 0, 0, 0, 0, fun _ _ => 0, fun _ _ => 0, fun _ _ => 0, fun _ _ => false, fun _ _ => false, fun _ _ => false, 0, 0, 0, 0, 0⟩ ⟨0, 0, fun _ _ => 0, fun _ _ => false⟩ 0 0 ⟨[], 0, ⟨0, 0, 0, 0, false, false⟩, 0, 0, 0, 0⟩).2.2) := by
  intro X w0 hE
  rw [ra_loop]
  have h := LoopRunsB.exit (round_runs hE (noLps_ok _) (ra_tree4 ⟨0, 0, 0, 0, 0, 0, fun _ _ => 0, fun _ _ => 0, fun _ _ => 0, fun _ _ => false, fun _ _ => false, fun _ _ => false, 0, 0, 0, 0, 0⟩ ⟨0, 0, fun _ _ => 0, fun _ _ => false⟩ ⟨0, 0, 0, 0, 0⟩ 0 0 0 ⟨[], 0, ⟨0, 0, 0, 0, false, false⟩, 0, 0, 0, 0⟩ 0) (Nat.zero_le _) (show 4 ≤ 9 by decide)) (by simp)
  exact h.runs.block_exit.norm (ra_norm _ _ _ 0 0 0 _ 0 4) (Nat.zero_le _)
theorem ra_go (w : World) (hT : Tab w) (G : Gv) (hG : G.OK) (at_ : Int) (ha : 0 ≤ at_ ∧ at_ ≤ 255) (nt ct : Nat) (ti : Nat → Nat → Int) (tb : Nat → Nat → Bool) (hu : ∀ i, i < nt → 0 ≤ ti i 0 ∧ ti i 0 ≤ 255) {σ : Nat → Option Pl} (hr : HR (· < w.heap.size) w 0 σ (raA G ⟨nt, ct, ti, tb⟩) w)
    {args' : Array Value} (hv : VRA σ [G.val, .int .u8 at_, .slice (some ⟨3, 0, some 2⟩) nt ct].toArray args') : Calls Tryd.prog 9 args' w fun e w' => e = .returned (.bool true) ∧ Below w.heap.size w w' := by
  have hc := hG.right
  have hok := hG.okM
  obtain ⟨i, hi, his⟩ := atI_in (m := G.cf.s) hc.s.1 ha
  obtain ⟨e1, e2, e3, e4⟩ := slotCell_in hc his
  obtain ⟨g1, _, _⟩ := okM_iff.1 hok
  have hw := hc.w
  have hN := hc.cntN
  obtain ⟨s0, hs⟩ := Option.isSome_iff_exists.1 (hG.D i his)
  have F := dec_facts hs
  have hz : raZ G.cf G.l i = s0 := by unfold raZ; rw [Nat.zero_add, decA_eq _ (dec_I hs), hs]; rfl
  by_cases hnt : nt = 4
  case neg =>
    refine callV_start (fuel := 60) (raEnv_ok _ _ _ ra_never _ w hT.lt (bnd_self w) hT) rfl ?_ rfl hr hv
    rw [ra_all G _ ⟨nt, ct, ti, tb⟩]
    rw [show (((⟨nt, ct, ti, tb⟩ : Uv).nt : Int) != 4) = true from bne_iff_ne.2 (by show (nt : Int) ≠ 4; omega)]; rfl
  subst hnt
  by_cases h23 : s0.st = 2 ∨ s0.st = 3
  case neg =>
    refine callV_start (fuel := 60) (raEnv_ok _ _ _ ra_never _ w hT.lt (bnd_self w) hT) rfl ?_ rfl hr hv
    rw [ra_all G _ ⟨4, ct, ti, tb⟩, bt_of hG.made, noS_of hc, bt_of hG.ld, hi, ixC_of hc hok his, ixC_of hc hok his, hz]
    have b2 : (s0.st != 2) = true := by simp only [bne_iff_ne]; omega
    have b3 : (s0.st != 3) = true := by simp only [bne_iff_ne]; omega
    rw [b2, b3]; rfl
  have hep := hG.ep
  have u0 := hu 0 (by decide)
  have u1 := hu 1 (by decide)
  have hn1 := next_retire F (more := 4095) (by decide) (by decide)
  rw [if_pos h23] at hn1
  obtain ⟨w1, a1, d1⟩ := aft_of hs hn1
  have F1 := dec_facts d1
  have hE1 : w64 (w64 (G.l.getD 2 0 + w64 (ti 0 0)) + w64 (ti 1 0)) = G.l.getD 2 0 + ti 0 0 + ti 1 0 := by
    rw [w64_in (x := ti 0 0) ⟨by omega, by omega⟩, w64_in (x := ti 1 0) ⟨by omega, by omega⟩, w64_in (x := G.l.getD 2 0 + ti 0 0) ⟨by omega, by omega⟩, w64_in ⟨by omega, by omega⟩]
  have hn2 := next_age F1 (more := G.l.getD 2 0 + ti 0 0 + ti 1 0) (by omega) (by omega)
  rw [if_pos rfl] at hn2
  obtain ⟨w2, a2, d2⟩ := aft_of d1 hn2
  let A : Ages := ⟨G.cf, i, G.l.getD (cellC G.cf i).toNat 0, w1, w2, ⟨6, 0, 0, false, false, 0, s0.gen, 4095, (s0.ver + 1) % 32768⟩, ⟨6, 0, 0, false, false, 0, s0.gen, G.l.getD 2 0 + ti 0 0 + ti 1 0, ((s0.ver + 1) % 32768 + 1) % 32768⟩, G.l.getD 2 0 + ti 0 0 + ti 1 0⟩
  have hA : A.OK := ⟨a1, d1, rfl, rfl, a2, d2, rfl, rfl⟩
  have hat : AgAt (cntN G.cf) A.c (cellC G.cf i).toNat (raS G.cf G.l i).l (G.l.getD 2 0) A.w0 := ⟨hok, ⟨by show cellC G.cf i = _; omega, g1, e4⟩, ⟨rfl, g1, by omega⟩, by omega, rfl, rfl⟩
  have hEp : w64 (w64 (G.l.getD 2 0 + raD ⟨4, ct, ti, tb⟩ 0) + raD ⟨4, ct, ti, tb⟩ 1) = A.E := hE1
  have hrd : ∀ (X : Nat → Prop) (w0 : World), EnvOK rlEnv X w0 → _ := fun X w0 hE => ra_rounds hE G ⟨4, ct, ti, tb⟩ (cntN G.cf) ct hA (s := raS G.cf G.l i) rfl hat rfl (by show G.l.getD (0 + (cellC G.cf i).toNat) 0 = G.l.getD (cellC G.cf i).toNat 0; rw [Nat.zero_add]) rfl hEp
  obtain ⟨_, f1, f2⟩ := hrd _ w (rlEnv_ok _ w hT.lt (bnd_self w) hT)
  have hE := raEnv_ok (raV 4 ct i 0) (raH G ⟨4, ct, ti, tb⟩ G.cf (cntN G.cf) (cntN G.cf) (raS G.cf G.l i)) (raO G ⟨4, ct, ti, tb⟩ (cntN G.cf) (cntN G.cf) (raSt4 G.cf (cntN G.cf) i ⟨4, ct, ti, tb⟩ (raS G.cf G.l i))) (fun X w0 hE => by
    rw [ra_loop]
    exact (hrd X w0 hE).1.runs.block_exit.norm (ra_norm G ⟨4, ct, ti, tb⟩ G.cf (cntN G.cf) (cntN G.cf) ct _ i 4) (Nat.zero_le _)) _ w hT.lt (bnd_self w) hT
  refine callV_start (fuel := 60) hE rfl ?_ rfl hr hv
  rw [ra_all G G ⟨4, ct, ti, tb⟩ ⟨4, ct, ti, tb⟩, bt_of hG.made, noS_of hc, bt_of hG.ld, hi, ixC_of hc hok his, ixC_of hc hok his, hz]
  have hgo : raGo G ⟨4, ct, ti, tb⟩ i (raV 4 ct i 0) (raH G ⟨4, ct, ti, tb⟩ G.cf (cntN G.cf) (cntN G.cf) (raS G.cf G.l i)) (cntN G.cf) (raSt4 G.cf (cntN G.cf) i ⟨4, ct, ti, tb⟩ (raS G.cf G.l i)) = isT := by
    unfold raGo
    rw [bt_of (isIt_refl _ _), bt_of f1, f2, beq_self_eq_true]; rfl
  rw [hgo]
  rcases h23 with h | h <;> rw [h] <;> rfl
theorem ra_walk (w : World) (hT : Tab w) {v : Value} {a b c d e : Int} {A0 A1 A2 : Option Addr} {n0 c0 n1 c1 n2 c2 : Nat} {R0 R1 R2 : Go.Sx.Rows} (hg : GivenA w v a b c d e A0 n0 c0 R0 A1 n1 c1 R1 A2 n2 c2 R2) (x1 : Int) (b1 : 0 ≤ x1 ∧ x1 ≤ 255) {B2 : Option Addr} {m2 q2 : Nat} {S2 : Go.Sx.Rows} (k2 : S2.ks = [.it .u8]) (r2 : ArgRow w B2 m2 q2 1 S2) :
    Calls Tryd.prog 9 #[v, .int .u8 x1, .slice B2 m2 q2] w fun e w' => e = .returned (.bool true) ∧ Below w.heap.size w w' := by
  have hw2 : ∀ i, i < m2 → 0 ≤ S2.gi i 0 ∧ S2.gi i 0 ≤ 255 := fun i hi => U8_of_wf (r2.wf i 0 .u8 hi (by decide) (by rw [k2]; rfl))
  have hval := hg.val
  have hfi : ∀ i, i < n1 → 0 ≤ R1.gi i 0 ∧ R1.gi i 0 ≤ 255 := fun i hi => U8_of_wf (hg.r1.wf i 0 .u8 hi (by decide) (by rw [hg.k1]; rfl))
  have q0 := hg.k0; have q1 := hg.k1; have q2 := hg.k2
  obtain ⟨ks0, R0gi, R0gb⟩ := R0
  obtain ⟨ks1, R1gi, R1gb⟩ := R1
  obtain ⟨ks2, R2gi, R2gb⟩ := R2
  simp only at q0 q1 q2
  subst q0 q1 q2
  let G : Gv := ⟨n0, n1, n2, c0, c1, c2, R0gi, R1gi, R2gi, R0gb, R1gb, R2gb, a, b, c, d, e⟩
  have hG : G.OK := ⟨hg.ha, hg.hb, hg.hc, hg.hd, hg.he, hfi⟩
  obtain ⟨ks2, S2gi, S2gb⟩ := S2
  simp only at k2
  subst k2
  let L : List ArgE := [(A0, n0, c0, 9, ⟨kSlot, R0gi, R0gb⟩), (A1, n1, c1, 1, ⟨[.it .u8], R1gi, R1gb⟩), (A2, n2, c2, 1, ⟨[.it .u8], R2gi, R2gb⟩), (B2, m2, q2, 1, ⟨[.it .u8], S2gi, S2gb⟩)]
  let σ : Nat → Option Pl := fun k => (L[k]?).bind fun e : ArgE => plOf e.1 e.2.1 e.2.2.2.1
  have hL : ∀ e ∈ L, ArgRow w e.1 e.2.1 e.2.2.1 e.2.2.2.1 e.2.2.2.2 := by
    intro e he
    simp only [L, List.mem_cons, List.not_mem_nil, or_false] at he
    rcases he with rfl | rfl | rfl | rfl
    · exact hg.r0
    · exact hg.r1
    · exact hg.r2
    · exact r2
  have hr : HR (· < w.heap.size) w 0 σ ((L.map fun e : ArgE => (e.2.2.2.1, e.2.1, e.2.2.2.2)).map fun e => .rows false false e.1 e.2.1 e.2.2) w := args_hr _ (plOfs_some L hL)
  rw [hval]
  refine ra_go w hT G hG x1 b1 m2 q2 S2gi S2gb hw2 hr (VRA.of_list ?_)
  exact .cons (.agg rfl (VRA.of_list (.cons (.int _ _) (.cons (.int _ _) (.cons (.int _ _) (.cons (.int _ _) (.cons (.int _ _) (.cons (VR.argRow (σ := σ) (k := 0) hg.r0 rfl _) (.cons (VR.argRow (σ := σ) (k := 1) hg.r1 rfl _) (.cons (VR.argRow (σ := σ) (k := 2) hg.r2 rfl _) .nil))))))))).2) (.cons (.int _ _) (.cons (VR.argRow (σ := σ) (k := 3) r2 rfl _) .nil))
end Go.Proofs.YtcakklnacnnlaaaDoor
