/- RetirePlays: its loop, the whole. No condition of its own. -/
import Derived.Test.YtcakklnacnnlaaaDoorRetPlaysT
namespace Go.Proofs.YtcakklnacnnlaaaDoor
open Go.RowKit Go.Fld Go.Sx
set_option linter.unusedVariables false
set_option linter.unusedSimpArgs false
structure RpS where
  tp : Int
  tr : Int
  l : List Int
  q : Rq
  h : Rr
abbrev rpS (G : Gv) (W : Wv) (N C : Nat) (s : RpS) : List Go.Sx.Blk := rpH G W N C s.tp s.tr s.l s.l s.q s.h
theorem rp_round (G : Gv) (W : Wv) (N C : Nat) (s : RpS) (i : Nat) (hi : i < 6) (hl : W.nl ≤ 20) (hw : WrI W.gi W.nl) (H : RpInv N s.l s.q s.h) :
    ∃ s' : RpS, RpInv N s'.l s'.q s'.h ∧ (roundV rlEnv 40 noLps 142 [4, 11, 15, 16, 17, 18, 19] 4 rpRound (unpack 142 [4, 11, 15, 16, 17, 18, 19] (rpV W i) (rpS G W N C s))).get = some (.normal, rpV W ((i + 1 : Nat) : Int), rpS G W N C s') := by
  have H0 := H.wrs hw i
  have R := rp_step H0
  have hN := (okM_iff.1 H.ok).2.1
  have hs : smallN W.nl = true := Nat.ble_eq_true_of_le (by omega)
  have hm : okM N (rmem N (wrsL N W.gi i W.nl s.l) s.q) = true := R.inv.ok
  have hL : lenOK N (rmem N (wrsL N W.gi i W.nl s.l) s.q) = true := by
    have hf := hm
    unfold okM at hf
    rw [Bool.and_eq_true, Bool.and_eq_true] at hf
    unfold lenOK
    rw [hf.1.1, hf.2]; rfl
  refine ⟨⟨rtch N s.q (wrsT N W.gi i W.nl s.tp), rrtch N s.h s.tr, rmem N (wrsL N W.gi i W.nl s.l) s.q, rstep N (wrsL N W.gi i W.nl s.l) s.q, rrstep N (wrsL N W.gi i W.nl s.l) s.h⟩, R.inv, ?_⟩
  rw [rp_tree, decide_eq_true (by omega : (i : Int) < 6), bt_of (by rw [H.ok, Nat.beq_refl, hs]; rfl), bt_of (by rw [H.ok, Nat.beq_refl, hs, wrOK_of hN hw]; rfl), bt_of (by rw [H0.ok, H0.f]; rfl), bt_of H0.ok,
    R.ret, beq_self_eq_true, R.inv.sw, beq_self_eq_true, R.inv.dn, beq_self_eq_true, R.tch, bne_self_eq_false, bt_of hm, ← R.mem, bt_of (by rw [hL]; rfl), decide_eq_true rfl, w64_succ (by omega)]
  rfl
theorem rp_rounds {X : Nat → Prop} {w0 : World} (hE : EnvOK rlEnv X w0) (G : Gv) (W : Wv) (N C : Nat) (hl : W.nl ≤ 20) (hw : WrI W.gi W.nl) : ∀ (m i : Nat) (s : RpS), i + m = 6 → RpInv N s.l s.q s.h →
    ∃ s' : RpS, LoopRunsB Tryd.prog X w0 0 4 rpRound (unpack 142 [4, 11, 15, 16, 17, 18, 19] (rpV W i) (rpS G W N C s)) (.exit 0) (unpack 142 [4, 11, 15, 16, 17, 18, 19] (rpV W 6) (rpS G W N C s'))
  | 0, i, s, hi, H => by
    obtain rfl : i = 6 := by omega
    have ht := rp_tree G W N C s.tp s.tr s.l s.l s.q s.h 6
    rw [decide_eq_false (by omega)] at ht
    exact ⟨s, LoopRunsB.exit (round_runs hE (noLps_ok _) ht (Nat.zero_le _) (show 4 ≤ 10 by decide)) (by simp)⟩
  | m + 1, i, s, hi, H => by
    obtain ⟨s1, H1, ht⟩ := rp_round G W N C s i (by omega) hl hw H
    obtain ⟨s2, h2⟩ := rp_rounds hE G W N C hl hw m (i + 1) s1 (by omega) H1
    exact ⟨s2, LoopRunsB.step (round_runs hE (noLps_ok _) ht (Nat.zero_le _) (show 4 ≤ 10 by decide)) h2⟩
structure RpP where
  G : Gv
  W : Wv
  N : Nat
  C : Nat
  s : RpS
/-- The function of a func. -/
def fidOf : Value → Nat
  | .func (.func f) _ _ => f
  | _ => 0
def gvParse (lh : List Go.Sx.Blk) : Gv := ⟨rowsN2 lh 0, rowsN2 lh 1, rowsN2 lh 2, 0, 0, 0, (rows2 lh 0).gi, (rows2 lh 1).gi, (rows2 lh 2).gi, (rows2 lh 0).gb, (rows2 lh 1).gb, (rows2 lh 2).gb, 0, 0, 0, 0, 0⟩
def wvParse (v : Value) (lh : List Go.Sx.Blk) (k : Nat) : Wv := ⟨rowsN2 lh k, sliceCap v, (rows2 lh k).gi, (rows2 lh k).gb⟩
def rqParse (lh : List Go.Sx.Blk) (k : Nat) : Rq := ⟨int2 lh k 0, int2 lh k 1, int2 lh k 2, fidOf (at2 lh k 3), boolVal (at2 lh k 4), boolVal (at2 lh k 5)⟩
def rrParse (lh : List Go.Sx.Blk) (k : Nat) : Rr := ⟨⟨int2 lh k 0, int2 lh k 1, int2 lh k 2, int2 lh k 3, int2 lh k 4⟩, int2 lh k 5, int2 lh k 6, int2 lh k 7, int2 lh k 8, boolVal (at2 lh k 9), boolVal (at2 lh k 10)⟩
def rpParse (vals : List Value) (lh : List Go.Sx.Blk) : RpP :=
  ⟨gvParse lh, wvParse (vals.getD 0 undef) lh 3, sliceLen (at2 lh 4 0), sliceCap (at2 lh 4 0), ⟨int2 lh 4 1, int2 lh 6 1, ints2 lh 8, rqParse lh 5, rrParse lh 7⟩⟩
def RpP.V (p : RpP) : List Value := rpV p.W 0
def RpP.H (p : RpP) : List Go.Sx.Blk := rpS p.G p.W p.N p.C p.s
def RpP.OK (p : RpP) : Prop := p.W.nl ≤ 20 ∧ WrI p.W.gi p.W.nl ∧ RpInv p.N p.s.l p.s.q p.s.h
def RpP.out (p : RpP) : Exit × List Value × List Go.Sx.Blk := (.normal, [.bool true], rpA p.G p.W)
noncomputable def rpF : List Value → List Go.Sx.Blk → M (Exit × List Value × List Go.Sx.Blk) := specL rpParse RpP.V RpP.H RpP.OK RpP.out
theorem rp_norm (G : Gv) (W : Wv) (N C : Nat) (s : RpS) (i : Int) : (normV 142 [11] 4 (unpack 142 [4, 11, 15, 16, 17, 18, 19] (rpV W i) (rpS G W N C s))).get = some ([.bool true], rpA G W) := by kernel_rfl
theorem rp_lp : LpSound Tryd.prog Tab 12 0 (loopV 142 [4, 11, 15, 16, 17, 18, 19] [11] rpF 4) := by
  refine LpSound.of_spec (c := rpBody) Tryd.func12 (by kernel_rfl) (by kernel_rfl) fun X W0 h0 hB hT p ⟨hl, hw, hI⟩ => ?_
  obtain ⟨s', h3⟩ := rp_rounds (rlEnv_ok X W0 h0 hB hT) p.G p.W p.N p.C hl hw 6 0 p.s rfl hI
  rw [rp_loop]
  exact h3.runs.block_exit.norm (rp_norm p.G p.W p.N p.C s' 6) (Nat.zero_le _)
noncomputable def rpEnv : Env := mkEnv Tryd.prog rlFns [slotEq] rl1 [(12, 0, loopV 142 [4, 11, 15, 16, 17, 18, 19] [11] rpF 4)]
theorem rpEnv_ok (X : Nat → Prop) (w0 : World) (h0 : X 0) (hB : Bnd X w0) (hT : Tab w0) : EnvOK rpEnv X w0 := mkEnv_ok slotEq_ok (by kernel_rfl) rlFns_ok rl1_ok (lpSounds_cons rp_lp lpSounds_nil) h0 hB hT
end Go.Proofs.YtcakklnacnnlaaaDoor
