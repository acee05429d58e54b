/- RetireOne: rounds, and what stands for the loops. No condition of its own. -/
import Derived.Test.YtcakklnacnnlaaaDoorRetOneT
namespace Go.Proofs.YtcakklnacnnlaaaDoor
open Go.RowKit Go.Fld Go.Sx
set_option linter.unusedVariables false
set_option linter.unusedSimpArgs false
def r1Turn (N : Nat) (T : Tv) (i : Nat) (s : R1s) : R1s := bif T.tb i 0 then r1X N s else r1Y N s
def r1Iter (N : Nat) (T : Tv) (s : R1s) : Nat → R1s
  | 0 => s
  | i + 1 => r1Turn N T i (r1Iter N T s i)
def r1Both (N : Nat) (s : R1s) : Nat → R1s
  | 0 => s
  | i + 1 => r1Y N (r1X N (r1Both N s i))
structure R1ok (N : Nat) (s : R1s) : Prop where
  ok : okM N s.l = true
  x : rOK s.x.f = true
  y : rOK s.y.f = true
theorem R1ok.X {N : Nat} {s : R1s} (h : R1ok N s) : R1ok N (r1X N s) := ⟨by show okM N (rmem N s.l s.x) = true; rw [okM_r]; exact h.ok, rstep_f _ _ _, h.y⟩
theorem R1ok.Y {N : Nat} {s : R1s} (h : R1ok N s) : R1ok N (r1Y N s) := ⟨by show okM N (rmem N s.l s.y) = true; rw [okM_r]; exact h.ok, h.x, rstep_f _ _ _⟩
theorem R1ok.turn {N : Nat} {s : R1s} (h : R1ok N s) (T : Tv) (i : Nat) : R1ok N (r1Turn N T i s) := by
  unfold r1Turn
  cases T.tb i 0
  · exact h.Y
  · exact h.X
theorem R1ok.iter {N : Nat} {s : R1s} (h : R1ok N s) (T : Tv) : ∀ i, R1ok N (r1Iter N T s i)
  | 0 => h
  | i + 1 => (R1ok.iter h T i).turn T i
theorem R1ok.both {N : Nat} {s : R1s} (h : R1ok N s) : ∀ i, R1ok N (r1Both N s i)
  | 0 => h
  | i + 1 => ((R1ok.both h i).X).Y
theorem ro_rounds1 {X : Nat → Prop} {w0 : World} (hE : EnvOK rlEnv X w0) (G : Gv) (T : Tv) (cf : Cf) (N C : Nat) (l0 : List Int) (z : Slt) (s : R1s) (i : Int) (hs : R1ok N s) (hn : T.nt ≤ 10) : ∀ (m k : Nat), k + m = T.nt →
    LoopRunsB Tryd.prog X w0 0 4 roRound1 (unpack 198 [2, 7, 8, 9, 10, 12, 14, 15, 16, 17] (roV T N i k) (roH G T cf N C l0 z (r1Iter N T s k))) (.exit 0) (unpack 198 [2, 7, 8, 9, 10, 12, 14, 15, 16, 17] (roV T N i T.nt) (roH G T cf N C l0 z (r1Iter N T s T.nt)))
  | 0, k, hk => by
    obtain rfl : k = T.nt := by omega
    have ht := ro_tree1 G T cf N C l0 z (r1Iter N T s T.nt) i T.nt
    rw [decide_eq_false (by omega)] at ht
    exact LoopRunsB.exit (round_runs hE (noLps_ok _) ht (Nat.zero_le _) (show 4 ≤ 11 by decide)) (by simp)
  | m + 1, k, hk => by
    have ht := ro_tree1 G T cf N C l0 z (r1Iter N T s k) i k
    have h := hs.iter T k
    rw [decide_eq_true (by omega), ixR_in rfl (by omega), Int.toNat_natCast, w64_succ (by omega), bt_of (by rw [h.ok, h.x]; rfl), bt_of (by rw [h.ok, h.y]; rfl)] at ht
    have ht2 : (roundV rlEnv 40 noLps 198 [2, 7, 8, 9, 10, 12, 14, 15, 16, 17] 4 roRound1 (unpack 198 [2, 7, 8, 9, 10, 12, 14, 15, 16, 17] (roV T N i k) (roH G T cf N C l0 z (r1Iter N T s k)))).get = some (.normal, roV T N i ((k + 1 : Nat) : Int), roH G T cf N C l0 z (r1Iter N T s (k + 1))) := by
      refine ht.trans ?_
      show _ = some (Exit.normal, roV T N i ((k + 1 : Nat) : Int), roH G T cf N C l0 z (r1Turn N T k (r1Iter N T s k)))
      unfold r1Turn
      cases T.tb k 0 <;> rfl
    exact LoopRunsB.step (round_runs hE (noLps_ok _) ht2 (Nat.zero_le _) (show 4 ≤ 11 by decide)) (ro_rounds1 hE G T cf N C l0 z s i hs hn m (k + 1) (by omega))
theorem ro_rounds2 {X : Nat → Prop} {w0 : World} (hE : EnvOK rlEnv X w0) (G : Gv) (T : Tv) (cf : Cf) (N C : Nat) (l0 : List Int) (z : Slt) (s : R1s) (i : Int) (hs : R1ok N s) : ∀ (m k : Nat), k + m = 4 →
    LoopRunsB Tryd.prog X w0 0 4 roRound2 (unpack 198 [7, 8, 9, 10, 12, 14, 15, 16, 18] (roV2 N i k) (roH G T cf N C l0 z (r1Both N s k))) (.exit 2) (unpack 198 [7, 8, 9, 10, 12, 14, 15, 16, 18] (roV2 N i 4) (roH G T cf N C l0 z (r1Both N s 4)))
  | 0, k, hk => by
    obtain rfl : k = 4 := by omega
    have ht := ro_tree2 G T cf N C l0 z (r1Both N s 4) i 4
    rw [decide_eq_false (by omega)] at ht
    exact LoopRunsB.exit (round_runs hE (noLps_ok _) ht (Nat.zero_le _) (show 4 ≤ 11 by decide)) (by simp)
  | m + 1, k, hk => by
    have ht := ro_tree2 G T cf N C l0 z (r1Both N s k) i k
    have h := hs.both k
    rw [decide_eq_true (by omega), w64_succ (by omega), bt_of (by rw [h.ok, h.x]; rfl), bt_of (by rw [okM_r, h.ok, h.y]; rfl)] at ht
    exact LoopRunsB.step (round_runs hE (noLps_ok _) ht (Nat.zero_le _) (show 4 ≤ 11 by decide)) (ro_rounds2 hE G T cf N C l0 z s i hs m (k + 1) (by omega))
theorem ro_norm1 (G : Gv) (T : Tv) (cf : Cf) (N C : Nat) (l0 : List Int) (z : Slt) (s : R1s) (i k : Int) : (normV 198 [7, 8, 9, 10, 12, 14, 15, 16] 4 (unpack 198 [2, 7, 8, 9, 10, 12, 14, 15, 16, 17] (roV T N i k) (roH G T cf N C l0 z s))).get = some (roV3 N i, roH G T cf N C l0 z s) := by kernel_rfl
theorem ro_norm2 (G : Gv) (T : Tv) (cf : Cf) (N C : Nat) (l0 : List Int) (z : Slt) (s : R1s) (i k : Int) : (normV 198 [7, 8, 9, 10, 12, 14, 15, 16] 4 (unpack 198 [7, 8, 9, 10, 12, 14, 15, 16, 18] (roV2 N i k) (roH G T cf N C l0 z s))).get = some (roV3 N i, roH G T cf N C l0 z s) := by kernel_rfl
noncomputable def roLps (V1 : List Value) (H1 : List Go.Sx.Blk) (o1 : Exit × List Value × List Go.Sx.Blk) (V2 : List Value) (H2 : List Go.Sx.Blk) (o2 : Exit × List Value × List Go.Sx.Blk) : List (FuncId × Nat × (Nat → St → M (Exit × St))) := [(10, 0, loopV 198 [2, 7, 8, 9, 10, 12, 14, 15, 16, 17] [7, 8, 9, 10, 12, 14, 15, 16] (specC V1 H1 o1) 4), (10, 2, loopV 198 [7, 8, 9, 10, 12, 14, 15, 16, 18] [7, 8, 9, 10, 12, 14, 15, 16] (specC V2 H2 o2) 4)]
noncomputable def roEnv (V1 : List Value) (H1 : List Go.Sx.Blk) (o1 : Exit × List Value × List Go.Sx.Blk) (V2 : List Value) (H2 : List Go.Sx.Blk) (o2 : Exit × List Value × List Go.Sx.Blk) : Env := mkEnv Tryd.prog rlFns [slotEq] rl1 (roLps V1 H1 o1 V2 H2 o2)
theorem roEnv_ok (G : Gv) (T : Tv) (cf : Cf) (N C : Nat) (l0 : List Int) (z : Slt) (s : R1s) (i : Int) (hs : R1ok N s) (hn : T.nt ≤ 10) (X : Nat → Prop) (w0 : World) (h0 : X 0) (hB : Bnd X w0) (hT : Tab w0) :
    EnvOK (roEnv (roV T N i 0) (roH G T cf N C l0 z s) (.normal, roV3 N i, roH G T cf N C l0 z (r1Iter N T s T.nt)) (roV2 N i 0) (roH G T cf N C l0 z (r1Iter N T s T.nt)) (.normal, roV3 N i, roH G T cf N C l0 z (r1Both N (r1Iter N T s T.nt) 4))) X w0 := by
  refine mkEnv_ok slotEq_ok (by kernel_rfl) rlFns_ok rl1_ok (lpSounds_cons (lpSound_const (c := roBody) Tryd.func10 (by kernel_rfl) (by kernel_rfl) fun X W0 h0 hB hT => ?_) <| lpSounds_cons (lpSound_const (c := roBody) Tryd.func10 (by kernel_rfl) (by kernel_rfl) fun X W0 h0 hB hT => ?_) lpSounds_nil) h0 hB hT
  · have h3 := ro_rounds1 (rlEnv_ok X W0 h0 hB hT) G T cf N C l0 z s i hs hn T.nt 0 (Nat.zero_add _)
    rw [ro_loop1]
    exact h3.runs.block_exit.norm (ro_norm1 G T cf N C l0 z _ i _) (Nat.zero_le _)
  · have h3 := ro_rounds2 (rlEnv_ok X W0 h0 hB hT) G T cf N C l0 z _ i (hs.iter T T.nt) 4 0 rfl
    rw [ro_loop2]
    exact h3.runs.block_exit.norm (ro_norm2 G T cf N C l0 z _ i _) (Nat.zero_le _)
end Go.Proofs.YtcakklnacnnlaaaDoor
