/- RetireKeeps: its loops, the whole. No condition of its own. -/
import Derived.Test.YtcakklnacnnlaaaDoorRetOneV
namespace Go.Proofs.YtcakklnacnnlaaaDoor
open Go.RowKit Go.Fld Go.Sx
set_option linter.unusedVariables false
set_option linter.unusedSimpArgs false
noncomputable def rkBody : Code := Tryd.f11.body.getD .skip
noncomputable def rkRound1 : Code := lpB (blkAt 0 rkBody)
noncomputable def rkRound2 : Code := lpB (blkAt 2 rkBody)
theorem rk_loop1 : blkAt 0 rkBody = .loop rkRound1 := by kernel_rfl
theorem rk_loop2 : blkAt 2 rkBody = .loop rkRound2 := by kernel_rfl
/-- One at work. -/
structure K1s where
  l : List Int
  t : Int
  q : Rq
def k1X (N : Nat) (s : K1s) : K1s := ⟨rmem N s.l s.q, rtch N s.q s.t, rstep N s.l s.q⟩
def k1Iter (N : Nat) (s : K1s) : Nat → K1s
  | 0 => s
  | i + 1 => k1X N (k1Iter N s i)
structure K1ok (N : Nat) (s : K1s) : Prop where
  ok : okM N s.l = true
  f : rOK s.q.f = true
theorem K1ok.X {N : Nat} {s : K1s} (h : K1ok N s) : K1ok N (k1X N s) := ⟨by show okM N (rmem N s.l s.q) = true; rw [okM_r]; exact h.ok, rstep_f _ _ _⟩
theorem K1ok.iter {N : Nat} {s : K1s} (h : K1ok N s) : ∀ i, K1ok N (k1Iter N s i)
  | 0 => h
  | i + 1 => (K1ok.iter h i).X
abbrev rkA (G : Gv) : List Go.Sx.Blk := [G.r0, G.r1, G.r2]
abbrev rkW (N : Nat) (i : Int) : List Value := [.bool true, .pointer (some ⟨3, 0, none⟩), .slice (some ⟨4, 0, none⟩) N N, .int .i64 i]
abbrev rkV1 (N : Nat) (i k : Int) : List Value := rkW N i ++ [.pointer (some ⟨5, 0, none⟩), .pointer (some ⟨6, 0, none⟩), .int .i64 k]
abbrev rkH1 (G : Gv) (cf : Cf) (N C : Nat) (l0 : List Int) (s : K1s) : List Go.Sx.Blk := rkA G ++ [.cells true true (cfCells cf), .ints true true l0, .cells true true [.slice (some ⟨7, 0, none⟩) N C, .int .i64 s.t], rqB 6 s.q, .ints true true s.l]
abbrev rkO1 (G : Gv) (cf : Cf) (N C : Nat) (l0 : List Int) (i : Int) (s : K1s) : Exit × List Value × List Go.Sx.Blk := (.normal, rkW N i ++ [.pointer (some ⟨5, 0, none⟩)], rkA G ++ [.cells true true (cfCells cf), .ints true true l0, .cells true true [.slice (some ⟨6, 0, none⟩) N C, .int .i64 s.t], .ints true true s.l])
theorem rk_tree1 (G : Gv) (cf : Cf) (N C : Nat) (l0 : List Int) (s : K1s) (i k : Int) :
    (roundV rlEnv 40 noLps 134 [7, 8, 9, 10, 11, 13, 19] 3 rkRound1 (unpack 134 [7, 8, 9, 10, 11, 13, 19] (rkV1 N i k) (rkH1 G cf N C l0 s))).get =
    bif decide (k < 5) then bt (okM N s.l && rOK s.q.f) (some (.normal, rkV1 N i (w64 (k + 1)), rkH1 G cf N C l0 (k1X N s))) else some (.exit 0, rkV1 N i k, rkH1 G cf N C l0 s) := by kernel_rfl
abbrev rkV2 (N : Nat) (i k : Int) : List Value := rkW N i ++ [vecOf 5 N, .int .i64 k]
abbrev rkH2 (G : Gv) (cf : Cf) (l0 l : List Int) : List Go.Sx.Blk := rkA G ++ [.cells true true (cfCells cf), .ints true true l0, .ints true true l]
abbrev rkO2 (G : Gv) (N : Nat) (l0 l : List Int) : Exit × List Value × List Go.Sx.Blk := (.normal, [.bool true, .slice (some ⟨3, 0, none⟩) N N, vecOf 4 N], rkA G ++ [.ints true true l0, .ints true true l])
theorem rk_tree2 (G : Gv) (cf : Cf) (N : Nat) (l0 l : List Int) (i k : Int) :
    (roundV rlEnv 40 noLps 134 [7, 8, 9, 10, 20, 21] 3 rkRound2 (unpack 134 [7, 8, 9, 10, 20, 21] (rkV2 N i k) (rkH2 G cf l0 l))).get =
    bif decide (k < (N : Int)) then (bif k != cellC cf i then (bif k != 2 then bt (inRange k N) (bt (Nat.blt k.toNat l.length) (bt (inRange k N) (bt (Nat.blt (0 + k.toNat) l0.length) (bif l.getD k.toNat 0 != l0.getD (0 + k.toNat) 0 then some (.ret, rkV2 N i k, rkH2 G cf l0 l) else some (.normal, rkV2 N i (w64 (k + 1)), rkH2 G cf l0 l)))))
      else some (.normal, rkV2 N i (w64 (k + 1)), rkH2 G cf l0 l)) else some (.normal, rkV2 N i (w64 (k + 1)), rkH2 G cf l0 l)) else some (.exit 2, rkV2 N i k, rkH2 G cf l0 l) := by kernel_rfl
theorem rk_rounds1 {X : Nat → Prop} {w0 : World} (hE : EnvOK rlEnv X w0) (G : Gv) (cf : Cf) (N C : Nat) (l0 : List Int) (s : K1s) (i : Int) (hs : K1ok N s) : ∀ (m k : Nat), k + m = 5 →
    LoopRunsB Tryd.prog X w0 0 3 rkRound1 (unpack 134 [7, 8, 9, 10, 11, 13, 19] (rkV1 N i k) (rkH1 G cf N C l0 (k1Iter N s k))) (.exit 0) (unpack 134 [7, 8, 9, 10, 11, 13, 19] (rkV1 N i 5) (rkH1 G cf N C l0 (k1Iter N s 5)))
  | 0, k, hk => by
    obtain rfl : k = 5 := by omega
    have ht := rk_tree1 G cf N C l0 (k1Iter N s 5) i 5
    rw [decide_eq_false (by omega)] at ht
    exact LoopRunsB.exit (round_runs hE (noLps_ok _) ht (Nat.zero_le _) (show 3 ≤ 8 by decide)) (by simp)
  | m + 1, k, hk => by
    have ht := rk_tree1 G cf N C l0 (k1Iter N s k) i k
    have h := hs.iter k
    rw [decide_eq_true (by omega), w64_succ (by omega), bt_of (by rw [h.ok, h.f]; rfl)] at ht
    exact LoopRunsB.step (round_runs hE (noLps_ok _) ht (Nat.zero_le _) (show 3 ≤ 8 by decide)) (rk_rounds1 hE G cf N C l0 s i hs m (k + 1) (by omega))
/-- But for two cells they are one. -/
def AlikeBut (c : Int) (l0 l : List Int) : Prop := ∀ k : Nat, (k : Int) ≠ c → k ≠ 2 → l.getD k 0 = l0.getD k 0
theorem rk_rounds2 {X : Nat → Prop} {w0 : World} (hE : EnvOK rlEnv X w0) (G : Gv) (cf : Cf) (N : Nat) (l0 l : List Int) (i : Int) (h0 : okM N l0 = true) (h1 : okM N l = true) (ha : AlikeBut (cellC cf i) l0 l) : ∀ (m k : Nat), k + m = N →
    LoopRunsB Tryd.prog X w0 0 3 rkRound2 (unpack 134 [7, 8, 9, 10, 20, 21] (rkV2 N i k) (rkH2 G cf l0 l)) (.exit 2) (unpack 134 [7, 8, 9, 10, 20, 21] (rkV2 N i N) (rkH2 G cf l0 l))
  | 0, k, hk => by
    obtain rfl : k = N := by omega
    have ht := rk_tree2 G cf k l0 l i k
    rw [decide_eq_false (by omega)] at ht
    exact LoopRunsB.exit (round_runs hE (noLps_ok _) ht (Nat.zero_le _) (show 3 ≤ 6 by decide)) (by simp)
  | m + 1, k, hk => by
    obtain ⟨a1, a2, a3⟩ := okM_iff.1 h0
    obtain ⟨b1, _, _⟩ := okM_iff.1 h1
    have ht := rk_tree2 G cf N l0 l i k
    have hin : inRange (k : Int) N = true := by unfold inRange; simp; omega
    rw [decide_eq_true (by omega), w64_succ (by omega), Int.toNat_natCast, Nat.zero_add, bt_of hin, bt_of hin, bt_of (by rw [Nat.blt_eq]; omega), bt_of (by rw [Nat.blt_eq]; omega)] at ht
    have ht2 : (roundV rlEnv 40 noLps 134 [7, 8, 9, 10, 20, 21] 3 rkRound2 (unpack 134 [7, 8, 9, 10, 20, 21] (rkV2 N i k) (rkH2 G cf l0 l))).get = some (.normal, rkV2 N i ((k + 1 : Nat) : Int), rkH2 G cf l0 l) := by
      refine ht.trans ?_
      by_cases e1 : (k : Int) = cellC cf i
      · rw [← e1, bne_self_eq_false]; rfl
      · by_cases e2 : (k : Int) = 2
        · rw [e2, bne_self_eq_false]
          cases (2 : Int) != cellC cf i <;> rfl
        · rw [ha k e1 (by omega), bne_self_eq_false, show ((k : Int) != cellC cf i) = true from bne_iff_ne.2 e1, show ((k : Int) != 2) = true from bne_iff_ne.2 e2]; rfl
    exact LoopRunsB.step (round_runs hE (noLps_ok _) ht2 (Nat.zero_le _) (show 3 ≤ 6 by decide)) (rk_rounds2 hE G cf N l0 l i h0 h1 ha m (k + 1) (by omega))
theorem rk_norm1 (G : Gv) (cf : Cf) (N C : Nat) (l0 : List Int) (s : K1s) (i k : Int) : (normV 134 [7, 8, 9, 10, 11] 3 (unpack 134 [7, 8, 9, 10, 11, 13, 19] (rkV1 N i k) (rkH1 G cf N C l0 s))).get = some (rkO1 G cf N C l0 i s).2 := by kernel_rfl
theorem rk_norm2 (G : Gv) (cf : Cf) (N : Nat) (l0 l : List Int) (i k : Int) : (normV 134 [7, 9, 20] 3 (unpack 134 [7, 8, 9, 10, 20, 21] (rkV2 N i k) (rkH2 G cf l0 l))).get = some (rkO2 G N l0 l).2 := by kernel_rfl
noncomputable def rkEnv (V1 : List Value) (H1 : List Go.Sx.Blk) (o1 : Exit × List Value × List Go.Sx.Blk) (V2 : List Value) (H2 : List Go.Sx.Blk) (o2 : Exit × List Value × List Go.Sx.Blk) : Env := mkEnv Tryd.prog rlFns [slotEq] rl1 [(11, 0, loopV 134 [7, 8, 9, 10, 11, 13, 19] [7, 8, 9, 10, 11] (specC V1 H1 o1) 3), (11, 2, loopV 134 [7, 8, 9, 10, 20, 21] [7, 9, 20] (specC V2 H2 o2) 3)]
theorem rkEnv_ok (G : Gv) (cf : Cf) (N C : Nat) (l0 : List Int) (s : K1s) (i : Int) (hs : K1ok N s) (h0 : okM N l0 = true) (ha : AlikeBut (cellC cf i) l0 (k1Iter N s 5).l) (X : Nat → Prop) (w0 : World) (hX : X 0) (hB : Bnd X w0) (hT : Tab w0) :
    EnvOK (rkEnv (rkV1 N i 0) (rkH1 G cf N C l0 s) (rkO1 G cf N C l0 i (k1Iter N s 5)) (rkV2 N i 0) (rkH2 G cf l0 (k1Iter N s 5).l) (rkO2 G N l0 (k1Iter N s 5).l)) X w0 := by
  refine mkEnv_ok slotEq_ok (by kernel_rfl) rlFns_ok rl1_ok (lpSounds_cons (lpSound_const (c := rkBody) Tryd.func11 (by kernel_rfl) (by kernel_rfl) fun X W0 h0 hB hT => ?_) <| lpSounds_cons (lpSound_const (c := rkBody) Tryd.func11 (by kernel_rfl) (by kernel_rfl) fun X W0 hX hB hT => ?_) lpSounds_nil) hX hB hT
  · have h3 := rk_rounds1 (rlEnv_ok X W0 h0 hB hT) G cf N C l0 s i hs 5 0 rfl
    rw [rk_loop1]
    exact h3.runs.block_exit.norm (rk_norm1 G cf N C l0 _ i _) (Nat.zero_le _)
  · have h3 := rk_rounds2 (rlEnv_ok X W0 hX hB hT) G cf N l0 (k1Iter N s 5).l i h0 (hs.iter 5).ok ha N 0 (Nat.zero_add _)
    rw [rk_loop2]
    exact h3.runs.block_exit.norm (rk_norm2 G cf N l0 _ i _) (Nat.zero_le _)
/-! ### The whole -/
def rkQ (cf : Cf) (l : List Int) (i : Int) : Rq := ⟨cellC cf i, l.getD (0 + (cellC cf i).toNat) 0, 0, fSwap, false, false⟩
def rkS (cf : Cf) (l : List Int) (i : Int) : K1s := ⟨l, cntN cf, rkQ cf l i⟩
/-- Where it has another word by then. -/
def rkElse (N : Nat) (l : List Int) (q : Rq) : Option Value :=
  bt (okM N l) (bt (okM N l && rOK q.f) (bt (okM N (rmem N l q) && rOK (rstep N l q).f) (
    bif rret N l q then (bif rret N (rmem N l q) (rstep N l q) then (bif !(rstep N (rmem N l q) (rstep N l q)).sw then bt (okM N (rmem N (rmem N l q) (rstep N l q))) (bt (lenOK N (rmem N (rmem N l q) (rstep N l q)) && lenOK N l) (some (.bool (decide (rmem N (rmem N l q) (rstep N l q) = l))))) else isF) else isF) else isF)))
theorem rk_all (G G' : Gv) (at_ other : Int) (V1 : List Value) (H1 : List Go.Sx.Blk) (V2 : List Value) (H2 : List Go.Sx.Blk) (cf : Cf) (N C : Nat) (l0 : List Int) (s : K1s) (i : Int) (N' : Nat) (l0' l' : List Int) :
  (callV (rkEnv V1 H1 (rkO1 G' cf N C l0 i s) V2 H2 (rkO2 G' N' l0' l')) 60 11 [G.val, .int .u8 at_, .int .i64 other] (rkA G)).run (Option Value) none (fun r => some r.1) =
    bt (mdC G.cf G.ns G.nf G.np) (noS G.cf (bt (ldG G.cf G.l) (ixC G.cf G.l (atI G.cf.s at_) (bif other != G.l.getD (0 + (cellC G.cf (atI G.cf.s at_)).toNat) 0 then bt (okM (cntN G.cf) G.l) (rkElse (cntN G.cf) (stS (cntN G.cf) G.l (cellC G.cf (atI G.cf.s at_)) other) (rkQ G.cf G.l (atI G.cf.s at_)))
      else bt (sure (isIt (rkV1 (cntN G.cf) (atI G.cf.s at_) 0) (rkH1 G G.cf (cntN G.cf) (cntN G.cf) G.l (rkS G.cf G.l (atI G.cf.s at_))) V1 H1)) (bt (okM N s.l) (bt (sure (isIt (rkV2 N i 0) (rkH2 G' cf l0 s.l) V2 H2)) (some (.bool ((N' : Int) == (N' : Int))))))))))  := by kernel_rfl
end Go.Proofs.YtcakklnacnnlaaaDoor
