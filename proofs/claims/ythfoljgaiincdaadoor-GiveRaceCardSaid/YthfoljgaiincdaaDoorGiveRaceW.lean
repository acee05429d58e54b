
/- GiveRace: one state for all shapes. No condition of its own. -/
import Derived.Test.YthfoljgaiincdaaDoorGiveRaceT
namespace Go.Proofs.YthfoljgaiincdaaDoor
open Go.RowKit Go.Fld Go.Sx
set_option linter.unusedVariables false
set_option linter.unusedSimpArgs false
structure Rs where
  t : Int
  l : List Int
  x : Gq
  y : Gq
  rx : Option Rq
  ry : Option Rq
def sT (N : Nat) (q : Gq) (ro : Option Rq) (t : Int) : Int := match ro with | none => gtch N q t | some r => bif q.st == 3 then rtch N r t else gtch N q t
def sL (N : Nat) (l : List Int) (q : Gq) (ro : Option Rq) : List Int := match ro with | none => gmem N l q | some r => bif q.st == 3 then rmem N l r else gmem N l q
def sQ (N : Nat) (l : List Int) (q : Gq) (ro : Option Rq) : Gq := match ro with | none => gq N l q | some r => bif q.st == 3 then gqR N l q r else gq N l q
def sR (N : Nat) (l : List Int) (q : Gq) (ro : Option Rq) : Option Rq := match ro with
  | none => bif gGoes N l q then some (gNew N l q) else none
  | some r => bif q.st == 3 then some (rstep N l r) else bif gGoes N l q then some (gNew N l q) else some r
def okS (N : Nat) (l : List Int) (q : Gq) (ro : Option Rq) : Bool := match ro with | none => okM N l && gOKN q.st | some r => okM N l && gOKR q.st r.f
def rX (N : Nat) (s : Rs) : Rs := ⟨sT N s.x s.rx s.t, sL N s.l s.x s.rx, sQ N s.l s.x s.rx, s.y, sR N s.l s.x s.rx, s.ry⟩
def rY (N : Nat) (s : Rs) : Rs := ⟨sT N s.y s.ry s.t, sL N s.l s.y s.ry, s.x, sQ N s.l s.y s.ry, s.rx, sR N s.l s.y s.ry⟩
def grH (T : Tb) (cf : Cf) (N C : Nat) (s : Rs) : List Go.Sx.Blk := match s.rx, s.ry with
  | none, none => grNN T cf N C s.t s.l s.x s.y
  | some r, none => grRN T cf N C s.t s.l s.x s.y r
  | none, some r => grNR T cf N C s.t s.l s.x s.y r
  | some r, some q => grRR T cf N C s.t s.l s.x s.y r q
theorem gr_round0 (T : Tb) (cf : Cf) (N C : Nat) (s : Rs) (k : Int) :
    (roundV glEnv 40 noLps 150 [3, 8, 9, 10, 12, 13, 14, 15] 1 grRound0 (unpack 150 [3, 8, 9, 10, 12, 13, 14, 15] (grV T k) (grH T cf N C s))).get =
    bif decide (k < (T.nt : Int)) then ixT k T.nt (bif T.tb k.toNat 0 then bt (okS N s.l s.x s.rx) (some (.normal, grV T (w64 (k + 1)), grH T cf N C (rX N s))) else bt (okS N s.l s.y s.ry) (some (.normal, grV T (w64 (k + 1)), grH T cf N C (rY N s))))
    else some (.exit 0, grV T k, grH T cf N C s) := by
  obtain ⟨t, l, x, y, rx, ry⟩ := s
  cases rx with
  | none =>
    cases ry with
    | none =>
      refine (gr_treeNN T cf N C t l x y k).trans ?_
      unfold rX rY grH sT sL sQ sR okS
      simp only
      cases gGoes N l x <;> cases gGoes N l y <;> rfl
    | some r =>
      refine (gr_treeNR T cf N C t l x y r k).trans ?_
      unfold rX rY grH sT sL sQ sR okS
      simp only
      cases gGoes N l x <;> cases gGoes N l y <;> cases y.st == 3 <;> rfl
  | some r =>
    cases ry with
    | none =>
      refine (gr_treeRN T cf N C t l x y r k).trans ?_
      unfold rX rY grH sT sL sQ sR okS
      simp only
      cases gGoes N l x <;> cases gGoes N l y <;> cases x.st == 3 <;> rfl
    | some q =>
      refine (gr_treeRR T cf N C t l x y r q k).trans ?_
      unfold rX rY grH sT sL sQ sR okS
      simp only
      cases gGoes N l x <;> cases gGoes N l y <;> cases x.st == 3 <;> cases y.st == 3 <;> rfl
theorem gr_round2 (T : Tb) (cf : Cf) (N C : Nat) (s : Rs) (k : Int) :
    (roundV glEnv 40 noLps 150 [8, 9, 10, 12, 13, 14, 16] 1 grRound2 (unpack 150 [8, 9, 10, 12, 13, 14, 16] (grW k) (grH T cf N C s))).get =
    bif decide (k < 9) then bt (okS N s.l s.x s.rx) (some (.normal, grW (w64 (k + 1)), grH T cf N C (rX N s))) else some (.exit 2, grW k, grH T cf N C s) := by
  obtain ⟨t, l, x, y, rx, ry⟩ := s
  cases rx with
  | none =>
    cases ry with
    | none =>
      refine (gr_tree2NN T cf N C t l x y k).trans ?_
      unfold rX grH sT sL sQ sR okS
      simp only
      cases gGoes N l x <;> rfl
    | some r =>
      refine (gr_tree2NR T cf N C t l x y r k).trans ?_
      unfold rX grH sT sL sQ sR okS
      simp only
      cases gGoes N l x <;> cases x.st == 3 <;> rfl
  | some r =>
    cases ry with
    | none =>
      refine (gr_tree2RN T cf N C t l x y r k).trans ?_
      unfold rX grH sT sL sQ sR okS
      simp only
      cases gGoes N l x <;> cases x.st == 3 <;> rfl
    | some q =>
      refine (gr_tree2RR T cf N C t l x y r q k).trans ?_
      unfold rX grH sT sL sQ sR okS
      simp only
      cases gGoes N l x <;> cases x.st == 3 <;> rfl
theorem gr_round4 (T : Tb) (cf : Cf) (N C : Nat) (s : Rs) (k : Int) :
    (roundV glEnv 40 noLps 150 [8, 9, 10, 12, 13, 14, 17] 1 grRound4 (unpack 150 [8, 9, 10, 12, 13, 14, 17] (grW k) (grH T cf N C s))).get =
    bif decide (k < 9) then bt (okS N s.l s.y s.ry) (some (.normal, grW (w64 (k + 1)), grH T cf N C (rY N s))) else some (.exit 4, grW k, grH T cf N C s) := by
  obtain ⟨t, l, x, y, rx, ry⟩ := s
  cases rx with
  | none =>
    cases ry with
    | none =>
      refine (gr_tree4NN T cf N C t l x y k).trans ?_
      unfold rY grH sT sL sQ sR okS
      simp only
      cases gGoes N l y <;> rfl
    | some r =>
      refine (gr_tree4NR T cf N C t l x y r k).trans ?_
      unfold rY grH sT sL sQ sR okS
      simp only
      cases gGoes N l y <;> cases y.st == 3 <;> rfl
  | some r =>
    cases ry with
    | none =>
      refine (gr_tree4RN T cf N C t l x y r k).trans ?_
      unfold rY grH sT sL sQ sR okS
      simp only
      cases gGoes N l y <;> cases y.st == 3 <;> rfl
    | some q =>
      refine (gr_tree4RR T cf N C t l x y r q k).trans ?_
      unfold rY grH sT sL sQ sR okS
      simp only
      cases gGoes N l y <;> cases y.st == 3 <;> rfl
def rTurn (N : Nat) (T : Tb) (i : Nat) (s : Rs) : Rs := bif T.tb i 0 then rX N s else rY N s
def rIt (N : Nat) (T : Tb) (s : Rs) : Nat → Rs
  | 0 => s
  | i + 1 => rTurn N T i (rIt N T s i)
def rXn (N : Nat) (s : Rs) : Nat → Rs
  | 0 => s
  | i + 1 => rX N (rXn N s i)
def rYn (N : Nat) (s : Rs) : Nat → Rs
  | 0 => s
  | i + 1 => rY N (rYn N s i)
def okB (N : Nat) (s : Rs) : Bool := okS N s.l s.x s.rx && okS N s.l s.y s.ry
theorem okB_x {N : Nat} {s : Rs} (h : okB N s = true) : okS N s.l s.x s.rx = true := by unfold okB at h; rw [Bool.and_eq_true] at h; exact h.1
theorem okB_y {N : Nat} {s : Rs} (h : okB N s = true) : okS N s.l s.y s.ry = true := by unfold okB at h; rw [Bool.and_eq_true] at h; exact h.2
theorem ixT_in {α : Type} {i n : Nat} {K : Option α} (h : i < n) : ixT (i : Int) n K = K := by
  unfold ixT
  rw [show inRange (i : Int) n = true by unfold inRange; simp; omega, Int.toNat_natCast, show Nat.blt i n = true by rw [Nat.blt_eq]; omega]; rfl
theorem gr_rounds0 {X : Nat → Prop} {w0 : World} (hE : EnvOK glEnv X w0) (T : Tb) (cf : Cf) (N C : Nat) (s : Rs) (hs : ∀ i, okB N (rIt N T s i) = true) (hn : T.nt ≤ 30) : ∀ (m k : Nat), k + m = T.nt →
    LoopRunsB Tryd.prog X w0 0 1 grRound0 (unpack 150 [3, 8, 9, 10, 12, 13, 14, 15] (grV T k) (grH T cf N C (rIt N T s k))) (.exit 0) (unpack 150 [3, 8, 9, 10, 12, 13, 14, 15] (grV T T.nt) (grH T cf N C (rIt N T s T.nt)))
  | 0, k, hk => by
    obtain rfl : k = T.nt := by omega
    have ht := gr_round0 T cf N C (rIt N T s T.nt) T.nt
    rw [decide_eq_false (by omega)] at ht
    exact LoopRunsB.exit (round_runs hE (noLps_ok _) ht (Nat.zero_le _) (by unfold grH; split <;> exact Nat.succ_le_succ (Nat.zero_le _))) (by simp)
  | m + 1, k, hk => by
    have ht := gr_round0 T cf N C (rIt N T s k) k
    rw [decide_eq_true (by omega), ixT_in (by omega), Int.toNat_natCast, w64_succ (by omega), bt_of (okB_x (hs k)), bt_of (okB_y (hs k))] at ht
    have ht2 := ht.trans (show _ = some (Exit.normal, grV T ((k + 1 : Nat) : Int), grH T cf N C (rIt N T s (k + 1))) by
      show _ = some (Exit.normal, grV T ((k + 1 : Nat) : Int), grH T cf N C (rTurn N T k (rIt N T s k)))
      unfold rTurn
      cases T.tb k 0 <;> rfl)
    exact LoopRunsB.step (round_runs hE (noLps_ok _) ht2 (Nat.zero_le _) (by unfold grH; split <;> exact Nat.succ_le_succ (Nat.zero_le _))) (gr_rounds0 hE T cf N C s hs hn m (k + 1) (by omega))
theorem gr_rounds2 {X : Nat → Prop} {w0 : World} (hE : EnvOK glEnv X w0) (T : Tb) (cf : Cf) (N C : Nat) (s : Rs) (hs : ∀ i, okB N (rXn N s i) = true) : ∀ (m k : Nat), k + m = 9 →
    LoopRunsB Tryd.prog X w0 0 1 grRound2 (unpack 150 [8, 9, 10, 12, 13, 14, 16] (grW k) (grH T cf N C (rXn N s k))) (.exit 2) (unpack 150 [8, 9, 10, 12, 13, 14, 16] (grW 9) (grH T cf N C (rXn N s 9)))
  | 0, k, hk => by
    obtain rfl : k = 9 := by omega
    have ht := gr_round2 T cf N C (rXn N s 9) 9
    rw [decide_eq_false (by omega)] at ht
    exact LoopRunsB.exit (round_runs hE (noLps_ok _) ht (Nat.zero_le _) (by unfold grH; split <;> exact Nat.succ_le_succ (Nat.zero_le _))) (by simp)
  | m + 1, k, hk => by
    have ht := gr_round2 T cf N C (rXn N s k) k
    rw [decide_eq_true (by omega), w64_succ (by omega), bt_of (okB_x (hs k))] at ht
    exact LoopRunsB.step (round_runs hE (noLps_ok _) ht (Nat.zero_le _) (by unfold grH; split <;> exact Nat.succ_le_succ (Nat.zero_le _))) (gr_rounds2 hE T cf N C s hs m (k + 1) (by omega))
theorem gr_rounds4 {X : Nat → Prop} {w0 : World} (hE : EnvOK glEnv X w0) (T : Tb) (cf : Cf) (N C : Nat) (s : Rs) (hs : ∀ i, okB N (rYn N s i) = true) : ∀ (m k : Nat), k + m = 9 →
    LoopRunsB Tryd.prog X w0 0 1 grRound4 (unpack 150 [8, 9, 10, 12, 13, 14, 17] (grW k) (grH T cf N C (rYn N s k))) (.exit 4) (unpack 150 [8, 9, 10, 12, 13, 14, 17] (grW 9) (grH T cf N C (rYn N s 9)))
  | 0, k, hk => by
    obtain rfl : k = 9 := by omega
    have ht := gr_round4 T cf N C (rYn N s 9) 9
    rw [decide_eq_false (by omega)] at ht
    exact LoopRunsB.exit (round_runs hE (noLps_ok _) ht (Nat.zero_le _) (by unfold grH; split <;> exact Nat.succ_le_succ (Nat.zero_le _))) (by simp)
  | m + 1, k, hk => by
    have ht := gr_round4 T cf N C (rYn N s k) k
    rw [decide_eq_true (by omega), w64_succ (by omega), bt_of (okB_y (hs k))] at ht
    exact LoopRunsB.step (round_runs hE (noLps_ok _) ht (Nat.zero_le _) (by unfold grH; split <;> exact Nat.succ_le_succ (Nat.zero_le _))) (gr_rounds4 hE T cf N C s hs m (k + 1) (by omega))
end Go.Proofs.YthfoljgaiincdaaDoor
