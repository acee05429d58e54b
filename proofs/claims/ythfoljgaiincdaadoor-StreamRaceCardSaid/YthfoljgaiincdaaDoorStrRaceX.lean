
/- StreamRace: the whole. No condition of its own. -/
import Derived.Test.YthfoljgaiincdaaDoorStrRaceT
import Derived.Test.YthfoljgaiincdaaDoorSxMf
namespace Go.Proofs.YthfoljgaiincdaaDoor
open Go.RowKit Go.Fld Go.Sx
set_option linter.unusedVariables false
set_option linter.unusedSimpArgs false
/-! ### Rounds -/
def itS (f : S2 → S2) (s : S2) : Nat → S2
  | 0 => s
  | k + 1 => f (itS f s k)
def itA (f : As → As) (s : As) : Nat → As
  | 0 => s
  | k + 1 => f (itA f s k)
theorem Rep.itX {S n0 : Int} {m : Nat} (h : RcOK S n0 m) {s : S2} {r : As} (hr : Rep S n0 m s r) : ∀ k, Rep S n0 m (itS (s2X (.op 0 (rcf S)) 6) s k) (itA (aX m) r k)
  | 0 => hr
  | k + 1 => (hr.itX h k).X h
theorem Rep.itY {S n0 : Int} {m : Nat} (h : RcOK S n0 m) {s : S2} {r : As} (hr : Rep S n0 m s r) : ∀ k, Rep S n0 m (itS (s2Y (.op 0 (rcf S)) 6) s k) (itA (aY m) r k)
  | 0 => hr
  | k + 1 => (hr.itY h k).Y h
theorem Rep.okx {S n0 : Int} {m : Nat} {s : S2} {r : As} (hr : Rep S n0 m s r) : sOKx 6 s = true := by
  obtain ⟨h1, h2, h3⟩ := hr.ok
  unfold sOKx; rw [h1, h2]; rfl
theorem Rep.oky {S n0 : Int} {m : Nat} {s : S2} {r : As} (hr : Rep S n0 m s r) : sOKy 6 s = true := by
  obtain ⟨h1, h2, h3⟩ := hr.ok
  unfold sOKy; rw [h1, h3]; rfl
section
variable {X : Nat → Prop} {w0 : World} (hE : EnvOK smEnv X w0) (T : Tb) (op : Int) {S n0 : Int} {m : Nat} (h : RcOK S n0 m)
include hE h
theorem sr_rounds0 (hn : T.nt ≤ 16) : ∀ (j k : Nat) (s : S2) (r : As), k + j = T.nt → Rep S n0 m s r →
    ∃ s' r', Rep S n0 m s' r' ∧ LoopRunsB Tryd.prog X w0 0 1 srRound0 (unpack 156 [1, 2, 6, 7, 8, 9, 10, 11, 12] (srV T op k) (srH T (rcf S) 6 6 s)) (.exit 0) (unpack 156 [1, 2, 6, 7, 8, 9, 10, 11, 12] (srV T op T.nt) (srH T (rcf S) 6 6 s'))
  | 0, k, s, r, hk, hr => by
    obtain rfl : k = T.nt := by omega
    have ht := sr_tree0 T op (rcf S) 6 6 s.l s.t s.x s.y T.nt
    rw [decide_eq_false (by omega)] at ht
    exact ⟨s, r, hr, LoopRunsB.exit (round_runs hE (noLps_ok _) ht (Nat.zero_le _) (show 1 ≤ 10 by decide)) (by simp)⟩
  | j + 1, k, s, r, hk, hr => by
    have ht := sr_tree0 T op (rcf S) 6 6 s.l s.t s.x s.y k
    rw [decide_eq_true (by omega), cond_true, ixT_in (by omega), Int.toNat_natCast, w64_succ (by omega), bt_of hr.okx, bt_of hr.oky] at ht
    cases hb : T.tb k 0 with
    | true =>
      rw [hb, cond_true] at ht
      obtain ⟨s', r', h1, h2⟩ := sr_rounds0 hn j (k + 1) _ _ (by omega) (hr.X h)
      exact ⟨s', r', h1, LoopRunsB.step (round_runs hE (noLps_ok _) ht (Nat.zero_le _) (show 1 ≤ 10 by decide)) h2⟩
    | false =>
      rw [hb, cond_false] at ht
      obtain ⟨s', r', h1, h2⟩ := sr_rounds0 hn j (k + 1) _ _ (by omega) (hr.Y h)
      exact ⟨s', r', h1, LoopRunsB.step (round_runs hE (noLps_ok _) ht (Nat.zero_le _) (show 1 ≤ 10 by decide)) h2⟩
theorem sr_rounds2 {s : S2} {r : As} (hr : Rep S n0 m s r) : ∀ (j k : Nat), k + j = 9 →
    LoopRunsB Tryd.prog X w0 0 1 srRound2 (unpack 156 [1, 6, 7, 8, 9, 10, 11, 13] (srW op k) (srH T (rcf S) 6 6 (itS (s2X (.op 0 (rcf S)) 6) s k))) (.exit 2) (unpack 156 [1, 6, 7, 8, 9, 10, 11, 13] (srW op 9) (srH T (rcf S) 6 6 (itS (s2X (.op 0 (rcf S)) 6) s 9)))
  | 0, k, hk => by
    obtain rfl : k = 9 := by omega
    generalize itS (s2X (.op 0 (rcf S)) 6) s 9 = s'
    have ht := sr_tree2 T op (rcf S) 6 6 s'.l s'.t s'.x s'.y 9
    rw [decide_eq_false (by omega)] at ht
    exact LoopRunsB.exit (round_runs hE (noLps_ok _) ht (Nat.zero_le _) (show 1 ≤ 10 by decide)) (by simp)
  | j + 1, k, hk => by
    have hr' := (hr.itX h k).okx
    have ht := sr_tree2 T op (rcf S) 6 6 (itS (s2X (.op 0 (rcf S)) 6) s k).l (itS (s2X (.op 0 (rcf S)) 6) s k).t (itS (s2X (.op 0 (rcf S)) 6) s k).x (itS (s2X (.op 0 (rcf S)) 6) s k).y k
    rw [decide_eq_true (by omega), cond_true, w64_succ (by omega), bt_of hr'] at ht
    exact LoopRunsB.step (round_runs hE (noLps_ok _) ht (Nat.zero_le _) (show 1 ≤ 10 by decide)) (sr_rounds2 hr j (k + 1) (by omega))
theorem sr_rounds4 {s : S2} {r : As} (hr : Rep S n0 m s r) : ∀ (j k : Nat), k + j = 9 →
    LoopRunsB Tryd.prog X w0 0 1 srRound4 (unpack 156 [1, 6, 7, 8, 9, 10, 11, 14] (srW op k) (srH T (rcf S) 6 6 (itS (s2Y (.op 0 (rcf S)) 6) s k))) (.exit 4) (unpack 156 [1, 6, 7, 8, 9, 10, 11, 14] (srW op 9) (srH T (rcf S) 6 6 (itS (s2Y (.op 0 (rcf S)) 6) s 9)))
  | 0, k, hk => by
    obtain rfl : k = 9 := by omega
    generalize itS (s2Y (.op 0 (rcf S)) 6) s 9 = s'
    have ht := sr_tree4 T op (rcf S) 6 6 s'.l s'.t s'.x s'.y 9
    rw [decide_eq_false (by omega)] at ht
    exact LoopRunsB.exit (round_runs hE (noLps_ok _) ht (Nat.zero_le _) (show 1 ≤ 10 by decide)) (by simp)
  | j + 1, k, hk => by
    have hr' := (hr.itY h k).oky
    have ht := sr_tree4 T op (rcf S) 6 6 (itS (s2Y (.op 0 (rcf S)) 6) s k).l (itS (s2Y (.op 0 (rcf S)) 6) s k).t (itS (s2Y (.op 0 (rcf S)) 6) s k).x (itS (s2Y (.op 0 (rcf S)) 6) s k).y k
    rw [decide_eq_true (by omega), cond_true, w64_succ (by omega), bt_of hr'] at ht
    exact LoopRunsB.step (round_runs hE (noLps_ok _) ht (Nat.zero_le _) (show 1 ≤ 10 by decide)) (sr_rounds4 hr j (k + 1) (by omega))
end
/-! ### How many are free -/
abbrev sr6V (op e n : Int) (a : Bool) (f k : Int) (b : Bool) (free i : Int) : List Value := [.int .u8 op, .bool false, .bool true, sP 1, .int .i64 e, .int .i64 n, .bool a, .int .i64 f, .int .i64 k, .bool b, .int .i64 free, .int .i64 i]
abbrev sr5V (op e n : Int) (a : Bool) (f k : Int) (b : Bool) (free : Int) : List Value := [.int .u8 op, .bool false, .bool true, sP 1, .int .i64 e, .int .i64 n, .bool a, .int .i64 f, .int .i64 k, .bool b, .int .i64 free]
abbrev sr7V (e n : Int) (a : Bool) (f k : Int) (b : Bool) (free : Int) : List Value := [.bool false, .bool true, .int .i64 e, .int .i64 n, .bool a, .int .i64 f, .int .i64 k, .bool b, .int .i64 free]
def frN (op free : Int) (i : Nat) : Int := w64 (w64 (free + 1) - bits .and .i64 ((w64 op).fdiv (2 ^ min i 64)) 1)
theorem sr_tree6 (T : Tb) (op : Int) (cf : Cf) (e n : Int) (a : Bool) (f k : Int) (b : Bool) (free i : Int) :
    (roundV smEnv 40 noLps 156 [1, 6, 7, 8, 15, 16, 17, 18, 19, 20, 21, 22] 1 srRound6 (unpack 156 [1, 6, 7, 8, 15, 16, 17, 18, 19, 20, 21, 22] (sr6V op e n a f k b free i) [T.row, cB cf])).get =
    bif decide (i < cf.st) then (bif decide (i < 0) then none else some (.normal, sr6V op e n a f k b (w64 (w64 (free + 1) - bits .and .i64 ((w64 op).fdiv (2 ^ min i.toNat 64)) 1)) (w64 (i + 1)), [T.row, cB cf])) else some (.exit 6, sr6V op e n a f k b free i, [T.row, cB cf]) := by kernel_rfl
def frI (op : Int) : Nat → Int
  | 0 => 0
  | i + 1 => frN op (frI op i) i
theorem sr_rounds6 {X : Nat → Prop} {w0 : World} (hE : EnvOK smEnv X w0) (T : Tb) (op : Int) {S : Int} (hS : 0 ≤ S ∧ S ≤ 8) (e n : Int) (a : Bool) (f k : Int) (b : Bool) : ∀ (j i : Nat), i + j = S.toNat →
    LoopRunsB Tryd.prog X w0 0 1 srRound6 (unpack 156 [1, 6, 7, 8, 15, 16, 17, 18, 19, 20, 21, 22] (sr6V op e n a f k b (frI op i) i) [T.row, cB (rcf S)]) (.exit 6) (unpack 156 [1, 6, 7, 8, 15, 16, 17, 18, 19, 20, 21, 22] (sr6V op e n a f k b (frI op S.toNat) S.toNat) [T.row, cB (rcf S)])
  | 0, i, hi => by
    obtain rfl : i = S.toNat := by omega
    have ht := sr_tree6 T op (rcf S) e n a f k b (frI op S.toNat) S.toNat
    rw [decide_eq_false (show ¬ ((S.toNat : Nat) : Int) < (rcf S).st by show ¬ _ < S; omega)] at ht
    exact LoopRunsB.exit (round_runs hE (noLps_ok _) ht (Nat.zero_le _) (show 1 ≤ 2 by decide)) (by simp)
  | j + 1, i, hi => by
    have ht := sr_tree6 T op (rcf S) e n a f k b (frI op i) i
    rw [decide_eq_true (show ((i : Nat) : Int) < (rcf S).st by show _ < S; omega), cond_true, decide_eq_false (by omega), cond_false, Int.toNat_natCast, w64_succ (by omega)] at ht
    exact LoopRunsB.step (round_runs hE (noLps_ok _) ht (Nat.zero_le _) (show 1 ≤ 2 by decide)) (sr_rounds6 hE T op hS e n a f k b j (i + 1) (by omega))
theorem sr_norm6 (T : Tb) (op : Int) (cf : Cf) (e n : Int) (a : Bool) (f k : Int) (b : Bool) (free i : Int) : (normV 156 [6, 7, 15, 16, 17, 18, 19, 20, 21] 1 (unpack 156 [1, 6, 7, 8, 15, 16, 17, 18, 19, 20, 21, 22] (sr6V op e n a f k b free i) [T.row, cB cf])).get = some (sr7V e n a f k b free, [T.row]) := by kernel_rfl
def mOf (fr : Int) : Nat := (if fr < 2 then fr else 2).toNat
def chkR (S n0 : Nat) : Bool :=
  decide (0 ≤ frI n0 S) && Nat.ble (mOf (frI n0 S)) 2 && ((List.range 3).all fun k => bif Nat.ble k (mOf (frI n0 S)) then decide (0 ≤ nK n0 k) && decide (nK n0 k ≤ 255) && (bif Nat.blt k (mOf (frI n0 S)) then decide (lowI (nK n0 k) < S) else true) else true) && (bif Nat.blt (mOf (frI n0 S)) 2 then !decide (lowI (nK n0 (mOf (frI n0 S))) < S) else !(lowI (nK n0 0) == lowI (nK n0 1)))
theorem chkR_all : (List.range 9).all (fun S => (List.range 256).all fun n0 => chkR S n0) = true := by kernel_rfl
theorem chkR_of {S n0 : Nat} (hS : S ≤ 8) (hn : n0 ≤ 255) : 0 ≤ frI n0 S ∧ RcOK S n0 (mOf (frI n0 S)) ∧ (mOf (frI n0 S) = 2 → lowI (nK n0 0) ≠ lowI (nK n0 1)) := by
  have h := List.all_eq_true.1 (List.all_eq_true.1 chkR_all S (List.mem_range.2 (by omega))) n0 (List.mem_range.2 (by omega))
  unfold chkR at h
  simp only [Bool.and_eq_true, decide_eq_true_eq] at h
  obtain ⟨⟨⟨h1, h2⟩, h3⟩, h4⟩ := h
  have h2 := Nat.le_of_ble_eq_true h2
  generalize mOf (frI n0 S) = m at h2 h3 h4
  have h3 : ∀ k, k ≤ m → (0 ≤ nK n0 k ∧ nK n0 k ≤ 255) ∧ (k < m → lowI (nK n0 k) < S) := fun k hk => by
    have := List.all_eq_true.1 h3 k (List.mem_range.2 (by omega))
    rw [Nat.ble_eq_true_of_le hk, cond_true] at this
    simp only [Bool.and_eq_true, decide_eq_true_eq] at this
    refine ⟨this.1, fun hkm => ?_⟩
    have h5 := this.2
    rw [show Nat.blt k m = true by rw [Nat.blt_eq]; exact hkm, cond_true, decide_eq_true_eq] at h5
    exact h5
  refine ⟨h1, ⟨h2, fun k hk => (h3 k hk).1, fun k hk => (h3 k (by omega)).2 hk, fun hm => ?_, ⟨by omega, by omega⟩⟩, fun hm => ?_⟩
  · rw [show Nat.blt m 2 = true by rw [Nat.blt_eq]; exact hm, cond_true] at h4
    simpa using h4
  · subst hm
    rw [show Nat.blt 2 2 = false from rfl, cond_false] at h4
    simpa using h4
/-! ### The pieces -/
abbrev srP (T : Tb) (op : Int) : List Value := [.int .u8 op, .slice (some ⟨0, 0, some 2⟩) T.nt T.ct, .bool false, .bool true, sP 1, sP 2, sP 3, sP 4]
abbrev srP0 (T : Tb) (op : Int) : List Value := [.int .u8 op, .slice (some ⟨0, 0, some 2⟩) T.nt T.ct, .bool true, .bool true, undef, undef, undef, undef]
def srS (S n0 : Int) : S2 := ⟨memK n0 0, 6, conQ S n0 ⟨0, 0, 0⟩, conQ S n0 ⟨0, 0, 0⟩⟩
theorem sr_cut : cutOK 7 srBody = true := by kernel_rfl
theorem sr_pre (T : Tb) (st op : Int) :
    (roundV lwEnv 60 noLps 156 [1, 2, 6, 7, 8, 9, 10, 11] 1 (cutA 7 srBody) ⟨[.int .u8 st, .int .u8 op, .slice (some ⟨0, 0, some 2⟩) T.nt T.ct] ++ List.replicate (156 - 3) undef, [T.row]⟩).get =
    bif decide ((T.nt : Int) > 16) then some (.ret, srP0 T op, [T.row]) else bt (rightC (rcf (w64 (st.tmod 9)))) (some (.normal, srP T op, srH T (rcf (w64 (st.tmod 9))) 6 6 (srS (w64 (st.tmod 9)) (w64 op)))) := by kernel_rfl
noncomputable def srT8 : Code := cutZ 7 srBody
noncomputable def srT9 : Code := cutZ 0 srT8
noncomputable def srT10 : Code := cutZ 0 srT9
noncomputable def srT11 : Code := cutZ 0 srT10
noncomputable def srT14 : Code := cutZ 2 srT11
noncomputable def srT15 : Code := cutZ 0 srT14
theorem sr_shape8 : srT8 = .seq (.seq (cutA 0 (cutA 0 srT8)) (.block 0 (blkAt 0 srBody))) srT9 := by kernel_rfl
theorem sr_shape9 : srT9 = .seq (.seq (cutA 0 (cutA 0 srT9)) (.block 2 (blkAt 2 srBody))) srT10 := by kernel_rfl
theorem sr_shape10 : srT10 = .seq (.seq (cutA 0 (cutA 0 srT10)) (.block 4 (blkAt 4 srBody))) srT11 := by kernel_rfl
theorem sr_shape14 : srT14 = .seq (.seq (cutA 0 (cutA 0 srT14)) (.block 6 (blkAt 6 srBody))) srT15 := by kernel_rfl
theorem sr_cut11 : cutOK 2 srT11 = true := by kernel_rfl
theorem sr_f8 (T : Tb) (op : Int) (cf : Cf) (N C : Nat) (s : S2) : (roundV smEnv 60 noLps 156 [1, 2, 6, 7, 8, 9, 10, 11, 12] 1 (cutA 0 (cutA 0 srT8)) (unpack 156 [1, 2, 6, 7, 8, 9, 10, 11] (srP T op) (srH T cf N C s))).get = some (.normal, srV T op 0, srH T cf N C s) := by kernel_rfl
theorem sr_f9 (T : Tb) (op : Int) (cf : Cf) (N C : Nat) (s : S2) : (roundV smEnv 60 noLps 156 [1, 6, 7, 8, 9, 10, 11, 13] 1 (cutA 0 (cutA 0 srT9)) (unpack 156 [1, 6, 7, 8, 9, 10, 11] (srU op) (srH T cf N C s))).get = some (.normal, srW op 0, srH T cf N C s) := by kernel_rfl
theorem sr_f10 (T : Tb) (op : Int) (cf : Cf) (N C : Nat) (s : S2) : (roundV smEnv 60 noLps 156 [1, 6, 7, 8, 9, 10, 11, 14] 1 (cutA 0 (cutA 0 srT10)) (unpack 156 [1, 6, 7, 8, 9, 10, 11] (srU op) (srH T cf N C s))).get = some (.normal, srW op 0, srH T cf N C s) := by kernel_rfl
theorem sr_f14 (T : Tb) (op : Int) (cf : Cf) (e n : Int) (a : Bool) (f k : Int) (b : Bool) (free : Int) : (roundV smEnv 60 noLps 156 [1, 6, 7, 8, 15, 16, 17, 18, 19, 20, 21, 22] 1 (cutA 0 (cutA 0 srT14)) (unpack 156 [1, 6, 7, 8, 15, 16, 17, 18, 19, 20, 21] (sr5V op e n a f k b free) [T.row, cB cf])).get = some (.normal, sr6V op e n a f k b free 0, [T.row, cB cf]) := by kernel_rfl
def srN (e n : Int) : Int := bif e == 0 then n else 0
theorem sr_ans00 (T : Tb) (op : Int) (cf : Cf) (N C : Nat) (l : List Int) (t : Int) (wx nx ux wy ny uy : Int) : (roundV smEnv 60 noLps 156 [1, 6, 7, 8, 15, 16, 17, 18, 19, 20, 21] 1 (cutA 2 srT11) (unpack 156 [1, 6, 7, 8, 9, 10, 11] (srU op) (srH T cf N C ⟨l, t, ⟨cf, 0, 0, 1, 3, wx, nx, ux, 0⟩, ⟨cf, 0, 0, 1, 3, wy, ny, uy, 0⟩⟩))).get = some (.normal, sr5V op 0 ux true 0 uy true 0, [T.row, cB cf]) := by kernel_rfl
theorem sr_fin00 (T : Tb) (n k free : Int) : (roundV smEnv 60 noLps 156 [6] 1 srT15 (unpack 156 [6, 7, 15, 16, 17, 18, 19, 20, 21] (sr7V 0 n true 0 k true free) [T.row])).get = bif 2 == (if free < 2 then free else 2) then (bif n != k then some (.ret, [.bool true], [T.row]) else some (.ret, [.bool false], [T.row])) else some (.ret, [.bool false], [T.row]) := by kernel_rfl
theorem sr_ans010 (T : Tb) (op : Int) (cf : Cf) (N C : Nat) (l : List Int) (t : Int) (wx nx ux wy ny uy : Int) : (roundV smEnv 60 noLps 156 [1, 6, 7, 8, 15, 16, 17, 18, 19, 20, 21] 1 (cutA 2 srT11) (unpack 156 [1, 6, 7, 8, 9, 10, 11] (srU op) (srH T cf N C ⟨l, t, ⟨cf, 0, 0, 1, 3, wx, nx, ux, 0⟩, ⟨cf, 0, 0, 1, 3, wy, ny, uy, 10⟩⟩))).get = some (.normal, sr5V op 0 ux true 10 0 true 0, [T.row, cB cf]) := by kernel_rfl
theorem sr_fin010 (T : Tb) (n k free : Int) : (roundV smEnv 60 noLps 156 [6] 1 srT15 (unpack 156 [6, 7, 15, 16, 17, 18, 19, 20, 21] (sr7V 0 n true 10 k true free) [T.row])).get = bif 1 == (if free < 2 then free else 2) then some (.ret, [.bool true], [T.row]) else some (.ret, [.bool false], [T.row]) := by kernel_rfl
theorem sr_ans100 (T : Tb) (op : Int) (cf : Cf) (N C : Nat) (l : List Int) (t : Int) (wx nx ux wy ny uy : Int) : (roundV smEnv 60 noLps 156 [1, 6, 7, 8, 15, 16, 17, 18, 19, 20, 21] 1 (cutA 2 srT11) (unpack 156 [1, 6, 7, 8, 9, 10, 11] (srU op) (srH T cf N C ⟨l, t, ⟨cf, 0, 0, 1, 3, wx, nx, ux, 10⟩, ⟨cf, 0, 0, 1, 3, wy, ny, uy, 0⟩⟩))).get = some (.normal, sr5V op 10 0 true 0 uy true 0, [T.row, cB cf]) := by kernel_rfl
theorem sr_fin100 (T : Tb) (n k free : Int) : (roundV smEnv 60 noLps 156 [6] 1 srT15 (unpack 156 [6, 7, 15, 16, 17, 18, 19, 20, 21] (sr7V 10 n true 0 k true free) [T.row])).get = bif 1 == (if free < 2 then free else 2) then some (.ret, [.bool true], [T.row]) else some (.ret, [.bool false], [T.row]) := by kernel_rfl
theorem sr_ans1010 (T : Tb) (op : Int) (cf : Cf) (N C : Nat) (l : List Int) (t : Int) (wx nx ux wy ny uy : Int) : (roundV smEnv 60 noLps 156 [1, 6, 7, 8, 15, 16, 17, 18, 19, 20, 21] 1 (cutA 2 srT11) (unpack 156 [1, 6, 7, 8, 9, 10, 11] (srU op) (srH T cf N C ⟨l, t, ⟨cf, 0, 0, 1, 3, wx, nx, ux, 10⟩, ⟨cf, 0, 0, 1, 3, wy, ny, uy, 10⟩⟩))).get = some (.normal, sr5V op 10 0 true 10 0 true 0, [T.row, cB cf]) := by kernel_rfl
theorem sr_fin1010 (T : Tb) (n k free : Int) : (roundV smEnv 60 noLps 156 [6] 1 srT15 (unpack 156 [6, 7, 15, 16, 17, 18, 19, 20, 21] (sr7V 10 n true 10 k true free) [T.row])).get = bif 0 == (if free < 2 then free else 2) then some (.ret, [.bool true], [T.row]) else some (.ret, [.bool false], [T.row]) := by kernel_rfl
theorem sr_res (H : List Go.Sx.Blk) : (resultsM Tryd.prog Tryd.f7 (unpack 156 [6] [.bool true] H)).get = some (.bool true) := by kernel_rfl
theorem sr_res0 (T : Tb) (op : Int) (H : List Go.Sx.Blk) : (resultsM Tryd.prog Tryd.f7 (unpack 156 [1, 2, 6, 7, 8, 9, 10, 11] (srP0 T op) H)).get = some (.bool true) := by kernel_rfl
/-- From the answers on. -/
theorem sr_end {X : Nat → Prop} {w0 : World} (hE : EnvOK smEnv X w0) (T : Tb) (op : Int) {S : Int} (hS : 0 ≤ S ∧ S ≤ 8) {e n f k : Int} (hf : (roundV smEnv 60 noLps 156 [6] 1 srT15 (unpack 156 [6, 7, 15, 16, 17, 18, 19, 20, 21] (sr7V e n true f k true (frI op S.toNat)) [T.row])).get = some (.ret, [.bool true], [T.row])) :
    RunsB Tryd.prog X w0 0 1 srT14 (unpack 156 [1, 6, 7, 8, 15, 16, 17, 18, 19, 20, 21] (sr5V op e n true f k true 0) [T.row, cB (rcf S)]) .ret (unpack 156 [6] [.bool true] [T.row]) := by
  have h1 := round_runs hE (noLps_ok _) (sr_f14 T op (rcf S) e n true f k true 0) (Nat.zero_le _) (show 1 ≤ 2 by decide)
  have h2 := (sr_rounds6 hE T op hS e n true f k true S.toNat 0 (Nat.zero_add _)).runs.block_exit.norm (sr_norm6 T op (rcf S) e n true f k true _ _) (Nat.zero_le _)
  rw [← sr_loop6] at h2
  have h3 := round_runs hE (noLps_ok _) hf (Nat.zero_le _) (show 1 ≤ 1 by decide)
  rw [sr_shape14]
  exact (h1.seq h2).seq h3
theorem sr_go (w : World) (hT : TT w) (st : Int) (hst : 0 ≤ st ∧ st ≤ 255) (op : Int) (hop : 0 ≤ op ∧ op ≤ 255) (nt ct : Nat) (gi : Nat → Nat → Int) (gb : Nat → Nat → Bool) {σ : Nat → Option Pl} (hr : HR (· < w.heap.size) w 0 σ [(⟨nt, ct, gi, gb⟩ : Tb).row] w)
    {args' : Array Value} (hv : VRA σ [.int .u8 st, .int .u8 op, .slice (some ⟨0, 0, some 2⟩) nt ct].toArray args') : Calls Tryd.prog 7 args' w fun e w' => e = .returned (.bool true) ∧ Below w.heap.size w w' := by
  obtain ⟨T, hTT⟩ : ∃ T : Tb, T = ⟨nt, ct, gi, gb⟩ := ⟨_, rfl⟩
  obtain rfl : nt = T.nt := by rw [hTT]
  obtain rfl : ct = T.ct := by rw [hTT]
  rw [← hTT] at hr
  have hE := smEnv_ok _ w hT.lt (bnd_self w) hT
  have hA := lwEnv_ok _ w hT.lt (bnd_self w) hT
  have hf : smEnv.P.funcs[7]? = some Tryd.f7 := Tryd.func7
  have hb : Tryd.f7.body = some srBody := by kernel_rfl
  have hn : Tryd.f7.ntmps = 156 := by kernel_rfl
  have hp := sr_pre T st op
  by_cases hl : T.nt ≤ 16
  case neg =>
    rw [decide_eq_true (by omega), cond_true] at hp
    have hq := (cut_runs hA (Nat.zero_le _) sr_cut (show 1 ≤ 1 by decide) hp).2 (by simp)
    exact body_start (E := smEnv) rfl hf hb (by rw [hn]; exact hq) (.inr rfl) (sr_res0 T op _) rfl hr hv
  obtain ⟨S, hSe⟩ : ∃ S : Int, w64 (st.tmod 9) = S := ⟨_, rfl⟩
  have hS : 0 ≤ S ∧ S ≤ 8 := by
    rw [← hSe, Int.tmod_eq_emod_of_nonneg hst.1]
    have g1 := Int.emod_nonneg st (show (9 : Int) ≠ 0 by omega)
    have g2 := Int.emod_lt_of_pos st (show (0 : Int) < 9 by omega)
    rw [w64_in ⟨by omega, by omega⟩]
    omega
  have hop2 : w64 op = op := w64_in ⟨by omega, by omega⟩
  obtain ⟨c1, c2, c3⟩ := chkR_of (S := S.toNat) (n0 := op.toNat) (by omega) (by omega)
  rw [show ((op.toNat : Nat) : Int) = op by omega] at c1 c2 c3
  rw [show ((S.toNat : Nat) : Int) = S by omega] at c2
  have hm : (mOf (frI op S.toNat) : Int) = if frI op S.toNat < 2 then frI op S.toNat else 2 := by
    unfold mOf
    split <;> omega
  generalize mOf (frI op S.toNat) = m at c2 c3 hm
  have hrc : rightC (rcf S) = true := rightC_iff.2 (by constructor <;> (unfold rcf; simp only; omega))
  rw [decide_eq_false (by omega), cond_false, hSe, hop2, bt_of hrc] at hp
  have h0 := (cut_runs hA (Nat.zero_le _) sr_cut (show 1 ≤ 1 by decide) hp).1 rfl
  have hrep : Rep S op m (srS S op) ⟨0, ⟨0, 0, 0⟩, ⟨0, 0, 0⟩⟩ := ⟨rfl, rfl, rfl, rL_start c2.m2⟩
  obtain ⟨s1, r1, hr1, hl0⟩ := sr_rounds0 hE T op c2 hl T.nt 0 _ _ (Nat.zero_add _) hrep
  have hl2 := sr_rounds2 hE T op c2 hr1 9 0 (Nat.zero_add _)
  have hr2 := hr1.itX c2 9
  have hl4 := sr_rounds4 hE T op c2 hr2 9 0 (Nat.zero_add _)
  have hr3 := hr2.itY c2 9
  have hfin : finA m (itA (aY m) (itA (aX m) r1 9) 9) = true := (atA_of c2.m2 hr1.mem).fin
  generalize itS (s2Y (.op 0 (rcf S)) 6) (itS (s2X (.op 0 (rcf S)) 6) s1 9) 9 = s3 at hl4 hr3
  generalize itA (aY m) (itA (aX m) r1 9) 9 = r3 at hfin hr3
  have b8 := (round_runs hE (noLps_ok _) (sr_f8 T op (rcf S) 6 6 (srS S op)) (Nat.zero_le _) (show 1 ≤ 10 by decide)).seq (sr_loop0 ▸ hl0.runs.block_exit.norm (sr_norm0 T op (rcf S) 6 6 s1 T.nt) (Nat.zero_le _))
  have b9 := (round_runs hE (noLps_ok _) (sr_f9 T op (rcf S) 6 6 s1) (Nat.zero_le _) (show 1 ≤ 10 by decide)).seq (sr_loop2 ▸ hl2.runs.block_exit.norm (sr_norm2 T op (rcf S) 6 6 _ 9) (Nat.zero_le _))
  have b10 := (round_runs hE (noLps_ok _) (sr_f10 T op (rcf S) 6 6 _) (Nat.zero_le _) (show 1 ≤ 10 by decide)).seq (sr_loop4 ▸ hl4.runs.block_exit.norm (sr_norm4 T op (rcf S) 6 6 s3 9) (Nat.zero_le _))
  have key : ∃ H, RunsB Tryd.prog (· < w.heap.size) w 0 1 srT11 (unpack 156 [1, 6, 7, 8, 9, 10, 11] (srU op) (srH T (rcf S) 6 6 s3)) .ret (unpack 156 [6] [.bool true] H) := by
    obtain ⟨l3, t3, x3, y3⟩ := s3
    obtain ⟨e1, e2, e3, _⟩ := hr3
    obtain ⟨k3, ⟨pa, ja, ia⟩, ⟨pb, jb, ib⟩⟩ := r3
    simp only at e1 e2 e3
    subst e1 e2 e3
    unfold finA dnA gotA at hfin
    simp only [Bool.and_eq_true, Bool.or_eq_true] at hfin
    obtain ⟨⟨⟨f1, f2⟩, f3⟩, f4⟩ := hfin
    refine ⟨[T.row], ?_⟩
    rcases f1 with f1 | f1 <;> rcases f2 with f2 | f2 <;> (obtain rfl := Nat.eq_of_beq_eq_true f1; obtain rfl := Nat.eq_of_beq_eq_true f2; have f3 := Nat.eq_of_beq_eq_true f3)
    · obtain rfl : m = 2 := f3.symm
      have hne := c3 rfl
      have hnk : (nuA op ia != nuA op ib) = true := by
        rw [bne_iff_ne]
        simp only [Nat.beq_refl, cond_true, Bool.or_eq_true, Bool.and_eq_true] at f4
        rcases f4 with ⟨g1, g2⟩ | ⟨g1, g2⟩ <;> (obtain rfl := Nat.eq_of_beq_eq_true g1; obtain rfl := Nat.eq_of_beq_eq_true g2)
        · exact hne
        · exact Ne.symm hne
      refine (cut_runs hE (Nat.zero_le _) sr_cut11 (show 1 ≤ 10 by decide) (sr_ans00 T op (rcf S) 6 6 _ t3 _ _ _ _ _ _)).1 rfl _ _ (sr_end hE T op hS ?_)
      rw [sr_fin00, ← hm, hnk]; rfl
    · obtain rfl : m = 1 := f3.symm
      refine (cut_runs hE (Nat.zero_le _) sr_cut11 (show 1 ≤ 10 by decide) (sr_ans010 T op (rcf S) 6 6 _ t3 _ _ _ _ _ _)).1 rfl _ _ (sr_end hE T op hS ?_)
      rw [sr_fin010, ← hm]; rfl
    · obtain rfl : m = 1 := f3.symm
      refine (cut_runs hE (Nat.zero_le _) sr_cut11 (show 1 ≤ 10 by decide) (sr_ans100 T op (rcf S) 6 6 _ t3 _ _ _ _ _ _)).1 rfl _ _ (sr_end hE T op hS ?_)
      rw [sr_fin100, ← hm]; rfl
    · obtain rfl : m = 0 := f3.symm
      refine (cut_runs hE (Nat.zero_le _) sr_cut11 (show 1 ≤ 10 by decide) (sr_ans1010 T op (rcf S) 6 6 _ t3 _ _ _ _ _ _)).1 rfl _ _ (sr_end hE T op hS ?_)
      rw [sr_fin1010, ← hm]; rfl
  obtain ⟨H, key⟩ := key
  have hall : RunsB Tryd.prog (· < w.heap.size) w 0 1 srT8 (unpack 156 [1, 2, 6, 7, 8, 9, 10, 11] (srP T op) (srH T (rcf S) 6 6 (srS S op))) .ret (unpack 156 [6] [.bool true] H) := by
    rw [sr_shape8]
    refine b8.seq ?_
    rw [sr_shape9]
    refine b9.seq ?_
    rw [sr_shape10]
    exact b10.seq key
  exact body_start (E := smEnv) rfl hf hb (by rw [hn]; exact h0 _ _ hall) (.inr rfl) (sr_res _) rfl hr hv
theorem sr_walk (w : World) (hT : TT w) (x0 : Int) (b0 : 0 ≤ x0 ∧ x0 ≤ 255) (x1 : Int) (b1 : 0 ≤ x1 ∧ x1 ≤ 255) {B2 : Option Addr} {m2 q2 : Nat} {S2 : Go.Sx.Rows} (k2 : S2.ks = [.bo]) (r2 : ArgRow w B2 m2 q2 1 S2) :
    Calls Tryd.prog 7 #[.int .u8 x0, .int .u8 x1, .slice B2 m2 q2] w fun e w' => e = .returned (.bool true) ∧ Below w.heap.size w w' := by
  obtain ⟨ks2, S2gi, S2gb⟩ := S2
  simp only at k2
  subst k2
  let L : List ArgE := [(B2, m2, q2, 1, ⟨[.bo], S2gi, S2gb⟩)]
  let σ : Nat → Option Pl := fun k => (L[k]?).bind fun e : ArgE => plOf e.1 e.2.1 e.2.2.2.1
  have hL : ∀ e ∈ L, ArgRow w e.1 e.2.1 e.2.2.1 e.2.2.2.1 e.2.2.2.2 := by
    intro e he
    simp only [L, List.mem_cons, List.not_mem_nil, or_false] at he
    rcases he with rfl
    · exact r2
  have hr : HR (· < w.heap.size) w 0 σ ((L.map fun e : ArgE => (e.2.2.2.1, e.2.1, e.2.2.2.2)).map fun e => .rows false false e.1 e.2.1 e.2.2) w := args_hr _ (plOfs_some L hL)
  refine sr_go w hT x0 b0 x1 b1 m2 q2 S2gi S2gb hr (VRA.of_list ?_)
  exact .cons (.int _ _) (.cons (.int _ _) (.cons (VR.argRow (σ := σ) (k := 0) r2 rfl _) .nil))
end Go.Proofs.YthfoljgaiincdaaDoor
