/- LifeRuns: the whole run. No condition of its own. -/
import Derived.Test.YtjgifhegfadohaaDoorLifeRunsP
namespace Go.Sx
open Go Go.RowKit
def seqs : List Code → Code → Code
  | [], c => c
  | p :: r, c => .seq p (seqs r c)
def execs (E : Env) (fuel : Nat) : List Code → St → M St
  | [], s => .ret s
  | p :: r, s => .bind (exec E fuel p s) fun q => match q.1 with
    | .normal => execs E fuel r q.2
    | _ => .bad
theorem execs_runs {E : Env} {n : Nat} {w0 : World} (hE : EnvOK E n w0) {fuel : Nat} {c : Code} {e : Exit} {s' : St} : ∀ (l : List Code) (s s1 : St), (execs E fuel l s).get = some s1 → Runs E.P n w0 E.G c s1 e s' → Runs E.P n w0 E.G (seqs l c) s e s'
  | [], s, s1, h, k => by
    simp only [execs, M.get_ret, Option.some.injEq] at h
    subst h; exact k
  | p :: r, s, s1, h, k => by
    simp only [execs] at h
    obtain ⟨⟨e1, s2⟩, h1, h2⟩ := M.get_bind_some h
    simp only at h2
    split at h2
    · exact (exec_runs hE h1).seq (execs_runs hE r s2 s1 h2 k)
    · cases h2
end Go.Sx
namespace Go.Proofs.YtjgifhegfadohaaDoor
open Go.RowKit Go.Fld Go.Sx
set_option linter.unusedVariables false
noncomputable def runsP (i : Nat) : Code := seqL (match i with | 0 => runsBody | 1 => seqR runsBody | 2 => seqR (seqR runsBody) | 3 => seqR (seqR (seqR runsBody)) | 4 => seqR (seqR (seqR (seqR runsBody))) | _ => seqR (seqR (seqR (seqR (seqR runsBody)))))
theorem runs_shape : runsBody = seqs [runsP 0] (.seq (runsP 1) (seqs [runsP 2, runsP 3, runsP 4, runsP 5] (.seq (.seq (seqL (seqL runsTail)) (.block 0 (.loop runsRound))) (seqR runsTail)))) := by kernel_rfl
def runs0 (n cap : Nat) (g : Nat → Nat → Int) (u : Int) : St := ⟨[.slice (some ⟨0, 0, some 0⟩) n cap, .int .u8 u] ++ List.replicate 104 undef, [.rows false false 3 n (fun i j => .int .i64 (g i j))]⟩
def runs1 (n cap : Nat) (g : Nat → Nat → Int) (u : Int) : St := ⟨[.slice (some ⟨0, 0, some 0⟩) n cap, .int .u8 u, undef, undef, undef, .bool true] ++ List.replicate 100 undef, [.rows false false 3 n (fun i j => .int .i64 (g i j))]⟩
noncomputable def runsStart (n cap : Nat) (g : Nat → Nat → Int) (u : Int) : M (Exit × St) :=
  .bind (execs lawEnv 60 [runsP 0] (runs0 n cap g u)) fun s => cond (Nat.ble s.lh.length 1) (roundM lawEnv 60 (runsP 1) [true, true, false, false, false, true] 1 s) .bad
theorem start_tree (n cap : Nat) (g : Nat → Nat → Int) (u : Int) : (runsStart n cap g u).run (Option (Exit × St)) none some = some (.normal, runs1 n cap g u) := by kernel_rfl
noncomputable def runsPre (n cap : Nat) (g : Nat → Nat → Int) (u : Int) : M (Exit × St) :=
  .bind (execs lawEnv 60 [runsP 2, runsP 3, runsP 4, runsP 5] (runs1 n cap g u)) fun s => cond (Nat.ble s.lh.length 2) (roundM lawEnv 60 (seqL (seqL runsTail)) runsMask 2 s) .bad
def kOf (u : Int) : Int := IntKind.i64.wrap (u.tmod 9)
theorem pre_tree (n cap : Nat) (g : Nat → Nat → Int) (u : Int) : (runsPre n cap g u).run (Option (Exit × St)) none some = bif decide ((n : Int) > 60) then none else some (.normal, runsS n cap g Slt.zero (kOf u) 0 0) := by kernel_rfl
noncomputable def runsPost (n cap : Nat) (g : Nat → Nat → Int) (s : Slt) (k ls i : Int) : St := (((exec lawEnv 60 (seqR runsTail) (runsS n cap g s k ls i)).run (Option (Exit × St)) none some).getD (.ret, ⟨[], []⟩)).2
theorem post_tree (n cap : Nat) (g : Nat → Nat → Int) (s : Slt) (k ls i : Int) : (exec lawEnv 60 (seqR runsTail) (runsS n cap g s k ls i)).run (Option (Exit × St)) none some = some (.ret, runsPost n cap g s k ls i) := by kernel_rfl
theorem post_res (n cap : Nat) (g : Nat → Nat → Int) (s : Slt) (k ls i : Int) : (resultsM Tryd.prog Tryd.f9 (runsPost n cap g s k ls i)).run (Option Value) none some = some (.bool true) := by kernel_rfl
noncomputable def runsFar (n cap : Nat) (g : Nat → Nat → Int) (u : Int) : M (Exit × St) := exec lawEnv 60 (runsP 2) (runs1 n cap g u)
theorem far_tree (n cap : Nat) (g : Nat → Nat → Int) (u : Int) : (runsFar n cap g u).run (Option Value) none (fun r => match r.1 with | .ret => (resultsM Tryd.prog Tryd.f9 r.2).run (Option Value) none some | _ => none) = bif decide ((n : Int) > 60) then some (.bool true) else none := by kernel_rfl
theorem runs_call {N : Nat} {w0 : World} (hT : Tab w0) (hN : 0 < N) (n cap : Nat) (g : Nat → Nat → Int) (u : Int) (h0 : 0 ≤ u) (h1 : u ≤ 255) :
    ∃ lh', CallTo Tryd.prog N w0 0 9 [.slice (some ⟨0, 0, some 0⟩) n cap, .int .u8 u] [.rows false false 3 n (fun i j => .int .i64 (g i j))] (.bool true, lh') := by
  have hE := lawEnv_ok (n := N) (w0 := w0) hT hN
  have hb : Tryd.f9.body = some runsBody := by kernel_rfl
  have hz : ([.slice (some ⟨0, 0, some 0⟩) n cap, .int .u8 u] : List Value) ++ List.replicate (Tryd.f9.ntmps - 2) undef = (runs0 n cap g u).tmps := by kernel_rfl
  obtain ⟨s0, j1, j2⟩ := M.get_bind_some (show (runsStart n cap g u).get = some (.normal, runs1 n cap g u) from start_tree n cap g u)
  have hj : s0.lh.length ≤ 1 ∧ (roundM lawEnv 60 (runsP 1) [true, true, false, false, false, true] 1 s0).get = some (.normal, runs1 n cap g u) := by
    cases hc : Nat.ble s0.lh.length 1 with
    | true => rw [hc] at j2; exact ⟨Nat.le_of_ble_eq_true hc, j2⟩
    | false => rw [hc] at j2; cases j2
  have hrp : RowsPlain (runs1 n cap g u).lh := by
    intro q o wr wd m h hq i j
    match q, hq with
    | 0, hq => simp [runs1] at hq; obtain ⟨_, _, _, _, rfl⟩ := hq; rfl
    | q + 1, hq => simp [runs1] at hq
  have r1 := round_runs hE hj.2 hj.1 (Nat.zero_le _) hrp
  by_cases hn : (n : Int) > 60
  · have ht := far_tree n cap g u
    rw [decide_eq_true hn, M.run_eq] at ht
    cases hx : (runsFar n cap g u).get with
    | none => rw [hx] at ht; cases ht
    | some r =>
      rw [hx] at ht
      obtain ⟨e, s'⟩ := r
      simp only [Option.elim_some, cond_true] at ht
      split at ht
      · rename_i he
        have k2 : (exec lawEnv 60 (runsP 2) (runs1 n cap g u)).get = some (.ret, s') := hx
        have hr : Runs Tryd.prog N w0 0 runsBody (runs0 n cap g u) .ret s' := by
          rw [show runsBody = seqs [runsP 0] (.seq (runsP 1) (.seq (runsP 2) (seqR (seqR (seqR runsBody))))) by kernel_rfl]
          exact execs_runs hE _ _ s0 j1 (r1.seq ((exec_runs hE k2).seq_out (by simp)))
        refine ⟨s'.lh, body_calls Tryd.func9 hb ?_ (.inr rfl) ht⟩
        rw [show (([.slice (some ⟨0, 0, some 0⟩) n cap, .int .u8 u] : List Value).length) = 2 from rfl, hz]
        exact hr
      · cases ht
  · have hk : kOf u = u % 9 := by
      unfold kOf
      rw [Int.tmod_eq_emod_of_nonneg h0, wrap_small (by omega) (by omega)]
    have ht := pre_tree n cap g u
    rw [decide_eq_false hn] at ht
    have hpre : (runsPre n cap g u).get = some (.normal, runsS n cap g Slt.zero (kOf u) 0 0) := ht
    obtain ⟨s6, k1, k2⟩ := M.get_bind_some hpre
    have hk2 : s6.lh.length ≤ 2 ∧ (roundM lawEnv 60 (seqL (seqL runsTail)) runsMask 2 s6).get = some (.normal, runsS n cap g Slt.zero (kOf u) 0 0) := by
      cases hc : Nat.ble s6.lh.length 2 with
      | true => rw [hc] at k2; exact ⟨Nat.le_of_ble_eq_true hc, k2⟩
      | false => rw [hc] at k2; cases k2
    have r7 := round_runs hE hk2.2 hk2.1 (Nat.zero_le _) (runs_rows _ _ _ _ _ _ _)
    have hI : Inv n Slt.zero (kOf u) 0 0 := ⟨right_facts.1 (by decide), rfl, by omega, by omega, by omega, by rw [hk]; omega, by
      have : (0 : Int) < 2 ^ (kOf u).toNat := Int.pow_pos (by decide)
      exact this⟩
    obtain ⟨s', ls', hl⟩ := loop_ok hT hN (cap := cap) (g := g) n Slt.zero 0 0 (by omega) hI
    have hB := Runs.block_exit (id := 0) hl.runs
    have hP := exec_runs hE (show (exec lawEnv 60 (seqR runsTail) (runsS n cap g s' (kOf u) ls' n)).get = some (.ret, runsPost n cap g s' (kOf u) ls' n) from post_tree n cap g s' (kOf u) ls' n)
    have hr : Runs Tryd.prog N w0 0 runsBody (runs0 n cap g u) .ret (runsPost n cap g s' (kOf u) ls' n) := by
      rw [runs_shape]
      exact execs_runs hE _ _ s0 j1 (r1.seq (execs_runs hE _ _ s6 k1 ((r7.seq hB).seq hP)))
    refine ⟨_, body_calls Tryd.func9 hb ?_ (.inr rfl) (post_res n cap g s' (kOf u) ls' n)⟩
    rw [show (([.slice (some ⟨0, 0, some 0⟩) n cap, .int .u8 u] : List Value).length) = 2 from rfl, hz]
    exact hr
end Go.Proofs.YtjgifhegfadohaaDoor
