
/- Code taken apart: a run of its first parts, then of the rest. No condition of its own. -/
import Derived.Test.YthfoljgaiincdaaDoorSxMe
namespace Go.Sx
open Go Go.RowKit
set_option linter.unusedVariables false
set_option linter.unusedSimpArgs false
/-- The first n + 1 parts. -/
def cutA : Nat → Code → Code
  | 0, .seq a _ => a
  | n + 1, .seq a b => .seq a (cutA n b)
  | _, c => c
/-- The rest. -/
def cutZ : Nat → Code → Code
  | 0, .seq _ b => b
  | n + 1, .seq _ b => cutZ n b
  | _, _ => .skip
def cutOK : Nat → Code → Bool
  | 0, .seq _ _ => true
  | n + 1, .seq _ b => cutOK n b
  | _, _ => false
theorem cut_exec {E : Env} {X : Nat → Prop} {w0 : World} {base : Nat} (hE : EnvOK E X w0) : ∀ (n fuel : Nat) (c : Code) (s : St) (e : Exit) (s' : St), cutOK n c = true → base ≤ s.lh.length → (exec E fuel noLps (cutA n c) s).get = some (e, s') →
    (e = .normal → ∀ e2 s2, RunsB E.P X w0 E.G base (cutZ n c) s' e2 s2 → RunsB E.P X w0 E.G base c s e2 s2) ∧ (e ≠ .normal → RunsB E.P X w0 E.G base c s e s')
  | 0, fuel, c, s, e, s', hc, hb, h => by
    cases c with
    | seq a b =>
      have hr := exec_runs hE (noLps_ok (E := E) (n := X) (w0 := w0) (base := base) _) hb (show (exec E fuel noLps a s).get = some (e, s') from h)
      refine ⟨fun he e2 s2 h2 => ?_, fun he => hr.seq_out he⟩
      subst he
      exact hr.seq h2
    | _ => cases hc
  | n + 1, fuel, c, s, e, s', hc, hb, h => by
    cases c with
    | seq a b =>
      have h : (exec E fuel noLps (.seq a (cutA n b)) s).get = some (e, s') := h
      cases fuel with
      | zero => simp only [exec] at h; cases h
      | succ fuel =>
        simp only [exec] at h
        obtain ⟨⟨e1, s1⟩, h1, h2⟩ := M.get_bind_some h
        have hr := exec_runs hE (noLps_ok (E := E) (n := X) (w0 := w0) (base := base) _) hb h1
        simp only at h2
        split at h2
        · obtain ⟨g1, g2⟩ := cut_exec hE n fuel b s1 e s' hc hr.1.1 h2
          exact ⟨fun he e2 s2 h3 => hr.seq (g1 he e2 s2 h3), fun he => hr.seq (g2 he)⟩
        · rename_i hne
          simp only [M.get_ret, Option.some.injEq, Prod.mk.injEq] at h2
          obtain ⟨rfl, rfl⟩ := h2
          exact ⟨fun he => absurd he hne, fun he => hr.seq_out he⟩
    | _ => cases hc
theorem cut_runs {E : Env} {X : Nat → Prop} {w0 : World} {base : Nat} (hE : EnvOK E X w0) (hG : E.G ≤ base) {n fuel N : Nat} {keep : List Nat} {c : Code} {s : St} {e : Exit} {r : List Value × List Blk} (hc : cutOK n c = true) (hb : base ≤ s.lh.length) (h : (roundV E fuel noLps N keep base (cutA n c) s).get = some (e, r)) :
    (e = .normal → ∀ e2 s2, RunsB E.P X w0 E.G base (cutZ n c) (unpack N keep r.1 r.2) e2 s2 → RunsB E.P X w0 E.G base c s e2 s2) ∧ (e ≠ .normal → RunsB E.P X w0 E.G base c s e (unpack N keep r.1 r.2)) := by
  obtain ⟨⟨e1, s1⟩, h1, h2⟩ := M.get_bind_some h
  obtain ⟨q, h3, h4⟩ := M.get_bind_some h2
  simp only [M.get_ret, Option.some.injEq, Prod.mk.injEq] at h4
  obtain ⟨rfl, rfl⟩ := h4
  obtain ⟨g1, g2⟩ := cut_exec hE n fuel c s e1 s1 hc hb h1
  refine ⟨fun he e2 s2 hr => g1 he e2 s2 (RunsB.pre h3 hG ?_ hr), fun he => (g2 he).norm h3 hG⟩

  exact (exec_runs hE (noLps_ok (E := E) (n := X) (w0 := w0) (base := base) _) hb h1).1.1
/-- A body's run from a law's arguments. -/
theorem body_start {E : Env} {w : World} (hG : E.G = 0) {f : FuncId} {fn : Func} {c : Code} (hf : E.P.funcs[f]? = some fn) (hb : fn.body = some c) {args : List Value} {lh : List Blk} {e : Exit} {s' : St} {v : Value}
    (hr : RunsB E.P (· < w.heap.size) w E.G lh.length c ⟨args ++ List.replicate (fn.ntmps - args.length) undef, lh⟩ e s') (he : e = .normal ∨ e = .ret) (hres : (resultsM E.P fn s').get = some v) (hv : plain1 v = true)
    {σ : Nat → Option Pl} (hh : HR (· < w.heap.size) w 0 σ lh w) {args' : Array Value} (ha : VRA σ args.toArray args') : Calls E.P f args' w fun e w' => e = .returned v ∧ Below w.heap.size w w' := by
  have hc := (body_callsB hf hb hr he hres).2
  rw [hG] at hc
  refine (hc σ w args' hh ha).mono fun e w' hq => ?_
  obtain ⟨v', rfl, σ', _, hvr, hr'⟩ := hq
  rw [hvr.plain1_eq hv]
  exact ⟨rfl, hr'.below.below⟩
end Go.Sx
