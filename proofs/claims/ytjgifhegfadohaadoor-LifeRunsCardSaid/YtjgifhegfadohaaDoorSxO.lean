/- The symbolic run of code and of calls is the model's. No condition of its own. -/
import Derived.Test.YtjgifhegfadohaaDoorSxN
import Derived.LoopN
namespace Go.Sx
open Go Go.RowKit
set_option linter.unusedVariables false

structure EnvOK (E : Env) (n : Nat) (w0 : World) : Prop where
  eqs : EqsOK E
  mixed : E.P.follows .mixedOrders = true
  fns : ∀ e ∈ E.fns, FnOK E.P e.1 e.2
  orc : ∀ f F, E.orc f = some F → (∃ fn, FnOK E.P f fn) ∧ ∀ args lh r, (F args lh).get = some r → CallTo E.P n w0 E.G f args lh r

section
variable {n : Nat} {w0 : World} {E : Env}

theorem loadM_ptr {P : Program} {t : TypeId} {a a' v : Value} {lh : List Blk} {σ : Nat → Option Pl} (ha : VR σ a a') (h : (loadM P t a lh).get = some v) : ∃ ad, a' = .pointer (some ad) := by
  unfold loadM at h
  split at h
  · obtain ⟨p, _, rfl⟩ := ha.ptr_inv; exact ⟨_, rfl⟩
  · obtain ⟨p, _, rfl⟩ := ha.ptrRow_inv; exact ⟨_, rfl⟩
  · obtain ⟨p, _, rfl⟩ := ha.ptr_inv; exact ⟨_, rfl⟩
  · obtain ⟨p, _, rfl⟩ := ha.ptrRow_inv; exact ⟨_, rfl⟩
  · cases h
def IsRV (a : Act) (g : ResultVar → Sem Value) : Prop := (∀ t, g (.tmp t) = pure (a.tmps.getD t undef)) ∧ ∀ ad t, g (.cell ad t) = (do loadVar t (← asAddr (a.tmps.getD ad undef)))
theorem resultM_sound {P : Program} {G : Nat} {σ : Nat → Option Pl} {s : St} {a : Act} {w : World} (hrel : Rel n w0 G σ s a w) {g : ResultVar → Sem Value} (hg : IsRV a g) (rv : ResultVar) {v : Value} (h : (resultM P s rv).get = some v) :
    ∃ v', (g rv).run P w = .ok v' w ∧ VR σ v v' := by
  cases rv with
  | tmp t =>
    simp only [resultM, M.get_ret, Option.some.injEq] at h; subst h
    rw [hg.1]
    exact ⟨_, rfl, hrel.tm t⟩
  | cell ad t =>
    simp only [resultM] at h
    obtain ⟨q, hq⟩ := loadM_ptr (hrel.tm ad) h
    obtain ⟨v', h1, h2⟩ := loadM_sound hrel.hr (hrel.tm ad) h
    refine ⟨v', ?_, h2⟩
    rw [hq] at h1
    rw [hg.2, hq]
    simpa [Instr.loadAt, Instr.sureAddr, asAddr] using h1
theorem resultsL_sound {P : Program} {G : Nat} {σ : Nat → Option Pl} {s : St} {a : Act} {w : World} (hrel : Rel n w0 G σ s a w) {g : ResultVar → Sem Value} (hg : IsRV a g) : ∀ (l : List ResultVar) (vs : List Value), (resultsL P s l).get = some vs →
    ∃ vs' : List Value, (l.mapM g).run P w = .ok vs' w ∧ vs'.length = vs.length ∧ ∀ (i : Nat) (x y : Value), vs[i]? = some x → vs'[i]? = some y → VR σ x y
  | [], vs, h => by
    simp only [resultsL, M.get_ret, Option.some.injEq] at h; subst h
    exact ⟨[], rfl, rfl, fun i x y hx => by simp at hx⟩
  | r :: rs, vs, h => by
    simp only [resultsL] at h
    obtain ⟨v, hv, h⟩ := M.get_bind_some h
    obtain ⟨us, hus, h⟩ := M.get_bind_some h
    simp only [M.get_ret, Option.some.injEq] at h; subst h
    obtain ⟨v', h1, h2⟩ := resultM_sound hrel hg r hv
    obtain ⟨us', h3, h4, h5⟩ := resultsL_sound hrel hg rs us hus
    refine ⟨v' :: us', ?_, by simp [h4], fun i x y hx hy => ?_⟩
    · rw [List.mapM_cons, Sem.run_bind, h1, Result.andThen_ok, Sem.run_bind, h3]; rfl
    · cases i with
      | zero => simp at hx hy; subst hx hy; exact h2
      | succ i => exact h5 i x y (by simpa using hx) (by simpa using hy)
theorem resultsM_sound {P : Program} {G : Nat} {σ : Nat → Option Pl} {s : St} {a : Act} {w : World} (hrel : Rel n w0 G σ s a w) (fn : Func) {v : Value} (h : (resultsM P fn s).get = some v) :
    ∃ v', (results fn a.tmps).run P w = .ok v' w ∧ VR σ v v' := by
  unfold resultsM at h
  obtain ⟨vs, hvs, h⟩ := M.get_bind_some h
  have hrun : ∃ vs' : List Value, (results fn a.tmps).run P w = .ok (if h : vs'.toArray.size = 1 then vs'.toArray[0] else .tuple vs'.toArray) w ∧ vs'.length = vs.length ∧ ∀ (i : Nat) (x y : Value), vs[i]? = some x → vs'[i]? = some y → VR σ x y := by
    unfold results
    rw [Array.mapM_eq_mapM_toList]
    simp only [Sem.run_bind, Sem.run_map]
    have key : ∀ F : ResultVar → Sem Value, IsRV a F → ∃ vs' : List Value, ((((fn.results.toList.mapM F).run P w).andThen fun a w' => Result.ok a.toArray w').andThen fun a w' => (pure (if h : a.size = 1 then a[0] else Value.tuple a) : Sem Value).run P w') = .ok (if h : vs'.toArray.size = 1 then vs'.toArray[0] else .tuple vs'.toArray) w ∧ vs'.length = vs.length ∧ ∀ (i : Nat) (x y : Value), vs[i]? = some x → vs'[i]? = some y → VR σ x y := by
      intro F hF
      obtain ⟨vs', h1, h2⟩ := resultsL_sound hrel hF _ _ hvs
      exact ⟨vs', by rw [h1]; rfl, h2⟩
    exact key _ ⟨fun _ => rfl, fun _ _ => rfl⟩
  obtain ⟨vs', hrun, h2, h3⟩ := hrun
  refine ⟨_, hrun, ?_⟩
  split at h
  · rename_i u
    simp only [M.get_ret, Option.some.injEq] at h; subst h
    obtain ⟨u', rfl⟩ : ∃ u', vs' = [u'] := List.length_eq_one_iff.1 h2
    simp only [List.size_toArray, List.length_cons, List.length_nil, Nat.zero_add, dite_true]
    exact h3 0 _ _ rfl rfl
  · rename_i hne
    simp only [M.get_ret, Option.some.injEq] at h; subst h
    have hl : ¬ vs'.toArray.size = 1 := by
      simp only [List.size_toArray, h2]
      intro e
      obtain ⟨u, rfl⟩ := List.length_eq_one_iff.1 e
      exact hne u rfl
    rw [dif_neg hl]
    exact VR.tuple (by simp [h2]) fun i x y hx hy => h3 i x y (by simpa using hx) (by simpa using hy)

/-- What a run of code means. -/
def Runs (P : Program) (n : Nat) (w0 : World) (G : Nat) (c : Code) (s : St) (e : Exit) (s' : St) : Prop :=
  Keeps s.lh s'.lh ∧ ∀ σ a w, Rel n w0 G σ s a w → c.wp P (fun e' a' w' => e' = e ∧ ∃ σ', Ext s.lh.length σ σ' ∧ Rel n w0 G σ' s' a' w') a w

theorem body_calls {P : Program} {G : Nat} {f : FuncId} {fn : Func} {c : Code} (hf : P.funcs[f]? = some fn) (hb : fn.body = some c) {args : List Value} {lh : List Blk} {e : Exit} {s' : St} {v : Value}
    (hr : Runs P n w0 G c ⟨args ++ List.replicate (fn.ntmps - args.length) undef, lh⟩ e s') (he : e = .normal ∨ e = .ret) (hres : (resultsM P fn s').get = some v) : CallTo P n w0 G f args lh (v, s'.lh) := by
  refine ⟨hr.1, fun σ w args' hhr hargs => ?_⟩
  have hsz : args'.size = args.length := by have := hargs.1; simp at this; omega
  refine calls_of_wp hf hb (wp_mono (hr.2 σ { tmps := args' ++ Array.replicate (fn.ntmps - args'.size) undef, defers := [] } w ⟨by simp [hsz], fun t => ?_, rfl, hhr⟩) fun e' a' w' hq => ?_)
  rotate_left
  · obtain ⟨rfl, σ', hext, hrel⟩ := hq
    obtain ⟨v', h1, h2⟩ := resultsM_sound hrel fn hres
    have hpost : a'.defers = [] ∧ ∃ u, (results fn a'.tmps).run P w' = .ok u w' ∧ ∃ v'', Ending.returned u = .returned v'' ∧ Good n w0 G σ lh.length (v, s'.lh) v'' w' :=
      ⟨hrel.df, v', h1, v', rfl, σ', hext, h2, hrel.hr⟩
    rcases he with rfl | rfl
    · exact hpost
    · exact hpost
  · rw [List.getD_eq_getElem?_getD, Array.getD_eq_getD_getElem?, Array.getElem?_append, List.getElem?_append, hsz]
    by_cases ht : t < args.length
    · rw [if_pos ht, if_pos ht]
      have h1 : args[t]? = some args[t] := List.getElem?_eq_getElem ht
      have h2 : args'[t]? = some args'[t] := Array.getElem?_eq_getElem (by omega)
      rw [h1, h2]
      exact hargs.2 t _ _ (by simp [h1]) h2
    · rw [if_neg ht, if_neg ht]
      have : (List.replicate (fn.ntmps - args.length) undef)[t - args.length]?.getD undef = undef := by
        rw [List.getElem?_replicate]; split <;> rfl
      rw [this]; exact VR.any _

theorem callM_ok (hE : EnvOK E n w0) {ex : Code → St → M (Exit × St)} (ih : ∀ c s e s', (ex c s).get = some (e, s') → Runs E.P n w0 E.G c s e s') : CallsOK E.P n w0 E.G (callM E ex) := by
  intro f args lh r h
  unfold callM at h
  split at h
  · rename_i F hF
    obtain ⟨h1, h2⟩ := hE.orc f F hF
    exact ⟨h1, h2 args lh r h⟩
  · split at h
    · cases h
    · rename_i e he
      have hf : e.1 = f := beq_true (List.find?_some (p := fun e : FuncId × Func => Nat.beq e.1 f) he)
      have hfn := hE.fns e (List.mem_of_find?_eq_some he)
      rw [hf] at hfn
      split at h
      · cases h
      · rename_i c hb
        obtain ⟨⟨ex', s'⟩, hx, h⟩ := M.get_bind_some h
        have hrun := ih _ _ _ _ hx
        refine ⟨⟨_, hfn⟩, ?_⟩
        simp only at h
        split at h
        · obtain ⟨v, hv, h⟩ := M.get_bind_some h
          simp only [M.get_ret, Option.some.injEq] at h; subst h
          exact body_calls hfn.1 hb hrun (.inl rfl) hv
        · obtain ⟨v, hv, h⟩ := M.get_bind_some h
          simp only [M.get_ret, Option.some.injEq] at h; subst h
          exact body_calls hfn.1 hb hrun (.inr rfl) hv
        · cases h


def Post (n : Nat) (w0 : World) (G : Nat) (m : Nat) (σ : Nat → Option Pl) (e : Exit) (s' : St) : Exit → Act → World → Prop := fun e' a' w' => e' = e ∧ ∃ σ', Ext m σ σ' ∧ Rel n w0 G σ' s' a' w'
/-- What a run of a loop means. -/
def LoopRuns (P : Program) (n : Nat) (w0 : World) (G : Nat) (b : Code) (s : St) (e : Exit) (s' : St) : Prop :=
  Keeps s.lh s'.lh ∧ ∃ N, ∀ σ a w, Rel n w0 G σ s a w → Code.rounds P b (Post n w0 G s.lh.length σ e s') N a w
theorem rounds_mono {P : Program} {b : Code} {Q Q' : Exit → Act → World → Prop} (h : ∀ e a w, Q e a w → Q' e a w) : ∀ (N : Nat) (a : Act) (w : World), Code.rounds P b Q N a w → Code.rounds P b Q' N a w
  | 0, _, _, hr => hr
  | N + 1, a, w, hr => by
    rw [rounds_succ] at hr ⊢
    refine wp_mono hr fun e a' w' hq => ?_
    cases e with
    | normal => exact rounds_mono h N a' w' hq
    | _ => exact h _ _ _ hq
theorem LoopRuns.runs {P : Program} {G : Nat} {b : Code} {s : St} {e : Exit} {s' : St} (h : LoopRuns P n w0 G b s e s') : Runs P n w0 G (.loop b) s e s' := by
  obtain ⟨h1, N, h2⟩ := h
  exact ⟨h1, fun σ a w hrel => wp_loop_rounds N (h2 σ a w hrel)⟩
theorem LoopRuns.exit {P : Program} {G : Nat} {b : Code} {s : St} {e : Exit} {s' : St} (h : Runs P n w0 G b s e s') (he : e ≠ .normal) : LoopRuns P n w0 G b s e s' := by
  refine ⟨h.1, 1, fun σ a w hrel => ?_⟩
  rw [rounds_succ]
  refine wp_mono (h.2 σ a w hrel) fun e' a' w' hq => ?_
  obtain ⟨rfl, hq⟩ := hq
  cases e' with
  | normal => exact absurd rfl he
  | _ => exact ⟨rfl, hq⟩
theorem LoopRuns.step {P : Program} {G : Nat} {b : Code} {s s1 : St} {e : Exit} {s' : St} (h : Runs P n w0 G b s .normal s1) (k : LoopRuns P n w0 G b s1 e s') : LoopRuns P n w0 G b s e s' := by
  obtain ⟨k1, N, k2⟩ := k
  refine ⟨h.1.trans k1, N + 1, fun σ a w hrel => ?_⟩
  rw [rounds_succ]
  refine wp_mono (h.2 σ a w hrel) fun e' a' w' hq => ?_
  obtain ⟨rfl, σ1, hext, hrel1⟩ := hq
  exact rounds_mono (fun e a w hh => ⟨hh.1, hh.2.choose, hext.trans hh.2.choose_spec.1 h.1.1, hh.2.choose_spec.2⟩) N a' w' (k2 σ1 a' w' hrel1)

theorem Runs.seq {P : Program} {G : Nat} {x y : Code} {s s1 : St} {e : Exit} {s' : St} (h : Runs P n w0 G x s .normal s1) (k : Runs P n w0 G y s1 e s') : Runs P n w0 G (.seq x y) s e s' := by
  refine ⟨h.1.trans k.1, fun σ a w hrel => wp_seq (wp_mono (h.2 σ a w hrel) fun e' a' w' hq => ?_)⟩
  obtain ⟨rfl, σ1, hext, hrel1⟩ := hq
  exact wp_mono (k.2 σ1 a' w' hrel1) fun e a w hh => ⟨hh.1, hh.2.choose, hext.trans hh.2.choose_spec.1 h.1.1, hh.2.choose_spec.2⟩
theorem Runs.seq_out {P : Program} {G : Nat} {x y : Code} {s : St} {e : Exit} {s' : St} (h : Runs P n w0 G x s e s') (he : e ≠ .normal) : Runs P n w0 G (.seq x y) s e s' := by
  refine ⟨h.1, fun σ a w hrel => wp_seq (wp_mono (h.2 σ a w hrel) fun e' a' w' hq => ?_)⟩
  obtain ⟨rfl, hq⟩ := hq
  cases e' with
  | normal => exact absurd rfl he
  | _ => exact ⟨rfl, hq⟩

theorem exec_sound (hE : EnvOK E n w0) : ∀ (fuel : Nat) (c : Code) (s : St) (e : Exit) (s' : St), (exec E fuel c s).get = some (e, s') → Runs E.P n w0 E.G c s e s' ∧ ∀ b, c = .loop b → LoopRuns E.P n w0 E.G b s e s' := by
  intro fuel
  induction fuel with
  | zero => intro c s e s' h; cases h
  | succ fuel ih =>
    intro c s e s' h
    have ih1 : ∀ c s e s', (exec E fuel c s).get = some (e, s') → Runs E.P n w0 E.G c s e s' := fun c s e s' hh => (ih c s e s' hh).1
    have hcalls := callM_ok hE ih1
    cases c with
    | skip =>
      simp only [exec, M.get_ret, Option.some.injEq, Prod.mk.injEq] at h
      obtain ⟨rfl, rfl⟩ := h
      exact ⟨⟨Keeps.refl _, fun σ a w hrel => wp_skip ⟨rfl, σ, Ext.refl _ _, hrel⟩⟩, fun b hb => by cases hb⟩
    | region id ops draw =>
      cases draw with
      | false =>
        simp only [exec] at h
        obtain ⟨s1, h1, h2⟩ := M.get_bind_some h
        simp only [M.get_ret, Option.some.injEq, Prod.mk.injEq] at h2
        obtain ⟨rfl, rfl⟩ := h2
        obtain ⟨k1, k2⟩ := steps_sound hE.eqs rfl hcalls ops _ _ _ h1
        exact ⟨⟨k1, fun σ a w hrel => wp_region (k2 σ a w _ hrel fun σ' a' w' hext hrel' => ⟨rfl, σ', hext, hrel'⟩)⟩, fun b hb => by cases hb⟩
      | true =>
        simp only [exec] at h
        obtain ⟨s1, h1, h2⟩ := M.get_bind_some h
        simp only [M.get_ret, Option.some.injEq, Prod.mk.injEq] at h2
        obtain ⟨rfl, rfl⟩ := h2
        obtain ⟨k1, k2⟩ := drawM_sound (id := id) hE.eqs rfl hE.mixed hcalls h1
        exact ⟨⟨k1, fun σ a w hrel => k2 σ a w _ hrel fun σ' a' w' hext hrel' => ⟨rfl, σ', hext, hrel'⟩⟩, fun b hb => by cases hb⟩
    | seq x y =>
      simp only [exec] at h
      obtain ⟨⟨e1, s1⟩, h1, h2⟩ := M.get_bind_some h
      have r1 := ih1 _ _ _ _ h1
      refine ⟨?_, fun b hb => by cases hb⟩
      simp only at h2
      split at h2
      · exact r1.seq (ih1 _ _ _ _ h2)
      · rename_i hne
        simp only [M.get_ret, Option.some.injEq, Prod.mk.injEq] at h2
        obtain ⟨rfl, rfl⟩ := h2
        exact r1.seq_out fun hh => hne hh
    | cond c x y =>
      simp only [exec] at h
      refine ⟨?_, fun b hb => by cases hb⟩
      split at h
      · rename_i b hb
        rcases M.get_br_some h with ⟨rfl, h⟩ | ⟨rfl, h⟩
        · have r := ih1 _ _ _ _ h
          refine ⟨r.1, fun σ a w hrel => wp_cond_true ?_ (r.2 σ a w hrel)⟩
          have := hrel.ev c
          rw [hb] at this
          exact this.plain1_eq rfl
        · have r := ih1 _ _ _ _ h
          refine ⟨r.1, fun σ a w hrel => wp_cond_false ?_ (r.2 σ a w hrel)⟩
          have := hrel.ev c
          rw [hb] at this
          exact this.plain1_eq rfl
      · cases h
    | block id b =>
      simp only [exec] at h
      obtain ⟨⟨e1, s1⟩, h1, h2⟩ := M.get_bind_some h
      have r1 := ih1 _ _ _ _ h1
      refine ⟨?_, fun b hb => by cases hb⟩
      simp only at h2
      split at h2
      · rename_i id'
        by_cases hid : id' = id
        · subst hid
          rw [Nat.beq_refl] at h2
          simp only [cond_true, M.get_ret, Option.some.injEq, Prod.mk.injEq] at h2
          obtain ⟨rfl, rfl⟩ := h2
          refine ⟨r1.1, fun σ a w hrel => wp_block (wp_mono (r1.2 σ a w hrel) fun e' a' w' hq => ?_)⟩
          obtain ⟨rfl, hq⟩ := hq
          simp only [Exit.inBlock, if_true]
          exact ⟨trivial, hq⟩
        · have hb : Nat.beq id' id = false := by cases hx : Nat.beq id' id; rfl; exact absurd (beq_true hx) hid
          rw [hb] at h2
          simp only [cond_false, M.get_ret, Option.some.injEq, Prod.mk.injEq] at h2
          obtain ⟨rfl, rfl⟩ := h2
          refine ⟨r1.1, fun σ a w hrel => wp_block (wp_mono (r1.2 σ a w hrel) fun e' a' w' hq => ?_)⟩
          obtain ⟨rfl, hq⟩ := hq
          simp only [Exit.inBlock, hid, if_false]
          exact ⟨trivial, hq⟩
      · rename_i hne
        simp only [M.get_ret, Option.some.injEq, Prod.mk.injEq] at h2
        obtain ⟨rfl, rfl⟩ := h2
        refine ⟨r1.1, fun σ a w hrel => wp_block (wp_mono (r1.2 σ a w hrel) fun e' a' w' hq => ?_)⟩
        obtain ⟨rfl, hq⟩ := hq
        cases e' with
        | exit id' => exact absurd rfl (hne id')
        | _ => exact ⟨rfl, hq⟩
    | loop b =>
      simp only [exec] at h
      obtain ⟨⟨e1, s1⟩, h1, h2⟩ := M.get_bind_some h
      have r1 := ih1 _ _ _ _ h1
      simp only at h2
      have key : LoopRuns E.P n w0 E.G b s e s' := by
        split at h2
        · exact LoopRuns.step r1 ((ih _ _ _ _ h2).2 b rfl)
        · rename_i hne
          simp only [M.get_ret, Option.some.injEq, Prod.mk.injEq] at h2
          obtain ⟨rfl, rfl⟩ := h2
          exact LoopRuns.exit r1 fun hh => hne hh
      exact ⟨key.runs, fun b' hb' => by cases hb'; exact key⟩
    | exit id =>
      simp only [exec, M.get_ret, Option.some.injEq, Prod.mk.injEq] at h
      obtain ⟨rfl, rfl⟩ := h
      exact ⟨⟨Keeps.refl _, fun σ a w hrel => wp_exit ⟨rfl, σ, Ext.refl _ _, hrel⟩⟩, fun b hb => by cases hb⟩
    | ret =>
      simp only [exec, M.get_ret, Option.some.injEq, Prod.mk.injEq] at h
      obtain ⟨rfl, rfl⟩ := h
      exact ⟨⟨Keeps.refl _, fun σ a w hrel => wp_ret ⟨rfl, σ, Ext.refl _ _, hrel⟩⟩, fun b hb => by cases hb⟩
    | _ => simp only [exec] at h; cases h

theorem exec_runs (hE : EnvOK E n w0) {fuel : Nat} {c : Code} {s : St} {e : Exit} {s' : St} (h : (exec E fuel c s).get = some (e, s')) : Runs E.P n w0 E.G c s e s' := (exec_sound hE fuel c s e s' h).1
theorem call_ok (hE : EnvOK E n w0) (fuel : Nat) : CallsOK E.P n w0 E.G (call E fuel) := callM_ok hE fun c s e s' h => exec_runs hE h

/-- A call whose answer has no address. -/
theorem call_value (hE : EnvOK E n w0) {fuel f : Nat} {args : List Value} {lh : List Blk} {v : Value} (h : (call E fuel f args lh).run (Option Value) none (fun r => some r.1) = some v) (hv : plain1 v = true)
    {σ : Nat → Option Pl} {w : World} {args' : Array Value} (hr : HR n w0 E.G σ lh w) (ha : VRA σ args.toArray args') : Calls E.P f args' w fun e w' => e = .returned v ∧ Below n w0 w' := by
  rw [M.run_eq] at h
  cases hx : (call E fuel f args lh).get with
  | none => rw [hx] at h; cases h
  | some r =>
    rw [hx] at h
    simp only [Option.elim_some, Option.some.injEq] at h
    obtain ⟨_, _, hc⟩ := call_ok hE fuel f args lh r hx
    refine (hc σ w args' hr ha).mono fun e w' hh => ?_
    obtain ⟨v', rfl, σ', _, hvr, hr'⟩ := hh
    rw [h] at hvr
    rw [hvr.plain1_eq hv]
    exact ⟨rfl, hr'.below⟩
end
end Go.Sx
