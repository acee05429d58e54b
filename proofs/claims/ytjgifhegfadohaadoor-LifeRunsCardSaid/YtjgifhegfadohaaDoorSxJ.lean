/- One operation of the symbolic run is one operation of the model's: stores, appends, calls; guards. No condition of its own. -/
import Derived.Test.YtjgifhegfadohaaDoorSxI
namespace Go.Sx
open Go Go.RowKit
set_option linter.unusedVariables false

/-- What may not be written stays. -/
def Keeps (lh lh' : List Blk) : Prop := lh.length ≤ lh'.length ∧ ∀ k, k < lh.length → (lh.getD k .dead).wrt = false → lh'.getD k .dead = lh.getD k .dead
theorem Keeps.refl (lh : List Blk) : Keeps lh lh := ⟨Nat.le_refl _, fun _ _ _ => rfl⟩
theorem Keeps.trans {a b c : List Blk} (h : Keeps a b) (k : Keeps b c) : Keeps a c :=
  ⟨Nat.le_trans h.1 k.1, fun i hi hw => by
    have h1 := h.2 i hi hw
    have h2 := k.2 i (Nat.lt_of_lt_of_le hi h.1) (by rw [h1]; exact hw)
    rw [h2, h1]⟩
theorem Keeps.append (lh N : List Blk) : Keeps lh (lh ++ N) := ⟨by simp, fun k hk _ => by simp [List.getElem?_append_left hk]⟩
theorem Keeps.set (lh : List Blk) {k : Nat} (blk : Blk) (hw : (lh.getD k .dead).wrt = true) : Keeps lh (lh.set k blk) :=
  ⟨by simp, fun i hi hiw => by
    have e : i ≠ k := fun e => by subst e; rw [hw] at hiw; cases hiw
    exact getD_set_other _ _ e⟩

section
variable {n : Nat} {w0 : World} {G : Nat}

/-- A function of the program that is called as it stands. -/
def FnOK (P : Program) (f : FuncId) (fn : Func) : Prop := P.funcs[f]? = some fn ∧ (fn.name == "runtime.NumGoroutine") = false ∧ fn.body.isSome = true
theorem FnOK.run {P : Program} {f : FuncId} {fn : Func} (h : FnOK P f fn) (as : Array Value) (w : World) : (callFunc f as).run P w = .ok (.enter f as) w := by
  obtain ⟨h1, h2, h3⟩ := h
  have h2' : ¬ fn.name = "runtime.NumGoroutine" := by simpa using h2
  have h4' : ¬ fn.body = none := fun e => by rw [e] at h3; cases h3
  simp [callFunc, h1, h2', h4']

/-- What a call of f with these arguments comes to. -/
def CallTo (P : Program) (n : Nat) (w0 : World) (G : Nat) (f : FuncId) (args : List Value) (lh : List Blk) (r : Value × List Blk) : Prop :=
  Keeps lh r.2 ∧ ∀ σ w args', HR n w0 G σ lh w → VRA σ args.toArray args' → Calls P f args' w fun e w' => ∃ v', e = .returned v' ∧ Good n w0 G σ lh.length r v' w'
def CallsOK (P : Program) (n : Nat) (w0 : World) (G : Nat) (callF : FuncId → List Value → List Blk → M (Value × List Blk)) : Prop :=
  ∀ f args lh r, (callF f args lh).get = some r → (∃ fn, FnOK P f fn) ∧ CallTo P n w0 G f args lh r

theorem storeM_keeps {P : Program} {t : TypeId} {a x : Value} {lh lh' : List Blk} (h : (storeM P t a x lh).get = some lh') : Keeps lh lh' := by
  unfold storeM at h
  split at h
  · split at h
    · rename_i hl
      rcases M.get_br_some h with ⟨_, h⟩ | ⟨_, h⟩
      · rcases M.get_br_some h with ⟨_, h⟩ | ⟨_, h⟩
        · simp only [M.get_ret, Option.some.injEq] at h; subst h
          exact Keeps.set _ _ (by rw [hl]; rfl)
        · cases h
      · cases h
    · rename_i hl
      split at h
      · rcases M.get_br_some h with ⟨_, h⟩ | ⟨_, h⟩
        · rcases M.get_br_some h with ⟨_, h⟩ | ⟨_, h⟩
          · simp only [M.get_ret, Option.some.injEq] at h; subst h
            exact Keeps.set _ _ (by rw [hl]; rfl)
          · cases h
        · cases h
      · cases h
    · cases h
  · cases h
theorem appendInts_keeps {s : Value} {xs : List Int} {lh : List Blk} {r : Value × List Blk} (h : (appendInts s xs lh).get = some r) : Keeps lh r.2 := by
  unfold appendInts at h
  split at h
  · rcases M.get_br_some h with ⟨_, h⟩ | ⟨_, h⟩
    · simp only [M.get_ret, Option.some.injEq] at h; subst h; exact Keeps.refl _
    · rcases M.get_br_some h with ⟨_, h⟩ | ⟨_, h⟩
      · simp only [M.get_ret, Option.some.injEq] at h; subst h; exact Keeps.append _ _
      · cases h
  · rcases M.get_br_some h with ⟨_, h⟩ | ⟨_, h⟩
    · simp only [M.get_ret, Option.some.injEq] at h; subst h; exact Keeps.refl _
    · rcases M.get_br_some h with ⟨_, h⟩ | ⟨_, h⟩
      · simp only [M.get_ret, Option.some.injEq] at h; subst h; exact Keeps.append _ _
      · cases h
  · rcases M.get_br_some h with ⟨_, h⟩ | ⟨_, h⟩
    · rcases M.get_br_some h with ⟨_, h⟩ | ⟨_, h⟩
      · simp only [M.get_ret, Option.some.injEq] at h; subst h; exact Keeps.refl _
      · obtain ⟨ys, _, h⟩ := M.get_bind_some h
        rcases M.get_br_some h with ⟨_, h⟩ | ⟨_, h⟩
        · simp only [M.get_ret, Option.some.injEq] at h; subst h; exact Keeps.append _ _
        · cases h
    · cases h
  · split at h
    · rename_i hl
      rcases M.get_br_some h with ⟨_, h⟩ | ⟨_, h⟩
      · rcases M.get_br_some h with ⟨_, h⟩ | ⟨_, h⟩
        · simp only [M.get_ret, Option.some.injEq] at h; subst h; exact Keeps.refl _
        · rcases M.get_br_some h with ⟨_, h⟩ | ⟨_, h⟩
          · simp only [M.get_ret, Option.some.injEq] at h; subst h
            exact (Keeps.set _ _ (by rw [hl]; rfl)).trans (Keeps.append _ _)
          · cases h
      · cases h
    · cases h
  · cases h
theorem appendM_keeps {P : Program} {t u : TypeId} {s x : Value} {lh : List Blk} {r : Value × List Blk} (h : (appendM P t u s x lh).get = some r) : Keeps lh r.2 := by
  unfold appendM at h
  split at h
  · split at h
    · rcases M.get_br_some h with ⟨_, h⟩ | ⟨_, h⟩
      · obtain ⟨ys, _, h⟩ := M.get_bind_some h
        exact appendInts_keeps h
      · cases h
    · cases h
  · cases h
theorem appendM_sound {P : Program} {σ : Nat → Option Pl} {lh : List Blk} {w : World} (hr : HR n w0 G σ lh w) {t u ty : TypeId} {s s' x x' : Value} {r : Value × List Blk} (hs : VR σ s s') (hx : VR σ x x') (h : (appendM P t u s x lh).get = some r) :
    ∃ v' w', (Builtin.append_ #[t, u] ty #[s', x']).run P w = .ok v' w' ∧ Good n w0 G σ lh.length r v' w' := by
  unfold appendM at h
  split at h
  · rename_i e e2 ht hu
    split at h
    · rename_i i hi hk hz
      rcases M.get_br_some h with ⟨hb, h⟩ | ⟨_, h⟩
      · obtain ⟨ys, hy, h⟩ := M.get_bind_some h
        simp only [Bool.and_eq_true] at hb
        exact appendInts_sound hr ht hu hi hz (beq_true hb.1) (beq_true hb.2) hs (srcInts_sound hr hx hy) h
      · cases h
    · cases h
  · cases h

theorem loudM_keeps {E : Env} {callF : FuncId → List Value → List Blk → M (Value × List Blk)} (hc : CallsOK E.P n w0 G callF) {ev : Operand → Value} {lh : List Blk} {op : Op} {r : Value × List Blk} (h : (loudM E callF ev lh op).get = some r) : Keeps lh r.2 := by
  unfold loudM at h
  split at h
  · obtain ⟨l, hl, h⟩ := M.get_bind_some h
    simp only [M.get_ret, Option.some.injEq] at h; subst h
    exact storeM_keeps hl
  · split at h
    · split at h
      · exact (hc _ _ _ _ h).2.1
      · cases h
    · split at h
      · exact appendM_keeps h
      · cases h
    · cases h
  · cases h

theorem loudM_sound {E : Env} {callF : FuncId → List Value → List Blk → M (Value × List Blk)} (hc : CallsOK E.P n w0 G callF) {σ : Nat → Option Pl} {lh : List Blk} {w : World} (hr : HR n w0 G σ lh w) {ev : Operand → Value} {a : Act} {o : Oper}
    (hop : ∀ x ∈ o.op.operands, VR σ (ev x) (a.eval x)) {r : Value × List Blk} (h : (loudM E callF ev lh o.op).get = some r) {next : Act → World → Prop} {Q : Exit → Act → World → Prop}
    (hn : ∀ v' w', Good n w0 G σ lh.length r v' w' → next (a.put o.dst v') w') : o.wp E.P a w next Q := by
  obtain ⟨dst, op, ty, pos, after, guard⟩ := o
  simp only at h hop hn
  unfold loudM at h
  split at h
  · rename_i t x y
    obtain ⟨l, hl, h⟩ := M.get_bind_some h
    simp only [M.get_ret, Option.some.injEq] at h; subst h
    obtain ⟨w', h1, h2⟩ := storeM_sound hr (hop x (by simp [Op.operands])) (hop y (by simp [Op.operands])) hl
    unfold Oper.wp
    simp only [execOp, Sem.run_bind, h1, Result.andThen_ok, Sem.run_pure, Oper.upon_skip]
    exact hn _ _ ⟨σ, Ext.refl _ _, VR.any _, h2⟩
  · rename_i c
    obtain ⟨callee, args, ats⟩ := c
    simp only at h
    split at h
    · rename_i f
      split at h
      · rename_i g fa cp hf
        obtain ⟨⟨fn, hfn⟩, _, hcall⟩ := hc _ _ _ _ h
        have hfv := hop f (by simp [Op.operands, Call.operands])
        rw [hf] at hfv
        obtain ⟨fa', cp', hev, ha, hcp⟩ : ∃ fa' cp', a.eval f = .func (.func g) fa' cp' ∧ VRA σ fa fa' ∧ VRA σ cp cp' := by
          cases he : a.eval f <;> rw [he] at hfv <;> cases hfv
          rename_i a1 a2 a3 a4 a5 a6
          exact ⟨_, _, rfl, ⟨a3, a4⟩, ⟨a5, a6⟩⟩
        have hargs := VRA.map (σ := σ) ev a.eval args fun x hx => hop x (by simp [Op.operands, Call.operands, hx])
        have hall : VRA σ (fa.toList ++ args.toList.map ev ++ cp.toList).toArray (fa' ++ args.map a.eval ++ cp') := by
          have := (ha.append hargs).append hcp
          have e : (fa.toList ++ args.toList.map ev ++ cp.toList).toArray = fa ++ args.map ev ++ cp := by
            apply Array.toList_inj.1; simp
          rw [e]; exact this
        have := hcall σ w _ hr hall
        unfold Oper.wp
        simp only [execOp, resolve, hev, Deferred.ofValue, Sem.run_bind, Sem.run_pure, Result.andThen_ok, invoke, hfn.run, Oper.upon_enter]
        refine this.mono fun e w' hh => ?_
        obtain ⟨v', rfl, hg⟩ := hh
        exact hn _ _ hg
      · cases h
    · split at h
      · rename_i hargs hats
        obtain rfl : args = #[_, _] := Array.toList_inj.1 hargs
        obtain rfl : ats = #[_, _] := Array.toList_inj.1 hats
        obtain ⟨v', w', h1, h2⟩ := appendM_sound (ty := ty) hr (hop _ (by simp [Op.operands, Call.operands])) (hop _ (by simp [Op.operands, Call.operands])) h
        unfold Oper.wp
        simp only [execOp, resolve, invoke, builtin, Sem.run_bind, Sem.run_pure, Result.andThen_ok, List.map_toArray, List.map_cons, List.map_nil, h1, Oper.upon_value]
        exact hn _ _ h2
      · cases h
    · cases h
  · cases h

theorem opM_keeps {E : Env} {callF : FuncId → List Value → List Blk → M (Value × List Blk)} (hc : CallsOK E.P n w0 G callF) {ev : Operand → Value} {lh : List Blk} {op : Op} {r : Value × List Blk} (h : (opM E callF ev lh op).get = some r) : Keeps lh r.2 := by
  unfold opM at h
  split at h
  · obtain ⟨v, _, h⟩ := M.get_bind_some h
    simp only [M.get_ret, Option.some.injEq] at h; subst h
    exact Keeps.refl _
  · obtain ⟨v, _, h⟩ := M.get_bind_some h
    simp only [M.get_ret, Option.some.injEq] at h; subst h
    exact Keeps.append _ _
  · exact loudM_keeps hc h
theorem opM_sound {E : Env} (hE : EqsOK E) {callF : FuncId → List Value → List Blk → M (Value × List Blk)} (hc : CallsOK E.P n w0 G callF) {σ : Nat → Option Pl} {lh : List Blk} {w : World} (hr : HR n w0 G σ lh w) {ev : Operand → Value} {a : Act} {o : Oper}
    (hop : ∀ x ∈ o.op.operands, VR σ (ev x) (a.eval x)) {r : Value × List Blk} (h : (opM E callF ev lh o.op).get = some r) {next : Act → World → Prop} {Q : Exit → Act → World → Prop}
    (hn : ∀ v' w', Good n w0 G σ lh.length r v' w' → next (a.put o.dst v') w') : o.wp E.P a w next Q := by
  unfold opM at h
  split at h
  · obtain ⟨v, hv, h⟩ := M.get_bind_some h
    simp only [M.get_ret, Option.some.injEq] at h; subst h
    obtain ⟨v', h1, h2⟩ := valM_sound hE hr hop hv
    unfold Oper.wp
    rw [h1, Oper.upon_value]
    exact hn _ _ ⟨σ, Ext.refl _ _, h2, hr⟩
  · obtain ⟨q, hq, h⟩ := M.get_bind_some h
    simp only [M.get_ret, Option.some.injEq] at h; subst h
    obtain ⟨v', ob, h1, h2⟩ := newM_sound hr.size hop hq
    unfold Oper.wp
    rw [h1, Oper.upon_value]
    exact hn _ _ (h2.good hr)
  · exact loudM_sound hc hr hop h hn

/-! ### States -/
structure Rel (n : Nat) (w0 : World) (G : Nat) (σ : Nat → Option Pl) (s : St) (a : Act) (w : World) : Prop where
  sz : a.tmps.size = s.tmps.length
  tm : ∀ t, VR σ (s.tmps.getD t undef) (a.tmps.getD t undef)
  df : a.defers = []
  hr : HR n w0 G σ s.lh w

theorem getD_putL (tm : List Value) (dst : Option Tmp) (v : Value) (t : Nat) : (putL tm dst v).getD t undef = if dst = some t ∧ t < tm.length then v else tm.getD t undef := by
  cases dst with
  | none => simp [putL]
  | some d =>
    simp only [putL, List.getD_eq_getElem?_getD, List.getElem?_set]
    by_cases e : d = t
    · subst e
      by_cases hl : d < tm.length
      · simp [hl]
      · simp [hl]
    · simp [e]
theorem getD_put (a : Act) (dst : Option Tmp) (v : Value) (t : Nat) : (a.put dst v).tmps.getD t undef = if dst = some t ∧ t < a.tmps.size then v else a.tmps.getD t undef := by
  cases dst with
  | none => simp [Act.put]
  | some d =>
    simp only [Act.put, Array.getD_eq_getD_getElem?, Array.getElem?_setIfInBounds]
    by_cases e : d = t
    · subst e
      by_cases hl : d < a.tmps.size
      · simp [hl]
      · simp [hl]
    · simp [e]
theorem putL_length (tm : List Value) (dst : Option Tmp) (v : Value) : (putL tm dst v).length = tm.length := by cases dst <;> simp [putL]
theorem put_size (a : Act) (dst : Option Tmp) (v : Value) : (a.put dst v).tmps.size = a.tmps.size := by cases dst <;> simp [Act.put]
theorem put_defers (a : Act) (dst : Option Tmp) (v : Value) : (a.put dst v).defers = a.defers := by cases dst <;> rfl

theorem Rel.put {σ σ' : Nat → Option Pl} {s : St} {a : Act} {w w' : World} (h : Rel n w0 G σ s a w) (hs : Le σ σ') (dst : Option Tmp) {v v' : Value} (hv : VR σ' v v') {lh' : List Blk} (hr : HR n w0 G σ' lh' w') :
    Rel n w0 G σ' ⟨putL s.tmps dst v, lh'⟩ (a.put dst v') w' := by
  refine ⟨by rw [put_size, putL_length]; exact h.sz, fun t => ?_, by rw [put_defers]; exact h.df, hr⟩
  rw [getD_putL, getD_put, h.sz]
  split
  · exact hv
  · exact (h.tm t).mono hs
theorem Rel.ev {σ : Nat → Option Pl} {s : St} {a : Act} {w : World} (h : Rel n w0 G σ s a w) (x : Operand) : VR σ (evx G s.tmps x) (a.eval x) := by
  cases x with
  | tmp t => exact h.tm t
  | const v =>
    simp only [evx, Act.eval]
    cases hp : plain v with
    | true => exact VR.plain σ hp
    | false => exact VR.any _
  | global g =>
    simp only [evx, Act.eval]
    cases hb : Nat.blt g G with
    | true =>
      obtain ⟨p, h1, h2, h3⟩ := h.hr.glob g (blt_true hb)
      have := VR.ptr (off := 0) h1
      rw [h2, h3] at this
      exact this
    | false => exact VR.any _
  | func f => exact VR.func f rfl rfl (fun i x y hx => by simp at hx) fun i x y hx => by simp at hx

theorem Rel.bool_at {σ : Nat → Option Pl} {s : St} {a : Act} {w : World} (h : Rel n w0 G σ s a w) {t : Nat} {b : Bool} (hb : s.tmps.getD t undef = .bool b) : a.tmps[t]? = some (.bool b) := by
  have := h.tm t
  rw [hb] at this
  have e := this.plain1_eq rfl
  rw [Array.getD_eq_getD_getElem?] at e
  cases hx : a.tmps[t]? with
  | none => rw [hx] at e; simp [undef] at e
  | some v => rw [hx] at e; simp at e; rw [e]
theorem set_same (tm : List Value) {t : Nat} {v : Value} (h : tm.getD t undef = v) (hv : v ≠ undef) : tm.set t v = tm := by
  have hl : t < tm.length := by
    rcases Nat.lt_or_ge t tm.length with h1 | h1
    · exact h1
    · exact absurd (by rw [← h]; simp [List.getElem?_eq_none h1]) hv
  have : tm[t] = v := by simpa [hl] using h
  rw [← this]
  exact List.set_getElem_self hl

/-- Behind a guard that didn't run nothing runs. -/
theorem wanted_skip {σ : Nat → Option Pl} {ops : Array Oper} {o : Oper} {j : Nat} {want : Bool} {t : Tmp} {tm : Array Value} {x : Option Nat} (hg : o.guard = some (j, want)) (ht : (ops[j]?).bind (·.dst) = some t) (hv : VR σ (.chan x) (tm.getD t undef)) : Region.wanted o (yielded ops tm) = false := by
  have e : tm.getD t undef = undef := by
    generalize tm.getD t undef = v at hv
    cases hv with
    | skip => rfl
  simp only [Region.wanted, hg, yielded, ht, Option.bind_some]
  cases hx : tm[t]? with
  | none => rfl
  | some v =>
    rw [Array.getD_eq_getD_getElem?, hx] at e
    simp at e
    subst e
    rfl
/-- Behind a guard: what is wanted runs, what isn't doesn't. -/
theorem guardM_some {α : Type} {ops : Array Oper} {o : Oper} {s : St} {yes no : St → M α} {x : α} (h : (guardM ops o s yes no).get = some x) :
    ∃ g : Bool, (g = true → (yes s).get = some x) ∧ (g = false → (no s).get = some x) ∧ (∀ σ a w, Rel n w0 G σ s a w → Region.wanted o (yielded ops a.tmps) = g) ∧
      (o.guard = none ∧ g = true ∨ (∃ j want t b, o.guard = some (j, want) ∧ (ops[j]?).bind (·.dst) = some t ∧ s.tmps.getD t undef = .bool b ∧ g = (b == want)) ∨ ∃ j want t x, o.guard = some (j, want) ∧ (ops[j]?).bind (·.dst) = some t ∧ s.tmps.getD t undef = .chan x ∧ g = false) := by
  unfold guardM at h
  split at h
  · rename_i hg
    exact ⟨true, fun _ => h, fun e => (by cases e), fun _ _ _ _ => (by simp [Region.wanted, hg]), .inl ⟨hg, rfl⟩⟩
  · rename_i j want hg
    split at h
    · cases h
    · rename_i t ht
      split at h
      · rename_i b hb
        have hw : ∀ σ a w, Rel n w0 G σ s a w → Region.wanted o (yielded ops a.tmps) = (b == want) := by
          intro σ a w hrel
          simp only [Region.wanted, hg, yielded, ht, Option.bind_some, hrel.bool_at hb]
          cases b <;> cases want <;> rfl
        have hset : ∀ c, b = c → (⟨s.tmps.set t (.bool c), s.lh⟩ : St) = s := by
          rintro c rfl
          rw [set_same _ hb (by simp [undef])]
        rcases M.get_br_some h with ⟨rfl, h⟩ | ⟨rfl, h⟩
        · rw [hset true rfl] at h
          refine ⟨_, ?_, ?_, hw, .inr (.inl ⟨j, want, t, true, hg, ht, hb, rfl⟩)⟩
          · intro e; cases want <;> first | exact h | cases e
          · intro e; cases want <;> first | exact h | cases e
        · rw [hset false rfl] at h
          refine ⟨_, ?_, ?_, hw, .inr (.inl ⟨j, want, t, false, hg, ht, hb, rfl⟩)⟩
          · intro e; cases want <;> first | exact h | cases e
          · intro e; cases want <;> first | exact h | cases e
      · rename_i x hb
        refine ⟨false, fun e => (by cases e), fun _ => h, fun σ a w hrel => ?_, .inr (.inr ⟨j, want, t, x, hg, ht, hb, rfl⟩)⟩
        have hv := hrel.tm t
        rw [hb] at hv
        exact wanted_skip hg ht hv
      · cases h

/-- The operations of a region whose order is that of the text. -/
theorem steps_sound {E : Env} (hE : EqsOK E) (hG : E.G = G) {callF : FuncId → List Value → List Blk → M (Value × List Blk)} (hc : CallsOK E.P n w0 G callF) (ops : Array Oper) : ∀ (l : List Nat) (s s' : St), (stepsM (stepOp E callF ops) l s).get = some s' →
    Keeps s.lh s'.lh ∧ ∀ σ a w (Q : Exit → Act → World → Prop), Rel n w0 G σ s a w → (∀ σ' a' w', Ext s.lh.length σ σ' → Rel n w0 G σ' s' a' w' → Q .normal a' w') → wpOps E.P ops Q l a w
  | [], s, s', h => by
    simp only [stepsM, M.get_ret, Option.some.injEq] at h; subst h
    exact ⟨Keeps.refl _, fun σ a w Q hrel hq => hq σ a w (Ext.refl _ _) hrel⟩
  | i :: r, s, s', h => by
    obtain ⟨s1, h1, h2⟩ := M.get_bind_some h
    obtain ⟨ik, ih⟩ := steps_sound hE hG hc ops r s1 s' h2
    unfold stepOp at h1
    split at h1
    · rename_i ho
      simp only [M.get_ret, Option.some.injEq] at h1; subst h1
      refine ⟨ik, fun σ a w Q hrel hq => ?_⟩
      simp only [wpOps, ho]
      exact ih σ a w Q hrel hq
    · rename_i o ho
      obtain ⟨g, hy, hno, hw, _⟩ := guardM_some (n := n) (w0 := w0) (G := G) h1
      cases g with
      | true =>
        obtain ⟨q, hq, hs1⟩ := M.get_bind_some (hy rfl)
        simp only [M.get_ret, Option.some.injEq] at hs1; subst hs1
        refine ⟨(opM_keeps hc hq).trans ik, fun σ a w Q hrel hfin => ?_⟩
        simp only [wpOps, ho, hw σ a w hrel, if_true]
        refine .inl (opM_sound hE hc hrel.hr (fun x _ => by rw [hG]; exact hrel.ev x) hq fun v' w' hgood => ?_)
        obtain ⟨σ', hle, hv, hr⟩ := hgood
        exact ih σ' _ w' Q (hrel.put hle.1 o.dst hv hr) fun σ'' a' w'' hle' hrel' => hfin σ'' a' w'' (hle.trans hle' (opM_keeps hc hq).1) hrel'
      | false =>
        have h3 := hno rfl
        simp only [skipOp, M.get_ret, Option.some.injEq] at h3; subst h3
        refine ⟨ik, fun σ a w Q hrel hfin => ?_⟩
        simp only [wpOps, ho, hw σ a w hrel, Bool.false_eq_true, if_false]
        exact ih σ _ w Q (hrel.put (Le.refl _) o.dst VR.skip hrel.hr) hfin
end
end Go.Sx
