/- A region that draws its order: whatever the order, it leaves what the symbolic run leaves. No condition of its own. -/
import Derived.Test.YtjgifhegfadohaaDoorSxK
namespace Go.Sx
open Go Go.RowKit
set_option linter.unusedVariables false

/-- One operation of the run along the order. k: 0, it turned nothing; 1: it made a block; 2: else; 3: it wasn't wanted. -/
structure Step where
  i : Nat
  k : Nat
  s : St
  v : Value
  lh' : List Blk
  U : List Nat
  ids : List Nat

abbrev CallF := FuncId → List Value → List Blk → M (Value × List Blk)
def GuardIs (ops : Array Oper) (o : Oper) (s : St) (g : Bool) : Prop :=
  o.guard = none ∧ g = true ∨ (∃ j want t b, o.guard = some (j, want) ∧ (ops[j]?).bind (·.dst) = some t ∧ s.tmps.getD t undef = .bool b ∧ g = (b == want)) ∨ ∃ j want t x, o.guard = some (j, want) ∧ (ops[j]?).bind (·.dst) = some t ∧ s.tmps.getD t undef = .chan x ∧ g = false
def StepOK (E : Env) (callF : CallF) (ops : Array Oper) (t : Step) : Prop :=
  ∃ o, ops[t.i]? = some o ∧ ∃ g, GuardIs ops o t.s g ∧
    ((g = false ∧ t.k = 3 ∧ t.v = .chan (some 0) ∧ t.lh' = t.s.lh) ∨
     (g = true ∧ t.k = 0 ∧ t.ids = readsOf (evx E.G t.s.tmps) o.op ∧ (∀ k ∈ t.ids, k < t.s.lh.length) ∧ (valM E (evx E.G t.s.tmps) t.s.lh o.op).get = some t.v ∧ t.lh' = t.s.lh) ∨
     (g = true ∧ t.k = 1 ∧ t.ids = [t.s.lh.length] ∧ ∃ q, (newM E (evx E.G t.s.tmps) o.op).get = some q ∧ t.v = q.1 t.s.lh.length ∧ t.lh' = t.s.lh ++ [q.2]) ∨
     (g = true ∧ t.k = 2 ∧ kindOf o.op = 2 ∧ ∃ q, (loudM E callF (evx E.G t.s.tmps) (protL t.U t.s.lh) o.op).get = some q ∧ t.v = q.1 ∧ t.lh' = unprotL t.U t.s.lh q.2))
def dstOf (ops : Array Oper) (t : Step) : Option Tmp := (ops[t.i]?).bind (·.dst)
def nxt (ops : Array Oper) (t : Step) : St := ⟨putL t.s.tmps (dstOf ops t) t.v, t.lh'⟩
def chain (ops : Array Oper) : St → List Step → St → Prop
  | s, [], sf => s = sf
  | s, t :: T, sf => t.s = s ∧ chain ops (nxt ops t) T sf
/-- What an earlier quiet operation hangs on is kept by a loud one that doesn't wait for it. -/
def Cov (anc : List Nat) (p r : Step) : Prop := p.k < 2 → r.k = 2 → Nat.testBit (anc.getD r.i 0) p.i = false → ∀ k ∈ p.ids, k ∈ r.U

theorem kind_two {op : Op} (h0 : kindOf op ≠ 0) (h1 : kindOf op ≠ 1) : kindOf op = 2 := by
  unfold kindOf at *
  split at h0 <;> first | rfl | exact absurd rfl h1 | exact absurd rfl h0 | (split at h0 <;> first | rfl | exact absurd rfl h0)

theorem guardM_is {α : Type} {ops : Array Oper} {o : Oper} {s : St} {yes no : St → M α} {x : α} (h : (guardM ops o s yes no).get = some x) :
    ∃ g : Bool, (g = true → (yes s).get = some x) ∧ (g = false → (no s).get = some x) ∧ GuardIs ops o s g := by
  obtain ⟨g, h1, h2, _, h4⟩ := guardM_some (n := 0) (w0 := default) (G := 0) h
  exact ⟨g, h1, h2, h4⟩

def StepIn (t : Step) : Prop := Keeps t.s.lh t.lh' ∧ (t.k = 2 → ∀ k ∈ t.U, k < t.s.lh.length)
theorem trace_of {n : Nat} {w0 : World} {G : Nat} {E : Env} {callF : CallF} (hc : CallsOK E.P n w0 G callF) {ops : Array Oper} {anc : List Nat} : ∀ (l : List Nat) (pr : List (Nat × List Nat)) (s sf : St), (∀ e ∈ pr, ∀ k ∈ e.2, k < s.lh.length) → (drawGo E callF ops anc l pr s).get = some sf →
    ∃ T : List Step, T.map (·.i) = l ∧ chain ops s T sf ∧ (∀ t ∈ T, StepOK E callF ops t) ∧ T.Pairwise (Cov anc) ∧
      (∀ e ∈ pr, ∀ t ∈ T, t.k = 2 → Nat.testBit (anc.getD t.i 0) e.1 = false → ∀ k ∈ e.2, k ∈ t.U) ∧ ∀ t ∈ T, StepIn t
  | [], pr, s, sf, hpr, h => by
    simp only [drawGo, M.get_ret, Option.some.injEq] at h
    exact ⟨[], rfl, h, by simp, List.Pairwise.nil, by simp, by simp⟩
  | i :: l, pr, s, sf, hpr, h => by
    simp only [drawGo] at h
    split at h
    · cases h
    · rename_i o ho
      obtain ⟨g, hy, hn, hg⟩ := guardM_is h
      have hd : ∀ (k : Nat) (v : Value) (lh' : List Blk) (U ids : List Nat), nxt ops ⟨i, k, s, v, lh', U, ids⟩ = ⟨putL s.tmps o.dst v, lh'⟩ := fun k v lh' U ids => by
        simp only [nxt, dstOf, ho, Option.bind_some]
      cases g with
      | false =>
        obtain ⟨T, h1, h2, h3, h4, h5, h6⟩ := trace_of hc l pr ⟨putL s.tmps o.dst (.chan (some 0)), s.lh⟩ sf hpr (hn rfl)
        refine ⟨⟨i, 3, s, .chan (some 0), s.lh, [], []⟩ :: T, by simp [h1], ⟨rfl, by rw [hd]; exact h2⟩, ?_, List.Pairwise.cons (fun r _ hk => absurd hk (by show ¬ 3 < 2; omega)) h4, ?_, List.forall_mem_cons.2 ⟨⟨Keeps.refl _, fun hk => by cases hk⟩, h6⟩⟩
        · intro t ht
          rcases List.mem_cons.1 ht with rfl | ht
          · exact ⟨o, ho, false, hg, .inl ⟨rfl, rfl, rfl, rfl⟩⟩
          · exact h3 t ht
        · intro e he t ht
          rcases List.mem_cons.1 ht with rfl | ht
          · intro hk; cases hk
          · exact h5 e he t ht
      | true =>
        have hb := hy rfl
        split at hb
        · rename_i hk
          rcases M.get_br_some hb with ⟨hr, hb⟩ | ⟨_, hb⟩
          · obtain ⟨v, hv, hb⟩ := M.get_bind_some hb
            have hrr : ∀ k ∈ readsOf (evx E.G s.tmps) o.op, k < s.lh.length := fun k hk => by
              rw [List.all_eq_true] at hr
              exact blt_true (hr k hk)
            obtain ⟨T, h1, h2, h3, h4, h5, h6⟩ := trace_of hc l ((i, readsOf (evx E.G s.tmps) o.op) :: pr) ⟨putL s.tmps o.dst v, s.lh⟩ sf (List.forall_mem_cons.2 ⟨hrr, hpr⟩) hb
            refine ⟨⟨i, 0, s, v, s.lh, [], readsOf (evx E.G s.tmps) o.op⟩ :: T, by simp [h1], ⟨rfl, by rw [hd]; exact h2⟩, ?_, List.Pairwise.cons (fun r hr _ hk ha => h5 _ List.mem_cons_self r hr hk ha) h4, ?_, List.forall_mem_cons.2 ⟨⟨Keeps.refl _, fun hk => by cases hk⟩, h6⟩⟩
            · intro t ht
              rcases List.mem_cons.1 ht with rfl | ht
              · refine ⟨o, ho, true, hg, .inr (.inl ⟨rfl, rfl, rfl, hrr, hv, rfl⟩)⟩
              · exact h3 t ht
            · intro e he t ht
              rcases List.mem_cons.1 ht with rfl | ht
              · intro hk; cases hk
              · exact h5 e (List.mem_cons_of_mem _ he) t ht
          · cases hb
        · rename_i hk
          obtain ⟨q, hq, hb⟩ := M.get_bind_some hb
          obtain ⟨T, h1, h2, h3, h4, h5, h6⟩ := trace_of hc l _ _ sf (List.forall_mem_cons.2 ⟨fun k hk => by simp at hk; simp; omega, fun e he k hk => by have := hpr e he k hk; simp; omega⟩) hb
          refine ⟨⟨i, 1, s, q.1 s.lh.length, s.lh ++ [q.2], [], [s.lh.length]⟩ :: T, by simp [h1], ⟨rfl, by rw [hd]; exact h2⟩, ?_, List.Pairwise.cons (fun r hr _ hk ha => h5 _ List.mem_cons_self r hr hk ha) h4, ?_, List.forall_mem_cons.2 ⟨⟨Keeps.append _ _, fun hk => by cases hk⟩, h6⟩⟩
          · intro t ht
            rcases List.mem_cons.1 ht with rfl | ht
            · exact ⟨o, ho, true, hg, .inr (.inr (.inl ⟨rfl, rfl, rfl, q, hq, rfl, rfl⟩))⟩
            · exact h3 t ht
          · intro e he t ht
            rcases List.mem_cons.1 ht with rfl | ht
            · intro hk; cases hk
            · exact h5 e (List.mem_cons_of_mem _ he) t ht
        · rename_i hk0 hk1
          obtain ⟨q, hq, hb⟩ := M.get_bind_some hb
          have hkp := keeps_unprot (loudM_keeps hc hq)
          obtain ⟨T, h1, h2, h3, h4, h5, h6⟩ := trace_of hc l _ _ sf (fun e he k hk => Nat.lt_of_lt_of_le (hpr e he k hk) hkp.1) hb
          refine ⟨⟨i, 2, s, q.1, unprotL (pr.flatMap fun e => cond (Nat.testBit (anc.getD i 0) e.1) [] e.2) s.lh q.2, pr.flatMap fun e => cond (Nat.testBit (anc.getD i 0) e.1) [] e.2, []⟩ :: T, by simp [h1], ⟨rfl, by rw [hd]; exact h2⟩, ?_, List.Pairwise.cons (fun r hr hk => absurd hk (by show ¬ 2 < 2; omega)) h4, ?_, List.forall_mem_cons.2 ⟨⟨hkp, fun _ k hk => ?_⟩, h6⟩⟩
          · intro t ht
            rcases List.mem_cons.1 ht with rfl | ht
            · exact ⟨o, ho, true, hg, .inr (.inr (.inr ⟨rfl, rfl, kind_two hk0 hk1, q, hq, rfl, rfl⟩))⟩
            · exact h3 t ht
          · intro e he t ht
            rcases List.mem_cons.1 ht with rfl | ht
            · intro _ ha k hk
              refine List.mem_flatMap.2 ⟨e, he, ?_⟩
              simp only at ha
              rw [ha]; exact hk
            · exact h5 e he t ht
          · obtain ⟨e, he, hke⟩ := List.mem_flatMap.1 hk
            refine hpr e he k ?_
            cases hx : Nat.testBit (anc.getD i 0) e.1 <;> rw [hx] at hke
            · exact hke
            · cases hke

/-! ### The places of the run -/
def stateAt (T : List Step) (sf : St) (q : Nat) : St := match T[q]? with | some t => t.s | none => sf
theorem stateAt_of {T : List Step} {sf : St} {q : Nat} {t : Step} (h : T[q]? = some t) : stateAt T sf q = t.s := by simp [stateAt, h]
theorem chain_at {ops : Array Oper} : ∀ {T : List Step} {s sf : St}, chain ops s T sf → stateAt T sf 0 = s ∧ ∀ q t, T[q]? = some t → stateAt T sf (q + 1) = nxt ops t
  | [], s, sf, h => ⟨h.symm, fun q t hq => by simp at hq⟩
  | u :: T, s, sf, h => by
    obtain ⟨h1, h2⟩ := chain_at h.2
    refine ⟨h.1, fun q t hq => ?_⟩
    cases q with
    | zero =>
      simp at hq; subst hq
      rw [← h1]
      simp [stateAt]
    | succ q =>
      have := h2 q t (by simpa using hq)
      rw [← this]
      simp [stateAt]
theorem stateAt_end {T : List Step} {sf : St} : stateAt T sf T.length = sf := by simp [stateAt]

section
variable {E : Env} {callF : CallF} {ops : Array Oper} {T : List Step} {s0 sf : St}

structure Tr (E : Env) (callF : CallF) (ops : Array Oper) (T : List Step) (s0 sf : St) : Prop where
  ch : chain ops s0 T sf
  ok : ∀ t ∈ T, StepOK E callF ops t
  cov : T.Pairwise (Cov (ancs ops.toList))
  kk : ∀ t ∈ T, Keeps t.s.lh t.lh'
  ub : ∀ t ∈ T, t.k = 2 → ∀ k ∈ t.U, k < t.s.lh.length
  lt : ∀ t ∈ T, t.i < ops.size
  mem : ∀ i, i < ops.size → ∃ (q : Nat) (t : Step), T[q]? = some t ∧ t.i = i
  inj : ∀ (p q : Nat) (t u : Step), T[p]? = some t → T[q]? = some u → t.i = u.i → p = q
  before : ∀ (q : Nat) (t : Step) (j : Nat), T[q]? = some t → Nat.testBit ((ancs ops.toList).getD t.i 0) j = true → ∃ (p : Nat) (u : Step), p < q ∧ T[p]? = some u ∧ u.i = j
  loud : ∀ (p q : Nat) (t u : Step), p < q → T[p]? = some t → T[q]? = some u → t.k = 2 → Nat.testBit ((ancs ops.toList).getD u.i 0) t.i = true
  tmps : ∀ (p q : Nat) (t u : Step) (o : Oper) (tt : Nat), T[p]? = some t → T[q]? = some u → ops[u.i]? = some o → tt ∈ named ops o → dstOf ops t = some tt → p ≠ q → ordered (ancs ops.toList) u.i t.i = true

theorem mem_of_at {q : Nat} {t : Step} (h : T[q]? = some t) : t ∈ T := List.mem_of_getElem? h

theorem Tr.len_mono (h : Tr E callF ops T s0 sf) : ∀ {p q : Nat}, p ≤ q → q ≤ T.length → (stateAt T sf p).lh.length ≤ (stateAt T sf q).lh.length := by
  intro p q hpq
  induction q with
  | zero => intro _; obtain rfl : p = 0 := by omega
            exact Nat.le_refl _
  | succ q ih =>
    intro hq
    rcases Nat.lt_or_ge p (q + 1) with hlt | hge
    · have hT : T[q]? = some T[q] := List.getElem?_eq_getElem (by omega)
      have h1 := ih (by omega) (by omega)
      rw [(chain_at h.ch).2 q _ hT]
      rw [stateAt_of hT] at h1
      have := (h.kk _ (mem_of_at hT)).1
      exact Nat.le_trans h1 this
    · obtain rfl : p = q + 1 := by omega
      exact Nat.le_refl _

/-- An entry on which no loud operation in between may lay hands is as it was. -/
theorem Tr.stays (h : Tr E callF ops T s0 sf) {p : Nat} {k : Nat} (hk : k < (stateAt T sf p).lh.length) : ∀ {c : Nat}, p ≤ c → c ≤ T.length →
    (∀ r t, p ≤ r → r < c → T[r]? = some t → t.k = 2 → k ∈ t.U) → (stateAt T sf c).lh.getD k .dead = (stateAt T sf p).lh.getD k .dead := by
  intro c
  induction c with
  | zero => intro hpc _ _; obtain rfl : p = 0 := by omega
            rfl
  | succ c ih =>
    intro hpc hc hU
    rcases Nat.lt_or_ge p (c + 1) with hlt | hge
    · have hT : T[c]? = some T[c] := List.getElem?_eq_getElem (by omega)
      have h1 := ih (by omega) (by omega) fun r t hr hrc ht hk2 => hU r t hr (by omega) ht hk2
      rw [(chain_at h.ch).2 c _ hT]
      have hlen : k < T[c].s.lh.length := by
        have := h.len_mono (show p ≤ c by omega) (show c ≤ T.length by omega)
        rw [stateAt_of hT] at this
        omega
      rw [← h1, stateAt_of hT]
      obtain ⟨o, ho, g, hg, hcase⟩ := h.ok _ (mem_of_at hT)
      rcases hcase with ⟨_, _, _, e⟩ | ⟨_, _, _, _, _, e⟩ | ⟨_, _, _, q, _, _, e⟩ | ⟨_, h2, _, q, hq, _, e⟩
      · show T[c].lh'.getD k .dead = _; rw [e]
      · show T[c].lh'.getD k .dead = _; rw [e]
      · show T[c].lh'.getD k .dead = _
        rw [e, getD_append_one _ _ _ hlen]
      · show T[c].lh'.getD k .dead = _
        have hlen2 : k < q.2.length := by
          have := (h.kk _ (mem_of_at hT)).1
          rw [e, unprotL_length] at this
          omega
        rw [e, unprotL_getD _ _ _ _ hlen2, if_pos (hU c _ (by omega) (by omega) hT h2)]
    · obtain rfl : p = c + 1 := by omega
      rfl

/-- A temporary that no operation in between writes is as it was. -/
theorem Tr.tmp_stays (h : Tr E callF ops T s0 sf) {p tt : Nat} : ∀ {c : Nat}, p ≤ c → c ≤ T.length → (∀ r t, p ≤ r → r < c → T[r]? = some t → dstOf ops t ≠ some tt) →
    (stateAt T sf c).tmps.getD tt undef = (stateAt T sf p).tmps.getD tt undef := by
  intro c
  induction c with
  | zero => intro hpc _ _; obtain rfl : p = 0 := by omega
            rfl
  | succ c ih =>
    intro hpc hc hU
    rcases Nat.lt_or_ge p (c + 1) with hlt | hge
    · have hT : T[c]? = some T[c] := List.getElem?_eq_getElem (by omega)
      have h1 := ih (by omega) (by omega) fun r t hr hrc ht => hU r t hr (by omega) ht
      rw [(chain_at h.ch).2 c _ hT, ← h1, stateAt_of hT]
      show (putL _ _ _).getD tt undef = _
      rw [getD_putL, if_neg]
      rintro ⟨e, _⟩
      exact hU c _ (by omega) (by omega) hT e
    · obtain rfl : p = c + 1 := by omega
      rfl
theorem Tr.tmps_len (h : Tr E callF ops T s0 sf) : ∀ {q : Nat}, q ≤ T.length → (stateAt T sf q).tmps.length = s0.tmps.length := by
  intro q
  induction q with
  | zero => intro _; rw [(chain_at h.ch).1]
  | succ q ih =>
    intro hq
    have hT : T[q]? = some T[q] := List.getElem?_eq_getElem (by omega)
    rw [(chain_at h.ch).2 q _ hT]
    show (putL _ _ _).length = _
    rw [putL_length, ← stateAt_of (sf := sf) hT]
    exact ih (by omega)
end
end Go.Sx
