
/- A symbolic run of code, and its soundness, part c. No condition of its own. -/
import Derived.Test.YthfoljgaiincdaaDoorSxMb
/- A region that draws its order: what its static look gives. No condition of its own. -/
namespace Go.Sx
open Go Go.RowKit
set_option linter.unusedVariables false
set_option linter.unusedSimpArgs false

/-! ### What each operation waits for -/
def ancOf (acc : List Nat) (o : Oper) : Nat := o.after.toList.foldl (fun s e => cond (Region.binds .any e) (s ||| 2 ^ e.on ||| acc.getD e.on 0) s) 0
theorem foldl_bits (acc : List Nat) (j : Nat) : ∀ (l : List Edge) (s : Nat), Nat.testBit (l.foldl (fun s e => cond (Region.binds .any e) (s ||| 2 ^ e.on ||| acc.getD e.on 0) s) s) j = true →
    Nat.testBit s j = true ∨ ∃ e ∈ l, Region.binds .any e = true ∧ (j = e.on ∨ Nat.testBit (acc.getD e.on 0) j = true)
  | [], s, h => .inl h
  | e :: l, s, h => by
    rw [List.foldl_cons] at h
    rcases foldl_bits acc j l _ h with h | ⟨e', he', hb⟩
    · cases hb : Region.binds .any e with
      | false => rw [hb] at h; exact .inl h
      | true =>
        rw [hb] at h
        simp only [cond_true, Nat.testBit_or, Bool.or_eq_true] at h
        rcases h with (h | h) | h
        · exact .inl h
        · rw [Nat.testBit_two_pow] at h
          exact .inr ⟨e, List.mem_cons_self, hb, .inl (by simpa using (of_decide_eq_true h).symm)⟩
        · exact .inr ⟨e, List.mem_cons_self, hb, .inr h⟩
    · exact .inr ⟨e', List.mem_cons_of_mem _ he', hb⟩
theorem ancs_go : ∀ (ops : List Oper) (acc : List Nat), let L := ops.foldl (fun acc o => acc ++ [ancOf acc o]) acc
    L.length = acc.length + ops.length ∧ (∀ i, i < acc.length → L[i]? = acc[i]?) ∧ ∀ q o, ops[q]? = some o → L[acc.length + q]? = some (ancOf (L.take (acc.length + q)) o)
  | [], acc => by simp
  | o :: ops, acc => by
    have ih := ancs_go ops (acc ++ [ancOf acc o])
    simp only [List.foldl_cons] at ih ⊢
    obtain ⟨h1, h2, h3⟩ := ih
    refine ⟨by rw [h1]; simp; omega, fun i hi => ?_, fun q o' hq => ?_⟩
    · rw [h2 i (by simp; omega), List.getElem?_append_left hi]
    · cases q with
      | zero =>
        simp at hq; subst hq
        rw [Nat.add_zero, h2 acc.length (by simp)]
        rw [List.getElem?_append_right (Nat.le_refl _)]
        simp only [Nat.sub_self, List.getElem?_cons_zero, Option.some.injEq]
        congr 1
        apply List.ext_getElem?
        intro i
        rw [List.getElem?_take]
        split
        · rename_i hi
          rw [h2 i (by simp; omega), List.getElem?_append_left hi]
        · rename_i hi
          rw [List.getElem?_eq_none (by omega)]
      | succ q =>
        have := h3 q o' (by simpa using hq)
        simp only [List.length_append, List.length_cons, List.length_nil, Nat.zero_add] at this
        rw [show acc.length + (q + 1) = acc.length + 1 + q by omega]
        exact this
theorem ancs_eq (ops : List Oper) : ancs ops = ops.foldl (fun acc o => acc ++ [ancOf acc o]) [] := rfl
/-- What an operation waits for: one that stands at an edge of it, or what that one waits for. -/
theorem anc_edge {ops : List Oper} {i j : Nat} {o : Oper} (ho : ops[i]? = some o) (h : Nat.testBit ((ancs ops).getD i 0) j = true) :
    ∃ e ∈ o.after.toList, Region.binds .any e = true ∧ (j = e.on ∨ Nat.testBit ((ancs ops).getD e.on 0) j = true) := by
  obtain ⟨_, _, h3⟩ := ancs_go ops []
  have hi := h3 i o ho
  simp only [List.length_nil, Nat.zero_add, ← ancs_eq] at hi
  rw [List.getD_eq_getElem?_getD, hi, Option.getD_some] at h
  rcases foldl_bits _ j _ 0 h with h | ⟨e, he, hb, h⟩
  · simp at h
  · refine ⟨e, he, hb, ?_⟩
    rcases h with h | h
    · exact .inl h
    · right
      rw [List.getD_eq_getElem?_getD, List.getElem?_take] at h
      split at h
      · rw [List.getD_eq_getElem?_getD]; exact h
      · simp at h

/-! ### The order -/
theorem ordOK_spec {anc kinds : List Nat} : ∀ (l : List Nat) (m : Nat) (pre : List Nat), (∀ j, Nat.testBit m j = true ↔ j ∈ pre) → ordOK anc kinds l m = true →
    (∀ q i, l[q]? = some i → ∀ j, Nat.testBit (anc.getD i 0) j = true → j ∈ pre ++ l.take q) ∧
    (∀ q i, l[q]? = some i → ∀ j, j ∈ pre ++ l.take q → kinds[j]? = some 2 → Nat.testBit (anc.getD i 0) j = true) ∧
    (∀ q i, l[q]? = some i → i ∉ pre ++ l.take q)
  | [], m, pre, _, _ => ⟨fun q i h => by simp at h, fun q i h => by simp at h, fun q i h => by simp at h⟩
  | x :: l, m, pre, hm, h => by
    simp only [ordOK, Bool.and_eq_true] at h
    obtain ⟨⟨hr, hk⟩, ho⟩ := h
    have hm' : ∀ j, Nat.testBit (m ||| 2 ^ x) j = true ↔ j ∈ pre ++ [x] := by
      intro j
      rw [Nat.testBit_or, Bool.or_eq_true, hm, Nat.testBit_two_pow, List.mem_append, List.mem_singleton]
      simp [eq_comm]
    obtain ⟨i1, i2, i3⟩ := ordOK_spec l _ (pre ++ [x]) hm' ho
    simp only [readyIn, Bool.and_eq_true, Bool.not_eq_true'] at hr
    obtain ⟨hn, ha⟩ := hr
    have ha' : anc.getD x 0 &&& m = anc.getD x 0 := beq_true ha
    have e : ∀ q, pre ++ (x :: l).take (q + 1) = pre ++ [x] ++ l.take q := fun q => by simp
    refine ⟨fun q i hq j hj => ?_, fun q i hq j hj hkj => ?_, fun q i hq => ?_⟩
    · cases q with
      | zero =>
        simp at hq; subst hq
        rw [← ha', Nat.testBit_and, Bool.and_eq_true] at hj
        simpa using (hm j).1 hj.2
      | succ q => rw [e]; exact i1 q i (by simpa using hq) j hj
    · cases q with
      | zero =>
        simp at hq hj; subst hq
        rw [List.all_eq_true] at hk
        have := hk (2, j) (by rw [List.mem_zipIdx_iff_getElem?]; exact hkj)
        simp [(hm j).2 hj] at this
        exact this
      | succ q => rw [e] at hj; exact i2 q i (by simpa using hq) j hj hkj
    · cases q with
      | zero =>
        simp at hq; subst hq
        simp only [List.take_zero, List.append_nil]
        intro hx
        rw [(hm x).2 hx] at hn; cases hn
      | succ q => rw [e]; exact i3 q i (by simpa using hq)

/-! ### Protected entries -/
theorem protL_length (U : List Nat) (lh : List Blk) : (protL U lh).length = lh.length := by
  induction U generalizing lh with
  | nil => rfl
  | cons k U ih => rw [protL, List.foldl_cons]; exact (ih _).trans (by simp)
theorem prot_prot (b : Blk) : b.prot.prot = b.prot := by cases b <;> rfl
theorem prot_wrt (b : Blk) : b.prot.wrt = false := by cases b <;> rfl
theorem prot_owned (b : Blk) : b.prot.owned = b.owned := by cases b <;> rfl
theorem prot_alive (b : Blk) : b.prot.alive = b.alive := by cases b <;> rfl
theorem prot_same {b : Blk} (h : b.wrt = false) : b.prot = b := by cases b <;> first | rfl | (simp only [Blk.wrt] at h; subst h; rfl)
theorem BR_prot {n : Nat → Prop} {σ : Nat → Option Pl} {b : Blk} {p : Pl} {w : World} : BR n σ b.prot p w ↔ BR n σ b p w := by
  cases b <;> exact Iff.rfl
theorem protL_getD (U : List Nat) (lh : List Blk) (k : Nat) : (protL U lh).getD k .dead = if k ∈ U then (lh.getD k .dead).prot else lh.getD k .dead := by
  induction U generalizing lh with
  | nil => rfl
  | cons x U ih =>
    rw [protL, List.foldl_cons]
    show (protL U _).getD k .dead = _
    rw [ih]
    by_cases e : k = x
    · subst e
      rw [if_pos (show k ∈ k :: U from List.mem_cons_self)]
      by_cases hk : k < lh.length
      · rw [getD_set_same _ _ _ hk, prot_prot]; split <;> rfl
      · have : lh.getD k .dead = .dead := by simp [List.getElem?_eq_none (Nat.le_of_not_lt hk)]
        have h2 : lh.set k (lh.getD k .dead).prot = lh := List.set_eq_of_length_le (by omega)
        rw [h2, this]; split <;> rfl
    · rw [getD_set_other _ _ e]
      by_cases hu : k ∈ U
      · rw [if_pos hu, if_pos (List.mem_cons_of_mem _ hu)]
      · rw [if_neg hu, if_neg (by simp [e, hu])]
theorem unprotL_length (U : List Nat) (orig lh : List Blk) : (unprotL U orig lh).length = lh.length := by
  induction U generalizing lh with
  | nil => rfl
  | cons k U ih => rw [unprotL, List.foldl_cons]; exact (ih _).trans (by simp)
theorem unprotL_getD (U : List Nat) (orig lh : List Blk) (k : Nat) (hk : k < lh.length) : (unprotL U orig lh).getD k .dead = if k ∈ U then orig.getD k .dead else lh.getD k .dead := by
  induction U generalizing lh with
  | nil => rfl
  | cons x U ih =>
    rw [unprotL, List.foldl_cons]
    show (unprotL U orig _).getD k .dead = _
    rw [ih _ (by simpa using hk)]
    by_cases e : k = x
    · subst e
      rw [if_pos (show k ∈ k :: U from List.mem_cons_self), getD_set_same _ _ _ hk]; split <;> rfl
    · rw [getD_set_other _ _ e]
      by_cases hu : k ∈ U
      · rw [if_pos hu, if_pos (List.mem_cons_of_mem _ hu)]
      · rw [if_neg hu, if_neg (by simp [e, hu])]
/-- Entries that say the same of the world. -/
theorem HR.swap {n : Nat → Prop} {w0 : World} {G : Nat} {σ : Nat → Option Pl} {lh lh2 : List Blk} {w : World} (h : HR n w0 G σ lh w) (hl : lh2.length = lh.length)
    (he : ∀ k, k < lh.length → (lh2.getD k .dead).owned = (lh.getD k .dead).owned ∧ (lh2.getD k .dead).alive = (lh.getD k .dead).alive ∧ ∀ p, BR n σ (lh.getD k .dead) p w → BR n σ (lh2.getD k .dead) p w) : HR n w0 G σ lh2 w := by
  refine ⟨h.hn, h.below, h.glob, fun k p hk => by rw [hl]; exact h.dom k p hk, h.lt, fun k k' p p' hk hk' ho ha hb => ?_, fun k p hk => ?_⟩
  · rw [(he k (h.dom k p hk)).1] at ho
    rw [(he k' (h.dom k' p' hk')).2.1] at ha
    exact h.inj k k' p p' hk hk' ho ha hb
  · exact (he k (h.dom k p hk)).2.2 p (h.blk k p hk)
theorem HR.prot {n : Nat → Prop} {w0 : World} {G : Nat} {σ : Nat → Option Pl} {lh : List Blk} {w : World} (h : HR n w0 G σ lh w) (U : List Nat) : HR n w0 G σ (protL U lh) w :=
  h.swap (protL_length U lh) fun k hk => by
    rw [protL_getD]
    split
    · exact ⟨prot_owned _, prot_alive _, fun p hp => BR_prot.2 hp⟩
    · exact ⟨rfl, rfl, fun p hp => hp⟩
theorem keeps_unprot {U : List Nat} {lh lh' : List Blk} (h : Keeps (protL U lh) lh') : Keeps lh (unprotL U lh lh') := by
  have hl := h.1
  rw [protL_length] at hl
  refine ⟨by rw [unprotL_length]; exact hl, fun k hk hw => ?_⟩
  rw [unprotL_getD _ _ _ _ (by omega)]
  split
  · rfl
  · rename_i hu
    have := h.2 k (by rw [protL_length]; exact hk) (by rw [protL_getD, if_neg hu]; exact hw)
    rw [this, protL_getD, if_neg hu]
theorem HR.unprot {n : Nat → Prop} {w0 : World} {G : Nat} {σ : Nat → Option Pl} {U : List Nat} {lh lh' : List Blk} {w : World} (h : HR n w0 G σ lh' w) (hk : Keeps (protL U lh) lh') (hU : ∀ k ∈ U, k < lh.length) : HR n w0 G σ (unprotL U lh lh') w :=
  h.swap (unprotL_length _ _ _) fun k hkl => by
    rw [unprotL_getD _ _ _ _ hkl]
    split
    · rename_i hu
      have := hk.2 k (by rw [protL_length]; exact hU k hu) (by rw [protL_getD, if_pos hu]; exact prot_wrt _)
      rw [this, protL_getD, if_pos hu]
      exact ⟨(prot_owned _).symm, (prot_alive _).symm, fun p hp => BR_prot.1 hp⟩
    · exact ⟨rfl, rfl, fun p hp => hp⟩

/-! ### Values hang on what they read alone -/
theorem loadM_congr {P : Program} {t : TypeId} {a : Value} {lh lh2 : List Blk} (h : ∀ k ∈ idOf a, lh.getD k .dead = lh2.getD k .dead) : loadM P t a lh = loadM P t a lh2 := by
  unfold loadM
  split
  · rename_i k off hag
    rw [h k (by simp [idOf])]
  · rename_i k i j hag
    rw [h k (by simp [idOf])]
  · rename_i m k off hag
    rw [h k (by simp [idOf])]
  · rename_i m k i j hag
    rw [h k (by simp [idOf])]
  · rfl
theorem indexAddrM_congr {P : Program} {t : TypeId} {x ix : Value} {lh lh2 : List Blk} (h : ∀ k ∈ idOf x, lh.getD k .dead = lh2.getD k .dead) : indexAddrM P t x ix lh = indexAddrM P t x ix lh2 := by
  unfold indexAddrM
  split
  · split
    · rfl
    · rename_i e k off len cap hu
      rw [h k (by simp [idOf])]
    · rename_i e k r len cap hu
      rw [h k (by simp [idOf])]
    · rename_i e k len cap hu
      rw [h k (by simp [idOf])]
    · rename_i e k len cap hu
      rw [h k (by simp [idOf])]
    · rfl
  · rfl
theorem lookupM_congr {P : Program} {t : TypeId} {m ix : Value} {ok : Bool} {lh lh2 : List Blk} (h : ∀ k ∈ idOf m, lh.getD k .dead = lh2.getD k .dead) : lookupM P t m ix ok lh = lookupM P t m ix ok lh2 := by
  unfold lookupM
  split
  · split
    · rename_i z b x hk hz
      rw [h b (by simp [idOf])]
    · rfl
  · rfl
theorem valM_congr {E : Env} {ev : Operand → Value} {lh lh2 : List Blk} {op : Op} (h : ∀ k ∈ readsOf ev op, lh.getD k .dead = lh2.getD k .dead) : valM E ev lh op = valM E ev lh2 op := by
  cases op <;> try rfl
  case load t a => exact loadM_congr h
  case indexAddr t x ix => exact indexAddrM_congr h
  case lookup t m ix ok => exact lookupM_congr h
  case makeFunc fn a c => cases fn <;> rfl
end Go.Sx

/- A region that draws its order: whatever the order, it leaves what the symbolic run leaves. No condition of its own. -/
namespace Go.Sx
open Go Go.RowKit
set_option linter.unusedVariables false
set_option linter.unusedSimpArgs false

/-- One operation of the run along the order. k: 0, it turned nothing; 1: it made a block; 2: else; 3: it wasn't wanted. -/
structure Step where
  i : Nat
  k : Nat
  s : St
  v : Value
  lh' : List Blk
  U : List Nat
  ids : List Nat

abbrev CallF := FuncId → List Value → List Blk → M (Value × List Blk)
def GuardIs (ops : Array Oper) (o : Oper) (s : St) (g : Bool) : Prop :=
  o.guard = none ∧ g = true ∨ (∃ j want t b, o.guard = some (j, want) ∧ (ops[j]?).bind (·.dst) = some t ∧ s.tmps.getD t undef = .bool b ∧ g = (b == want)) ∨ ∃ j want t x, o.guard = some (j, want) ∧ (ops[j]?).bind (·.dst) = some t ∧ s.tmps.getD t undef = .chan x ∧ g = false
def StepOK (E : Env) (callF : CallF) (ops : Array Oper) (t : Step) : Prop :=
  ∃ o, ops[t.i]? = some o ∧ ∃ g, GuardIs ops o t.s g ∧
    ((g = false ∧ t.k = 3 ∧ t.v = .chan (some 0) ∧ t.lh' = t.s.lh) ∨
     (g = true ∧ t.k = 0 ∧ t.ids = readsOf (evx E.G t.s.tmps) o.op ∧ (∀ k ∈ t.ids, k < t.s.lh.length) ∧ (valM E (evx E.G t.s.tmps) t.s.lh o.op).get = some t.v ∧ t.lh' = t.s.lh) ∨
     (g = true ∧ t.k = 1 ∧ t.ids = [t.s.lh.length] ∧ ∃ q, (newM E (evx E.G t.s.tmps) o.op).get = some q ∧ t.v = q.1 t.s.lh.length ∧ t.lh' = t.s.lh ++ [q.2]) ∨
     (g = true ∧ t.k = 2 ∧ kindOf o.op = 2 ∧ ∃ q, (loudM E callF (evx E.G t.s.tmps) (protL t.U t.s.lh) o.op).get = some q ∧ t.v = q.1 ∧ t.lh' = unprotL t.U t.s.lh q.2))
def dstOf (ops : Array Oper) (t : Step) : Option Tmp := (ops[t.i]?).bind (·.dst)
def nxt (ops : Array Oper) (t : Step) : St := ⟨putL t.s.tmps (dstOf ops t) t.v, t.lh'⟩
def chain (ops : Array Oper) : St → List Step → St → Prop
  | s, [], sf => s = sf
  | s, t :: T, sf => t.s = s ∧ chain ops (nxt ops t) T sf
/-- What an earlier quiet operation hangs on is kept by a loud one that doesn't wait for it. -/
def Cov (anc : List Nat) (p r : Step) : Prop := p.k < 2 → r.k = 2 → Nat.testBit (anc.getD r.i 0) p.i = false → ∀ k ∈ p.ids, k ∈ r.U

theorem kind_two {op : Op} (h0 : kindOf op ≠ 0) (h1 : kindOf op ≠ 1) : kindOf op = 2 := by
  unfold kindOf at *
  split at h0 <;> first | rfl | exact absurd rfl h1 | exact absurd rfl h0 | (split at h0 <;> first | rfl | exact absurd rfl h0)

theorem guardM_is {α : Type} {ops : Array Oper} {o : Oper} {s : St} {yes no : St → M α} {x : α} (h : (guardM ops o s yes no).get = some x) :
    ∃ g : Bool, (g = true → (yes s).get = some x) ∧ (g = false → (no s).get = some x) ∧ GuardIs ops o s g := by
  obtain ⟨g, h1, h2, _, h4⟩ := guardM_some (n := fun _ => False) (w0 := default) (G := 0) h
  exact ⟨g, h1, h2, h4⟩

def StepIn (t : Step) : Prop := Keeps t.s.lh t.lh' ∧ (t.k = 2 → ∀ k ∈ t.U, k < t.s.lh.length)
theorem trace_of {n : Nat → Prop} {w0 : World} {G : Nat} {E : Env} {callF : CallF} (hc : CallsOK E.P n w0 G callF) {ops : Array Oper} {anc : List Nat} : ∀ (l : List Nat) (pr : List (Nat × List Nat)) (s sf : St), (∀ e ∈ pr, ∀ k ∈ e.2, k < s.lh.length) → (drawGo E callF ops anc l pr s).get = some sf →
    ∃ T : List Step, T.map (·.i) = l ∧ chain ops s T sf ∧ (∀ t ∈ T, StepOK E callF ops t) ∧ T.Pairwise (Cov anc) ∧
      (∀ e ∈ pr, ∀ t ∈ T, t.k = 2 → Nat.testBit (anc.getD t.i 0) e.1 = false → ∀ k ∈ e.2, k ∈ t.U) ∧ ∀ t ∈ T, StepIn t
  | [], pr, s, sf, hpr, h => by
    simp only [drawGo, M.get_ret, Option.some.injEq] at h
    exact ⟨[], rfl, h, by simp, List.Pairwise.nil, by simp, by simp⟩
  | i :: l, pr, s, sf, hpr, h => by
    simp only [drawGo] at h
    split at h
    · cases h
    · rename_i o ho
      obtain ⟨g, hy, hn, hg⟩ := guardM_is h
      have hd : ∀ (k : Nat) (v : Value) (lh' : List Blk) (U ids : List Nat), nxt ops ⟨i, k, s, v, lh', U, ids⟩ = ⟨putL s.tmps o.dst v, lh'⟩ := fun k v lh' U ids => by
        simp only [nxt, dstOf, ho, Option.bind_some]
      cases g with
      | false =>
        obtain ⟨T, h1, h2, h3, h4, h5, h6⟩ := trace_of hc l pr ⟨putL s.tmps o.dst (.chan (some 0)), s.lh⟩ sf hpr (hn rfl)
        refine ⟨⟨i, 3, s, .chan (some 0), s.lh, [], []⟩ :: T, by simp [h1], ⟨rfl, by rw [hd]; exact h2⟩, ?_, List.Pairwise.cons (fun r _ hk => absurd hk (by show ¬ 3 < 2; omega)) h4, ?_, List.forall_mem_cons.2 ⟨⟨Keeps.refl _, fun hk => by cases hk⟩, h6⟩⟩
        · intro t ht
          rcases List.mem_cons.1 ht with rfl | ht
          · exact ⟨o, ho, false, hg, .inl ⟨rfl, rfl, rfl, rfl⟩⟩
          · exact h3 t ht
        · intro e he t ht
          rcases List.mem_cons.1 ht with rfl | ht
          · intro hk; cases hk
          · exact h5 e he t ht
      | true =>
        have hb := hy rfl
        split at hb
        · rename_i hk
          rcases M.get_br_some hb with ⟨hr, hb⟩ | ⟨_, hb⟩
          · obtain ⟨v, hv, hb⟩ := M.get_bind_some hb
            have hrr : ∀ k ∈ readsOf (evx E.G s.tmps) o.op, k < s.lh.length := fun k hk => by
              rw [List.all_eq_true] at hr
              exact blt_true (hr k hk)
            obtain ⟨T, h1, h2, h3, h4, h5, h6⟩ := trace_of hc l ((i, readsOf (evx E.G s.tmps) o.op) :: pr) ⟨putL s.tmps o.dst v, s.lh⟩ sf (List.forall_mem_cons.2 ⟨hrr, hpr⟩) hb
            refine ⟨⟨i, 0, s, v, s.lh, [], readsOf (evx E.G s.tmps) o.op⟩ :: T, by simp [h1], ⟨rfl, by rw [hd]; exact h2⟩, ?_, List.Pairwise.cons (fun r hr _ hk ha => h5 _ List.mem_cons_self r hr hk ha) h4, ?_, List.forall_mem_cons.2 ⟨⟨Keeps.refl _, fun hk => by cases hk⟩, h6⟩⟩
            · intro t ht
              rcases List.mem_cons.1 ht with rfl | ht
              · refine ⟨o, ho, true, hg, .inr (.inl ⟨rfl, rfl, rfl, hrr, hv, rfl⟩)⟩
              · exact h3 t ht
            · intro e he t ht
              rcases List.mem_cons.1 ht with rfl | ht
              · intro hk; cases hk
              · exact h5 e (List.mem_cons_of_mem _ he) t ht
          · cases hb
        · rename_i hk
          obtain ⟨q, hq, hb⟩ := M.get_bind_some hb
          obtain ⟨T, h1, h2, h3, h4, h5, h6⟩ := trace_of hc l _ _ sf (List.forall_mem_cons.2 ⟨fun k hk => by simp at hk; simp; omega, fun e he k hk => by have := hpr e he k hk; simp; omega⟩) hb
          refine ⟨⟨i, 1, s, q.1 s.lh.length, s.lh ++ [q.2], [], [s.lh.length]⟩ :: T, by simp [h1], ⟨rfl, by rw [hd]; exact h2⟩, ?_, List.Pairwise.cons (fun r hr _ hk ha => h5 _ List.mem_cons_self r hr hk ha) h4, ?_, List.forall_mem_cons.2 ⟨⟨Keeps.append _ _, fun hk => by cases hk⟩, h6⟩⟩
          · intro t ht
            rcases List.mem_cons.1 ht with rfl | ht
            · exact ⟨o, ho, true, hg, .inr (.inr (.inl ⟨rfl, rfl, rfl, q, hq, rfl, rfl⟩))⟩
            · exact h3 t ht
          · intro e he t ht
            rcases List.mem_cons.1 ht with rfl | ht
            · intro hk; cases hk
            · exact h5 e (List.mem_cons_of_mem _ he) t ht
        · rename_i hk0 hk1
          obtain ⟨q, hq, hb⟩ := M.get_bind_some hb
          have hkp := keeps_unprot (loudM_keeps hc hq)
          obtain ⟨T, h1, h2, h3, h4, h5, h6⟩ := trace_of hc l _ _ sf (fun e he k hk => Nat.lt_of_lt_of_le (hpr e he k hk) hkp.1) hb
          refine ⟨⟨i, 2, s, q.1, unprotL (pr.flatMap fun e => cond (Nat.testBit (anc.getD i 0) e.1) [] e.2) s.lh q.2, pr.flatMap fun e => cond (Nat.testBit (anc.getD i 0) e.1) [] e.2, []⟩ :: T, by simp [h1], ⟨rfl, by rw [hd]; exact h2⟩, ?_, List.Pairwise.cons (fun r hr hk => absurd hk (by show ¬ 2 < 2; omega)) h4, ?_, List.forall_mem_cons.2 ⟨⟨hkp, fun _ k hk => ?_⟩, h6⟩⟩
          · intro t ht
            rcases List.mem_cons.1 ht with rfl | ht
            · exact ⟨o, ho, true, hg, .inr (.inr (.inr ⟨rfl, rfl, kind_two hk0 hk1, q, hq, rfl, rfl⟩))⟩
            · exact h3 t ht
          · intro e he t ht
            rcases List.mem_cons.1 ht with rfl | ht
            · intro _ ha k hk
              refine List.mem_flatMap.2 ⟨e, he, ?_⟩
              simp only at ha
              rw [ha]; exact hk
            · exact h5 e he t ht
          · obtain ⟨e, he, hke⟩ := List.mem_flatMap.1 hk
            refine hpr e he k ?_
            cases hx : Nat.testBit (anc.getD i 0) e.1 <;> rw [hx] at hke
            · exact hke
            · cases hke

/-! ### The places of the run -/
def stateAt (T : List Step) (sf : St) (q : Nat) : St := match T[q]? with | some t => t.s | none => sf
theorem stateAt_of {T : List Step} {sf : St} {q : Nat} {t : Step} (h : T[q]? = some t) : stateAt T sf q = t.s := by simp [stateAt, h]
theorem chain_at {ops : Array Oper} : ∀ {T : List Step} {s sf : St}, chain ops s T sf → stateAt T sf 0 = s ∧ ∀ q t, T[q]? = some t → stateAt T sf (q + 1) = nxt ops t
  | [], s, sf, h => ⟨h.symm, fun q t hq => by simp at hq⟩
  | u :: T, s, sf, h => by
    obtain ⟨h1, h2⟩ := chain_at h.2
    refine ⟨h.1, fun q t hq => ?_⟩
    cases q with
    | zero =>
      simp at hq; subst hq
      rw [← h1]
      simp [stateAt]
    | succ q =>
      have := h2 q t (by simpa using hq)
      rw [← this]
      simp [stateAt]
theorem stateAt_end {T : List Step} {sf : St} : stateAt T sf T.length = sf := by simp [stateAt]

section
variable {E : Env} {callF : CallF} {ops : Array Oper} {T : List Step} {s0 sf : St}

structure Tr (E : Env) (callF : CallF) (ops : Array Oper) (T : List Step) (s0 sf : St) : Prop where
  ch : chain ops s0 T sf
  ok : ∀ t ∈ T, StepOK E callF ops t
  cov : T.Pairwise (Cov (ancs ops.toList))
  kk : ∀ t ∈ T, Keeps t.s.lh t.lh'
  ub : ∀ t ∈ T, t.k = 2 → ∀ k ∈ t.U, k < t.s.lh.length
  lt : ∀ t ∈ T, t.i < ops.size
  mem : ∀ i, i < ops.size → ∃ (q : Nat) (t : Step), T[q]? = some t ∧ t.i = i
  inj : ∀ (p q : Nat) (t u : Step), T[p]? = some t → T[q]? = some u → t.i = u.i → p = q
  before : ∀ (q : Nat) (t : Step) (j : Nat), T[q]? = some t → Nat.testBit ((ancs ops.toList).getD t.i 0) j = true → ∃ (p : Nat) (u : Step), p < q ∧ T[p]? = some u ∧ u.i = j
  loud : ∀ (p q : Nat) (t u : Step), p < q → T[p]? = some t → T[q]? = some u → t.k = 2 → Nat.testBit ((ancs ops.toList).getD u.i 0) t.i = true
  tmps : ∀ (p q : Nat) (t u : Step) (o : Oper) (tt : Nat), T[p]? = some t → T[q]? = some u → ops[u.i]? = some o → tt ∈ named ops o → dstOf ops t = some tt → p ≠ q → ordered (ancs ops.toList) u.i t.i = true

theorem mem_of_at {q : Nat} {t : Step} (h : T[q]? = some t) : t ∈ T := List.mem_of_getElem? h

theorem Tr.len_mono (h : Tr E callF ops T s0 sf) : ∀ {p q : Nat}, p ≤ q → q ≤ T.length → (stateAt T sf p).lh.length ≤ (stateAt T sf q).lh.length := by
  intro p q hpq
  induction q with
  | zero => intro _; obtain rfl : p = 0 := by omega
            exact Nat.le_refl _
  | succ q ih =>
    intro hq
    rcases Nat.lt_or_ge p (q + 1) with hlt | hge
    · have hT : T[q]? = some T[q] := List.getElem?_eq_getElem (by omega)
      have h1 := ih (by omega) (by omega)
      rw [(chain_at h.ch).2 q _ hT]
      rw [stateAt_of hT] at h1
      have := (h.kk _ (mem_of_at hT)).1
      exact Nat.le_trans h1 this
    · obtain rfl : p = q + 1 := by omega
      exact Nat.le_refl _

/-- An entry on which no loud operation in between may lay hands is as it was. -/
theorem Tr.stays (h : Tr E callF ops T s0 sf) {p : Nat} {k : Nat} (hk : k < (stateAt T sf p).lh.length) : ∀ {c : Nat}, p ≤ c → c ≤ T.length →
    (∀ r t, p ≤ r → r < c → T[r]? = some t → t.k = 2 → k ∈ t.U) → (stateAt T sf c).lh.getD k .dead = (stateAt T sf p).lh.getD k .dead := by
  intro c
  induction c with
  | zero => intro hpc _ _; obtain rfl : p = 0 := by omega
            rfl
  | succ c ih =>
    intro hpc hc hU
    rcases Nat.lt_or_ge p (c + 1) with hlt | hge
    · have hT : T[c]? = some T[c] := List.getElem?_eq_getElem (by omega)
      have h1 := ih (by omega) (by omega) fun r t hr hrc ht hk2 => hU r t hr (by omega) ht hk2
      rw [(chain_at h.ch).2 c _ hT]
      have hlen : k < T[c].s.lh.length := by
        have := h.len_mono (show p ≤ c by omega) (show c ≤ T.length by omega)
        rw [stateAt_of hT] at this
        omega
      rw [← h1, stateAt_of hT]
      obtain ⟨o, ho, g, hg, hcase⟩ := h.ok _ (mem_of_at hT)
      rcases hcase with ⟨_, _, _, e⟩ | ⟨_, _, _, _, _, e⟩ | ⟨_, _, _, q, _, _, e⟩ | ⟨_, h2, _, q, hq, _, e⟩
      · show T[c].lh'.getD k .dead = _; rw [e]
      · show T[c].lh'.getD k .dead = _; rw [e]
      · show T[c].lh'.getD k .dead = _
        rw [e, getD_append_one _ _ _ hlen]
      · show T[c].lh'.getD k .dead = _
        have hlen2 : k < q.2.length := by
          have := (h.kk _ (mem_of_at hT)).1
          rw [e, unprotL_length] at this
          omega
        rw [e, unprotL_getD _ _ _ _ hlen2, if_pos (hU c _ (by omega) (by omega) hT h2)]
    · obtain rfl : p = c + 1 := by omega
      rfl

/-- A temporary that no operation in between writes is as it was. -/
theorem Tr.tmp_stays (h : Tr E callF ops T s0 sf) {p tt : Nat} : ∀ {c : Nat}, p ≤ c → c ≤ T.length → (∀ r t, p ≤ r → r < c → T[r]? = some t → dstOf ops t ≠ some tt) →
    (stateAt T sf c).tmps.getD tt undef = (stateAt T sf p).tmps.getD tt undef := by
  intro c
  induction c with
  | zero => intro hpc _ _; obtain rfl : p = 0 := by omega
            rfl
  | succ c ih =>
    intro hpc hc hU
    rcases Nat.lt_or_ge p (c + 1) with hlt | hge
    · have hT : T[c]? = some T[c] := List.getElem?_eq_getElem (by omega)
      have h1 := ih (by omega) (by omega) fun r t hr hrc ht => hU r t hr (by omega) ht
      rw [(chain_at h.ch).2 c _ hT, ← h1, stateAt_of hT]
      show (putL _ _ _).getD tt undef = _
      rw [getD_putL, if_neg]
      rintro ⟨e, _⟩
      exact hU c _ (by omega) (by omega) hT e
    · obtain rfl : p = c + 1 := by omega
      rfl
theorem Tr.tmps_len (h : Tr E callF ops T s0 sf) : ∀ {q : Nat}, q ≤ T.length → (stateAt T sf q).tmps.length = s0.tmps.length := by
  intro q
  induction q with
  | zero => intro _; rw [(chain_at h.ch).1]
  | succ q ih =>
    intro hq
    have hT : T[q]? = some T[q] := List.getElem?_eq_getElem (by omega)
    rw [(chain_at h.ch).2 q _ hT]
    show (putL _ _ _).length = _
    rw [putL_length, ← stateAt_of (sf := sf) hT]
    exact ih (by omega)
end
end Go.Sx

/- A region that draws its order: the step of the proof. No condition of its own. -/
namespace Go.Sx
open Go Go.RowKit
set_option linter.unusedVariables false
set_option linter.unusedSimpArgs false
section
variable {n : Nat → Prop} {w0 : World} {G : Nat} {E : Env} {callF : CallF} {ops : Array Oper} {T : List Step} {s0 sf : St}

theorem Tr.of_ok (hc : CallsOK E.P n w0 G callF) (hd : drawOK ops = true) (h : (drawGo E callF ops (ancs ops.toList) (ordOf ops.toList) [] s0).get = some sf) : ∃ T, Tr E callF ops T s0 sf := by
  obtain ⟨T, hT, hch, hok, hcov, _, hin⟩ := trace_of hc _ _ _ _ (by simp) h
  simp only [drawOK, Bool.and_eq_true] at hd
  obtain ⟨⟨⟨⟨_, htm⟩, hord⟩, hmem⟩, hlt⟩ := hd
  obtain ⟨o1, o2, o3⟩ := ordOK_spec _ 0 [] (fun j => by simp) hord
  have hat : ∀ (q : Nat) (t : Step), T[q]? = some t → (ordOf ops.toList)[q]? = some t.i := fun q t hq => by rw [← hT, List.getElem?_map, hq]; rfl
  have hta : ∀ (q i : Nat), (ordOf ops.toList)[q]? = some i → ∃ t, T[q]? = some t ∧ t.i = i := fun q i hq => by
    rw [← hT, List.getElem?_map] at hq
    cases ht : T[q]? with
    | none => rw [ht] at hq; cases hq
    | some t => rw [ht] at hq; cases hq; exact ⟨t, rfl, rfl⟩
  have hinj : ∀ (p q : Nat) (t u : Step), T[p]? = some t → T[q]? = some u → t.i = u.i → p = q := by
    have key : ∀ (p q : Nat) (t u : Step), p < q → T[p]? = some t → T[q]? = some u → t.i ≠ u.i := fun p q t u hpq ht hu e => by
      refine o3 q u.i (hat q u hu) ?_
      rw [← e, List.nil_append]
      refine List.mem_of_getElem? (i := p) ?_
      rw [List.getElem?_take_of_lt hpq]; exact hat p t ht
    intro p q t u ht hu e
    rcases Nat.lt_trichotomy p q with h | h | h
    · exact absurd e (key p q t u h ht hu)
    · exact h
    · exact absurd e.symm (key q p u t h hu ht)
  refine ⟨T, hch, hok, hcov, fun t ht => (hin t ht).1, fun t ht => (hin t ht).2, fun t ht => ?_, fun i hi => ?_, hinj, fun q t j hq hj => ?_, fun p q t u hpq ht hu hk => ?_, fun p q t u o tt ht hu ho htt hdst hpq => ?_⟩
  · obtain ⟨o, ho, _⟩ := hok t ht
    exact (Array.getElem?_eq_some_iff.1 ho).1
  · rw [List.all_eq_true] at hmem
    have := hmem i (by simpa using hi)
    rw [List.any_eq_true] at this
    obtain ⟨j, hj, e⟩ := this
    obtain ⟨q, hq, hqj⟩ := List.mem_iff_getElem.1 hj
    obtain ⟨t, h1, h2⟩ := hta q j (by rw [List.getElem?_eq_getElem hq, hqj])
    exact ⟨q, t, h1, by rw [h2]; exact (beq_true e).symm⟩
  · have := o1 q t.i (hat q t hq) j hj
    rw [List.nil_append] at this
    obtain ⟨p, hp⟩ := List.mem_iff_getElem?.1 this
    rw [List.getElem?_take] at hp
    split at hp
    · rename_i hpq
      obtain ⟨u, h1, h2⟩ := hta p j hp
      exact ⟨p, u, hpq, h1, h2⟩
    · cases hp
  · refine o2 q u.i (hat q u hu) t.i ?_ ?_
    · rw [List.nil_append]
      refine List.mem_of_getElem? (i := p) ?_
      rw [List.getElem?_take_of_lt hpq]; exact hat p t ht
    · obtain ⟨o, ho, g, _, hcase⟩ := hok t (mem_of_at ht)
      have hk2 : kindOf o.op = 2 := by
        rcases hcase with ⟨_, e, _⟩ | ⟨_, e, _⟩ | ⟨_, e, _⟩ | ⟨_, _, e, _⟩
        · rw [hk] at e; cases e
        · rw [hk] at e; cases e
        · rw [hk] at e; cases e
        · exact e
      rw [List.getElem?_map, Array.getElem?_toList, ho]
      simp [hk2]
  · unfold tmpsOK at htm
    rw [List.all_eq_true] at htm
    have h1 := htm (o, u.i) (by rw [List.mem_zipIdx_iff_getElem?]; simpa using ho)
    simp only at h1
    rw [List.all_eq_true] at h1
    have h2 := h1 tt htt
    rw [List.all_eq_true] at h2
    unfold dstOf at hdst
    cases hot : ops[t.i]? with
    | none => rw [hot] at hdst; cases hdst
    | some q' =>
      rw [hot, Option.bind_some] at hdst
      have h3 := h2 (q', t.i) (by rw [List.mem_zipIdx_iff_getElem?]; simpa using hot)
      simp only [hdst, Nat.beq_refl, Bool.not_true, Bool.false_or, Bool.or_eq_true] at h3
      rcases h3 with h3 | h3
      · exact absurd (hinj p q t u ht hu (beq_true h3).symm) hpq
      · exact h3

/-- What holds when the operations 'listed' have been carried out, in whatever order. -/
structure InvC (n : Nat → Prop) (w0 : World) (G : Nat) (ops : Array Oper) (T : List Step) (s0 sf : St) (σ0 σ : Nat → Option Pl) (c : Nat) (listed : Array Bool) (a : Act) (w : World) : Prop where
  cle : c ≤ T.length
  size : listed.size = ops.size
  ext : Ext s0.lh.length σ0 σ
  closed : ∀ i j, listed.getD i false = true → Nat.testBit ((ancs ops.toList).getD i 0) j = true → listed.getD j false = true
  below : ∀ (q : Nat) (t : Step), T[q]? = some t → listed.getD t.i false = true → q < c
  louds : ∀ (q : Nat) (t : Step), T[q]? = some t → q < c → t.k = 2 → listed.getD t.i false = true
  at_ : c = T.length ∨ ∃ t, T[c]? = some t ∧ t.k = 2
  hr : HR n w0 G σ (stateAt T sf c).lh w
  free : ∀ (q : Nat) (t : Step), T[q]? = some t → q < c → t.k = 1 → listed.getD t.i false = false → σ t.s.lh.length = none
  sz : a.tmps.size = s0.tmps.length
  df : a.defers = []
  tm : ∀ (tt q : Nat), q ≤ T.length → (∀ (r : Nat) (t : Step), T[r]? = some t → dstOf ops t = some tt → (r < q ↔ listed.getD t.i false = true)) → VR σ ((stateAt T sf q).tmps.getD tt undef) (a.tmps.getD tt undef)

theorem first_loud (T : List Step) (m : Nat) (hm : m ≤ T.length) : ∃ c, m ≤ c ∧ c ≤ T.length ∧ (∀ (q : Nat) (t : Step), m ≤ q → q < c → T[q]? = some t → t.k ≠ 2) ∧ (c = T.length ∨ ∃ t, T[c]? = some t ∧ t.k = 2) := by
  obtain ⟨d, hd⟩ : ∃ d, T.length - m = d := ⟨_, rfl⟩
  induction d generalizing m with
  | zero => exact ⟨m, Nat.le_refl _, hm, fun q t h1 h2 => by omega, .inl (by omega)⟩
  | succ d ih =>
    have hT : T[m]? = some T[m] := List.getElem?_eq_getElem (by omega)
    by_cases hk : T[m].k = 2
    · exact ⟨m, Nat.le_refl _, hm, fun q t h1 h2 => by omega, .inr ⟨_, hT, hk⟩⟩
    · obtain ⟨c, h1, h2, h3, h4⟩ := ih (m + 1) (by omega) (by omega)
      refine ⟨c, by omega, h2, fun q t hq hqc ht => ?_, h4⟩
      rcases Nat.lt_or_ge m q with h | h
      · exact h3 q t h hqc ht
      · obtain rfl : q = m := by omega
        rw [hT] at ht; cases ht; exact hk

/-- Where nothing is loud entries are added alone. -/
theorem Tr.quiet (h : Tr E callF ops T s0 sf) {p c : Nat} (hpc : p ≤ c) (hc : c ≤ T.length) (hq : ∀ (q : Nat) (t : Step), p ≤ q → q < c → T[q]? = some t → t.k ≠ 2) : ∃ N, (stateAt T sf c).lh = (stateAt T sf p).lh ++ N := by
  obtain ⟨d, rfl⟩ := Nat.exists_eq_add_of_le hpc
  induction d with
  | zero => exact ⟨[], by simp⟩
  | succ d ih =>
    obtain ⟨N, hN⟩ := ih (by omega) (by omega) fun q t h1 h2 => hq q t h1 (by omega)
    have hT : T[p + d]? = some T[p + d] := List.getElem?_eq_getElem (by omega)
    rw [show p + (d + 1) = p + d + 1 by omega, (chain_at h.ch).2 _ _ hT]
    rw [stateAt_of hT] at hN
    have hk := hq _ _ (by omega) (by omega) hT
    obtain ⟨o, ho, g, hg, hcase⟩ := h.ok _ (mem_of_at hT)
    show ∃ N, T[p + d].lh' = _
    rcases hcase with ⟨_, _, _, e⟩ | ⟨_, _, _, _, _, e⟩ | ⟨_, _, _, q, _, _, e⟩ | ⟨_, h2, _⟩
    · exact ⟨N, by rw [e, hN]⟩
    · exact ⟨N, by rw [e, hN]⟩
    · exact ⟨N ++ [q.2], by rw [e, hN, List.append_assoc]⟩
    · exact absurd h2 hk

theorem InvC.start (h : Tr E callF ops T s0 sf) {σ : Nat → Option Pl} {a : Act} {w : World} (hrel : Rel n w0 G σ s0 a w) : ∃ c, InvC n w0 G ops T s0 sf σ σ c (Array.replicate ops.size false) a w := by
  obtain ⟨c, h1, h2, h3, h4⟩ := first_loud T 0 (by omega)
  have hf : ∀ i, (Array.replicate ops.size false).getD i false = false := fun i => by
    rw [Array.getD_eq_getD_getElem?, Array.getElem?_replicate]; split <;> rfl
  have h0 := (chain_at h.ch).1
  refine ⟨c, h2, by simp, Ext.refl _ _, fun i j hi => (by rw [hf] at hi; cases hi), fun q t _ hl => (by rw [hf] at hl; cases hl), fun q t ht hq hk => absurd hk (h3 q t (by omega) hq ht), h4, ?_, fun q t ht hq hk _ => ?_, hrel.sz, hrel.df, fun tt q hq hw => ?_⟩
  · obtain ⟨N, hN⟩ := h.quiet h1 h2 h3
    rw [hN, h0]
    exact hrel.hr.extend N
  · have := h.len_mono (Nat.zero_le q) (by omega)
    rw [h0, stateAt_of ht] at this
    cases e : σ t.s.lh.length with
    | none => rfl
    | some p => have := hrel.hr.dom _ _ e; omega
  · rw [h.tmp_stays (p := 0) (tt := tt) (Nat.zero_le q) hq fun r t _ hr ht hd => ?_, h0]
    · exact hrel.tm tt
    · have := (hw r t ht hd).1 hr
      rw [hf] at this; cases this

theorem getD_listed {listed : Array Bool} {i : Nat} (hi : i < listed.size) (j : Nat) : (listed.setIfInBounds i true).getD j false = if j = i then true else listed.getD j false := by
  rw [Array.getD_eq_getD_getElem?, Array.getElem?_setIfInBounds]
  by_cases e : i = j
  · subst e; simp [hi]
  · rw [if_neg e, if_neg (Ne.symm e), Array.getD_eq_getD_getElem?]

/-- One more operation has been carried out. -/
theorem InvC.next (h : Tr E callF ops T s0 sf) {σ0 σ σ' : Nat → Option Pl} {c c' : Nat} {listed : Array Bool} {a : Act} {w w' : World} (hi : InvC n w0 G ops T s0 sf σ0 σ c listed a w) {q : Nat} {t : Step} (ht : T[q]? = some t)
    (hn : listed.getD t.i false = false) (hdeps : ∀ j, Nat.testBit ((ancs ops.toList).getD t.i 0) j = true → listed.getD j false = true) {v' : Value} (hext : Ext s0.lh.length σ0 σ') (hle : Le σ σ') (hv : VR σ' t.v v')
    (hcle : c' ≤ T.length) (hbelow : ∀ (p : Nat) (u : Step), T[p]? = some u → listed.getD u.i false = true ∨ p = q → p < c')
    (hlouds : ∀ (p : Nat) (u : Step), T[p]? = some u → p < c' → u.k = 2 → listed.getD u.i false = true ∨ p = q) (hat : c' = T.length ∨ ∃ u, T[c']? = some u ∧ u.k = 2) (hhr : HR n w0 G σ' (stateAt T sf c').lh w')
    (hfree : ∀ (p : Nat) (u : Step), T[p]? = some u → p < c' → u.k = 1 → listed.getD u.i false = false → p ≠ q → σ' u.s.lh.length = none) :
    InvC n w0 G ops T s0 sf σ0 σ' c' (listed.setIfInBounds t.i true) (a.put (dstOf ops t) v') w' := by
  have hlt : t.i < listed.size := by rw [hi.size]; exact h.lt t (mem_of_at ht)
  have hL := getD_listed hlt
  have hpq : ∀ (p : Nat) (u : Step), T[p]? = some u → (u.i = t.i ↔ p = q) := fun p u hu => ⟨fun e => h.inj p q u t hu ht e, fun e => by subst e; rw [ht] at hu; cases hu; rfl⟩
  have hL2 : ∀ (p : Nat) (u : Step), T[p]? = some u → ((listed.setIfInBounds t.i true).getD u.i false = true ↔ listed.getD u.i false = true ∨ p = q) := fun p u hu => by
    rw [hL, ← hpq p u hu]
    split
    · rename_i e; simp [e]
    · rename_i e; simp [e]
  refine ⟨hcle, by simp [hi.size], hext, fun i j hij hj => ?_, fun p u hu hl => hbelow p u hu ((hL2 p u hu).1 hl), fun p u hu hp hk => (hL2 p u hu).2 (hlouds p u hu hp hk), hat, hhr, fun p u hu hp hk hl => ?_, by rw [put_size]; exact hi.sz, by rw [put_defers]; exact hi.df, fun tt p hp hw => ?_⟩
  · rw [hL] at hij ⊢
    split
    · rfl
    · split at hij
      · rename_i e; subst e; exact hdeps j hj
      · exact hi.closed i j hij hj
  · have hnl : ¬ (listed.getD u.i false = true ∨ p = q) := fun hh => by rw [(hL2 p u hu).2 hh] at hl; cases hl
    refine hfree p u hu hp hk ?_ fun e => hnl (.inr e)
    cases e : listed.getD u.i false with
    | false => rfl
    | true => exact absurd (.inl e) hnl
  · rw [getD_put, hi.sz]
    by_cases hd : dstOf ops t = some tt
    · -- t writes tt
      have hqp : q < p := (hw q t ht hd).2 ((hL2 q t ht).2 (.inr rfl))
      obtain ⟨o, ho, _⟩ := h.ok t (mem_of_at ht)
      have hlast : ∀ (r : Nat) (u : Step), q + 1 ≤ r → r < p → T[r]? = some u → dstOf ops u ≠ some tt := fun r u hr hrp hu hdu => by
        have h1 := (hL2 r u hu).1 ((hw r u hu hdu).1 hrp)
        rcases h1 with h1 | h1
        · obtain ⟨ou, hou, _⟩ := h.ok u (mem_of_at hu)
          have hn2 : tt ∈ named ops ou := by
            have : ou.dst = some tt := by rw [dstOf, hou, Option.bind_some] at hdu; exact hdu
            simp [named, this]
          have hor := h.tmps q r t u ou tt ht hu hou hn2 hd (by omega)
          simp only [ordered, Bool.or_eq_true] at hor
          rcases hor with hor | hor
          · have := hi.closed u.i t.i h1 hor
            rw [hn] at this; cases this
          · obtain ⟨p', u', hp', hu', e⟩ := h.before q t u.i ht hor
            have := h.inj p' r u' u hu' hu e
            omega
        · omega
      have hst := h.tmp_stays (p := q + 1) (tt := tt) (c := p) (by omega) hp hlast
      rw [(chain_at h.ch).2 q t ht] at hst
      have hst2 : (stateAt T sf p).tmps.getD tt undef = (putL t.s.tmps (dstOf ops t) t.v).getD tt undef := hst
      rw [hst2, getD_putL]
      have hlen : t.s.tmps.length = s0.tmps.length := by
        have := h.tmps_len (q := q) (by have := (List.getElem?_eq_some_iff.1 ht).1; omega)
        rwa [stateAt_of ht] at this
      rw [hlen]
      by_cases hb : tt < s0.tmps.length
      · rw [if_pos ⟨hd, hb⟩, if_pos ⟨hd, hb⟩]; exact hv
      · rw [if_neg (fun hh => hb hh.2), if_neg (fun hh => hb hh.2)]
        have : t.s.tmps.getD tt undef = undef := by simp [List.getElem?_eq_none (show t.s.tmps.length ≤ tt by omega)]
        rw [this]; exact VR.any _
    · rw [if_neg (fun hh => hd hh.1)]
      refine (hi.tm tt p hp fun r u hu hdu => ?_).mono hle
      rw [hw r u hu hdu, hL2 r u hu]
      constructor
      · rintro (hh | hh)
        · exact hh
        · subst hh; rw [ht] at hu; cases hu; exact absurd hdu hd
      · exact .inl
end
end Go.Sx

/- A region that draws its order: whatever the order, it leaves what the symbolic run leaves. No condition of its own. -/
namespace Go.Sx
open Go Go.RowKit
set_option linter.unusedVariables false
set_option linter.unusedSimpArgs false
section
variable {n : Nat → Prop} {w0 : World} {G : Nat} {E : Env} {callF : CallF} {ops : Array Oper} {T : List Step} {s0 sf : St}

theorem tmpsOf_mem {x : Nat} : ∀ {l : List Operand}, Operand.tmp x ∈ l → x ∈ tmpsOf l
  | .tmp t :: r, h => by
    simp only [tmpsOf]
    rcases List.mem_cons.1 h with h | h
    · cases h; exact List.mem_cons_self
    · exact List.mem_cons_of_mem _ (tmpsOf_mem h)
  | .const v :: r, h => by
    rcases List.mem_cons.1 h with h | h
    · cases h
    · exact (tmpsOf_mem (l := r) h : x ∈ tmpsOf r)
  | .global v :: r, h => by
    rcases List.mem_cons.1 h with h | h
    · cases h
    · exact (tmpsOf_mem (l := r) h : x ∈ tmpsOf r)
  | .func v :: r, h => by
    rcases List.mem_cons.1 h with h | h
    · cases h
    · exact (tmpsOf_mem (l := r) h : x ∈ tmpsOf r)

theorem ev_const {σ : Nat → Option Pl} {lh : List Blk} {w : World} (hr : HR n w0 G σ lh w) (a : Act) (tm : List Value) (x : Operand) (hx : ∀ t, x = .tmp t → VR σ (tm.getD t undef) (a.tmps.getD t undef)) : VR σ (evx G tm x) (a.eval x) := by
  cases x with
  | tmp t => exact hx t rfl
  | const v =>
    simp only [evx, Act.eval]
    cases hp : plain v with
    | true => exact VR.plain σ hp
    | false => exact VR.any _
  | global g =>
    simp only [evx, Act.eval]
    cases hb : Nat.blt g G with
    | true =>
      obtain ⟨p, h1, h2, h3⟩ := hr.glob g (blt_true hb)
      have := VR.ptr (off := 0) h1
      rw [h2, h3] at this
      exact this
    | false => exact VR.any _
  | func f => exact VR.func f rfl rfl (fun i x y hx => by simp at hx) fun i x y hx => by simp at hx

theorem wanted_of {σ : Nat → Option Pl} {o : Oper} {s : St} {a : Act} {g : Bool} (hg : GuardIs ops o s g) (hn : ∀ tt ∈ named ops o, VR σ (s.tmps.getD tt undef) (a.tmps.getD tt undef)) : Region.wanted o (yielded ops a.tmps) = g := by
  rcases hg with ⟨h1, rfl⟩ | ⟨j, want, t, b, h1, h2, h3, rfl⟩ | ⟨j, want, t, x, h1, h2, h3, rfl⟩
  · simp [Region.wanted, h1]
  · have hv := hn t (by simp [named, h1, h2])
    rw [h3] at hv
    have e := hv.plain1_eq rfl
    have hb : a.tmps[t]? = some (.bool b) := by
      rw [Array.getD_eq_getD_getElem?] at e
      cases hx : a.tmps[t]? with
      | none => rw [hx] at e; simp [undef] at e
      | some v => rw [hx] at e; simp at e; rw [e]
    simp only [Region.wanted, h1, yielded, h2, Option.bind_some, hb]
    cases b <;> cases want <;> rfl
  · have hv := hn t (by simp [named, h1, h2])
    rw [h3] at hv
    exact wanted_skip h1 h2 hv

theorem InvC.step (hE : EqsOK E) (hG : E.G = G) (hc : CallsOK E.P n w0 G callF) (h : Tr E callF ops T s0 sf) {σ0 σ : Nat → Option Pl} {c : Nat} {listed : Array Bool} {a : Act} {w : World} (hi : InvC n w0 G ops T s0 sf σ0 σ c listed a w) {i : Nat} (hlt : i < ops.size)
    (hn : listed.getD i false = false) (hdeps : ∀ j, Nat.testBit ((ancs ops.toList).getD i 0) j = true → listed.getD j false = true) (Q : Exit → Act → World → Prop) (K : Act → World → Prop)
    (hK : ∀ σ' c' a' w', InvC n w0 G ops T s0 sf σ0 σ' c' (listed.setIfInBounds i true) a' w' → K a' w') : wpOp E.P ops Q i K a w := by
  obtain ⟨q, t, ht, rfl⟩ := h.mem i hlt
  have hqlen : q < T.length := (List.getElem?_eq_some_iff.1 ht).1
  obtain ⟨o, ho, g, hg, hcase⟩ := h.ok t (mem_of_at ht)
  -- where it stands
  have hq : q < c ∨ (q = c ∧ t.k = 2) := by
    rcases Nat.lt_trichotomy q c with hh | hh | hh
    · exact .inl hh
    · right
      refine ⟨hh, ?_⟩
      rcases hi.at_ with e | ⟨u, hu, hk⟩
      · omega
      · rw [← hh, ht] at hu; cases hu; exact hk
    · rcases hi.at_ with e | ⟨u, hu, hk⟩
      · omega
      · have := hdeps u.i (h.loud c q u t hh hu ht hk)
        have := hi.below c u hu this
        omega
  -- what it names is as in the run
  have hnm : ∀ tt ∈ named ops o, VR σ (t.s.tmps.getD tt undef) (a.tmps.getD tt undef) := by
    intro tt htt
    have := hi.tm tt q (by omega) fun r u hu hdu => by
      rcases Nat.lt_trichotomy r q with hrq | hrq | hrq
      · refine ⟨fun _ => ?_, fun _ => hrq⟩
        have hor := h.tmps r q u t o tt hu ht ho htt hdu (by omega)
        simp only [ordered, Bool.or_eq_true] at hor
        rcases hor with hor | hor
        · exact hdeps _ hor
        · obtain ⟨p', u', hp', hu', e⟩ := h.before r u t.i hu hor
          have := h.inj p' q u' t hu' ht e
          omega
      · subst hrq
        rw [ht] at hu; cases hu
        exact ⟨fun hh => by omega, fun hh => by rw [hn] at hh; cases hh⟩
      · refine ⟨fun hh => by omega, fun hl => ?_⟩
        have hor := h.tmps r q u t o tt hu ht ho htt hdu (by omega)
        simp only [ordered, Bool.or_eq_true] at hor
        rcases hor with hor | hor
        · obtain ⟨p', u', hp', hu', e⟩ := h.before q t u.i ht hor
          have := h.inj p' r u' u hu' hu e
          omega
        · have := hi.closed u.i t.i hl hor
          rw [hn] at this; cases this
    rwa [stateAt_of ht] at this
  have hop : ∀ x ∈ o.op.operands, VR σ (evx E.G t.s.tmps x) (a.eval x) := fun x hx => by
    rw [hG]
    exact ev_const hi.hr a _ x fun tt e => hnm tt (by
      subst e
      simp only [named, List.mem_append]
      exact .inl (.inr (tmpsOf_mem (by simpa using hx))))
  have hdst : dstOf ops t = o.dst := by rw [dstOf, ho, Option.bind_some]
  have hw := wanted_of hg hnm
  unfold wpOp
  simp only [ho]
  -- the quiet ones
  have quiet : ∀ {σ' : Nat → Option Pl} {v' : Value} {w' : World}, t.k ≠ 2 → Ext s0.lh.length σ0 σ' → Le σ σ' → VR σ' t.v v' → HR n w0 G σ' (stateAt T sf c).lh w' →
      (∀ (p : Nat) (u : Step), T[p]? = some u → p < c → u.k = 1 → listed.getD u.i false = false → p ≠ q → σ' u.s.lh.length = none) → K (a.put o.dst v') w' := by
    intro σ' v' w' hk2 hext hle hv hhr hfree
    have hqc : q < c := hq.elim id fun hh => absurd hh.2 hk2
    rw [← hdst]
    exact hK σ' c _ _ (hi.next h ht hn hdeps hext hle hv hi.cle (fun p u hu hh => hh.elim (hi.below p u hu) fun e => by omega) (fun p u hu hp hk => .inl (hi.louds p u hu hp hk)) hi.at_ hhr hfree)
  rcases hcase with ⟨rfl, hk, hv, hl⟩ | ⟨rfl, hk, hids, hidl, hv, hl⟩ | ⟨rfl, hk, hids, r, hr, hv, hl⟩ | ⟨rfl, hk, hkind, r, hr, hv, hl⟩
  · rw [hw, if_neg (by simp)]
    exact quiet (by rw [hk]; decide) hi.ext (Le.refl _) (by rw [hv]; exact VR.skip) hi.hr fun p u hu hp hk' hl' _ => hi.free p u hu hp hk' hl'
  · rw [hw, if_pos rfl]
    left
    have hqc : q < c := hq.elim id fun hh => absurd hh.2 (by rw [hk]; decide)
    have hsame : ∀ k ∈ readsOf (evx E.G t.s.tmps) o.op, t.s.lh.getD k .dead = (stateAt T sf c).lh.getD k .dead := fun k hkr => by
      have := h.stays (p := q) (k := k) (c := c) (by rw [stateAt_of ht]; exact hidl k (by rw [hids]; exact hkr)) (by omega) hi.cle fun r u hr hrc hu hk2 => by
        rcases Nat.lt_or_ge q r with hqr | hqr
        · have hcov := List.pairwise_iff_getElem.1 h.cov q r hqlen (List.getElem?_eq_some_iff.1 hu).1 hqr
          rw [(List.getElem?_eq_some_iff.1 ht).2, (List.getElem?_eq_some_iff.1 hu).2] at hcov
          refine hcov (by rw [hk]; decide) hk2 ?_ k (by rw [hids]; exact hkr)
          cases hb : Nat.testBit ((ancs ops.toList).getD u.i 0) t.i with
          | false => rfl
          | true =>
            have := hi.closed u.i t.i (hi.louds r u hu hrc hk2) hb
            rw [hn] at this; cases this
        · obtain rfl : r = q := by omega
          rw [ht] at hu; cases hu
          rw [hk] at hk2; cases hk2
      rw [this, stateAt_of ht]
    rw [valM_congr hsame] at hv
    obtain ⟨v', h1, h2⟩ := valM_sound hE hi.hr hop hv
    unfold Oper.wp
    rw [h1, Oper.upon_value]
    exact quiet (by rw [hk]; decide) hi.ext (Le.refl _) h2 hi.hr fun p u hu hp hk' hl' _ => hi.free p u hu hp hk' hl'
  · rw [hw, if_pos rfl]
    left
    have hqc : q < c := hq.elim id fun hh => absurd hh.2 (by rw [hk]; decide)
    obtain ⟨v', ob, h1, p, hp, h2⟩ := newM_sound hi.hr.size hop hr
    have hnext : (stateAt T sf (q + 1)).lh = t.s.lh ++ [r.2] := by rw [(chain_at h.ch).2 q t ht]; exact hl
    have hal : t.s.lh.length < (stateAt T sf (q + 1)).lh.length := by rw [hnext]; simp
    have hac : t.s.lh.length < (stateAt T sf c).lh.length := Nat.lt_of_lt_of_le hal (h.len_mono (by omega) hi.cle)
    have hent : (stateAt T sf c).lh.getD t.s.lh.length .dead = r.2 := by
      have := h.stays (p := q + 1) (k := t.s.lh.length) (c := c) hal (by omega) hi.cle fun r' u hr' hrc hu hk2 => by
        have hcov := List.pairwise_iff_getElem.1 h.cov q r' hqlen (List.getElem?_eq_some_iff.1 hu).1 (by omega)
        rw [(List.getElem?_eq_some_iff.1 ht).2, (List.getElem?_eq_some_iff.1 hu).2] at hcov
        refine hcov (by rw [hk]; decide) hk2 ?_ _ (by rw [hids]; simp)
        cases hb : Nat.testBit ((ancs ops.toList).getD u.i 0) t.i with
        | false => rfl
        | true =>
          have := hi.closed u.i t.i (hi.louds r' u hu hrc hk2) hb
          rw [hn] at this; cases this
      rw [this, hnext, getD_append_new]
    have hfree := hi.free q t ht hqc hk hn
    obtain ⟨h3, h4⟩ := h2 (upd σ t.s.lh.length p) t.s.lh.length (le_upd_none hfree p) (upd_same _ _ _)
    unfold Oper.wp
    rw [h1, Oper.upon_value]
    have hs0 : s0.lh.length ≤ t.s.lh.length := by
      have := h.len_mono (Nat.zero_le q) (by omega)
      rwa [(chain_at h.ch).1, stateAt_of ht] at this
    refine quiet (by rw [hk]; decide) ⟨hi.ext.1.trans (le_upd_none hfree p), fun k hk0 => by rw [upd_other _ _ (by omega)]; exact hi.ext.2 k hk0⟩ (le_upd_none hfree p) (by rw [hv]; exact h3)
      (hi.hr.fill hac hfree p ob hp (by rw [hent]; exact h4)) fun p' u hu hp' hk' hl' hne => ?_
    rw [upd_other]
    · exact hi.free p' u hu hp' hk' hl'
    · have hup : (stateAt T sf (p' + 1)).lh.length = u.s.lh.length + 1 := by
        rw [(chain_at h.ch).2 p' u hu]
        obtain ⟨o', ho', g', hg', hcase'⟩ := h.ok u (mem_of_at hu)
        show u.lh'.length = _
        rcases hcase' with ⟨_, e, _⟩ | ⟨_, e, _⟩ | ⟨_, _, _, r', _, _, e⟩ | ⟨_, e, _⟩
        · rw [hk'] at e; cases e
        · rw [hk'] at e; cases e
        · rw [e]; simp
        · rw [hk'] at e; cases e
      rcases Nat.lt_or_ge p' q with hpq | hpq
      · have := h.len_mono (show p' + 1 ≤ q by omega) (by omega)
        rw [stateAt_of ht] at this
        omega
      · have := h.len_mono (show q + 1 ≤ p' by omega) (by have := (List.getElem?_eq_some_iff.1 hu).1; omega)
        rw [stateAt_of hu] at this
        omega
  · rw [hw, if_pos rfl]
    left
    obtain rfl : q = c := by
      rcases hq with hh | ⟨hh, _⟩
      · have := hi.louds q t ht hh hk
        rw [hn] at this; cases this
      · exact hh
    have hst := stateAt_of (sf := sf) ht
    have hhr : HR n w0 G σ t.s.lh w := by have := hi.hr; rwa [hst] at this
    refine loudM_sound hc (hhr.prot t.U) hop hr fun v' w' hgood => ?_
    obtain ⟨σ', hext, hvr, hr'⟩ := hgood
    rw [protL_length] at hext
    have hkp := loudM_keeps hc hr
    have hr2 := hr'.unprot hkp (h.ub t (mem_of_at ht) hk)
    obtain ⟨c', hc1, hc2, hc3, hc4⟩ := first_loud T (q + 1) (by omega)
    obtain ⟨N, hN⟩ := h.quiet hc1 hc2 hc3
    have hnext : (stateAt T sf (q + 1)).lh = unprotL t.U t.s.lh r.2 := by rw [(chain_at h.ch).2 q t ht]; exact hl
    have hs0 : s0.lh.length ≤ t.s.lh.length := by
      have := h.len_mono (Nat.zero_le q) (by omega)
      rwa [(chain_at h.ch).1, hst] at this
    rw [← hdst]
    refine hK σ' c' _ _ (hi.next h ht hn hdeps (hi.ext.trans hext hs0) hext.1 (by rw [hv]; exact hvr) hc2 (fun p u hu hh => ?_) (fun p u hu hp hk' => ?_) hc4 (by rw [hN, hnext]; exact hr2.extend N) fun p u hu hp hk' hl' hne => ?_)
    · rcases hh with hh | hh
      · have := hi.below p u hu hh; omega
      · omega
    · rcases Nat.lt_trichotomy p q with hh | hh | hh
      · exact .inl (hi.louds p u hu hh hk')
      · exact .inr hh
      · exact absurd hk' (hc3 p u (by omega) hp hu)
    · rcases Nat.lt_or_ge p q with hpq | hpq
      · have hlt2 : u.s.lh.length < t.s.lh.length := by
          have h1 : (stateAt T sf (p + 1)).lh.length = u.s.lh.length + 1 := by
            rw [(chain_at h.ch).2 p u hu]
            obtain ⟨o', ho', g', hg', hcase'⟩ := h.ok u (mem_of_at hu)
            show u.lh'.length = _
            rcases hcase' with ⟨_, e, _⟩ | ⟨_, e, _⟩ | ⟨_, _, _, r', _, _, e⟩ | ⟨_, e, _⟩
            · rw [hk'] at e; cases e
            · rw [hk'] at e; cases e
            · rw [e]; simp
            · rw [hk'] at e; cases e
          have := h.len_mono (show p + 1 ≤ q by omega) (by omega)
          rw [hst] at this
          omega
        rw [hext.2 _ hlt2]
        exact hi.free p u hu hpq hk' hl'
      · have := h.len_mono (show q + 1 ≤ p by omega) (by have := (List.getElem?_eq_some_iff.1 hu).1; omega)
        rw [stateAt_of hu, hnext] at this
        cases e : σ' u.s.lh.length with
        | none => rfl
        | some p0 => have := hr2.dom _ _ e; omega

theorem filter_less {p q : Nat → Bool} : ∀ {l : List Nat} {x : Nat}, x ∈ l → p x = true → q x = false → (∀ y, q y = true → p y = true) → (l.filter q).length < (l.filter p).length
  | y :: l, x, hx, hp, hq, hpq => by
    have hle : ∀ l : List Nat, (l.filter q).length ≤ (l.filter p).length := by
      intro l
      induction l with
      | nil => exact Nat.le_refl _
      | cons z l ih =>
        simp only [List.filter_cons]
        cases hz : q z with
        | true => rw [hpq z hz]; simpa using ih
        | false => cases p z <;> simp <;> omega
    rcases List.mem_cons.1 hx with rfl | hx
    · simp only [List.filter_cons, hp, hq]
      have := hle l
      simp; omega
    · have ih := filter_less hx hp hq hpq
      simp only [List.filter_cons]
      cases hz : q y with
      | true => rw [hpq y hz]; simpa using ih
      | false => cases p y <;> simp <;> omega

theorem back_ready (hb : backOK ops.toList = true) {listed : Array Bool} (hsz : listed.size = ops.size) (hr : Region.ready .any ops listed = []) : ∀ i, i < ops.size → listed.getD i false = true := by
  intro i
  induction i using Nat.strongRecOn with
  | _ i ih =>
    intro hi
    cases hl : listed.getD i false with
    | true => rfl
    | false =>
      exfalso
      have hmem : i ∈ Region.ready .any ops listed := by
        simp only [Region.ready, List.mem_filter, List.mem_range, Bool.and_eq_true, Bool.not_eq_true']
        refine ⟨hi, ?_, ?_⟩
        · rw [Array.getD_eq_getD_getElem?] at hl ⊢
          rw [Array.getElem?_eq_getElem (by omega)] at hl ⊢
          simpa using hl
        · rw [Array.getElem?_eq_getElem hi]
          simp only [Option.map_some, Option.getD_some, Array.all_eq_true]
          intro j hj
          simp only [Bool.or_eq_true, Bool.not_eq_true']
          cases hbd : Region.binds .any (ops[i].after[j]) with
          | false => exact .inl rfl
          | true =>
            right
            unfold backOK at hb
            rw [List.all_eq_true] at hb
            have h1 := hb (ops[i], i) (by rw [List.mem_zipIdx_iff_getElem?]; simp [hi])
            simp only at h1
            rw [List.all_eq_true] at h1
            have h2 := h1 (ops[i].after[j]) (by simp)
            rw [hbd] at h2
            simp at h2
            exact ih _ h2 (by omega)
      rw [hr] at hmem; cases hmem

theorem InvC.run (hE : EqsOK E) (hG : E.G = G) (hc : CallsOK E.P n w0 G callF) (hb : backOK ops.toList = true) (h : Tr E callF ops T s0 sf) {σ0 : Nat → Option Pl} {Q : Exit → Act → World → Prop}
    (hfin : ∀ σ' a' w', Ext s0.lh.length σ0 σ' → Rel n w0 G σ' sf a' w' → Q .normal a' w') : ∀ (fuel : Nat) (listed : Array Bool) (a : Act) (w : World) (σ : Nat → Option Pl) (c : Nat), InvC n w0 G ops T s0 sf σ0 σ c listed a w →
    ((List.range ops.size).filter fun i => !listed.getD i false).length ≤ fuel → wpAny E.P .any ops Q fuel listed a w := by
  have fin : ∀ (listed : Array Bool) (a : Act) (w : World) (σ : Nat → Option Pl) (c : Nat), InvC n w0 G ops T s0 sf σ0 σ c listed a w → (∀ i, i < ops.size → listed.getD i false = true) → Q .normal a w := by
    intro listed a w σ c hi hall
    have hce : c = T.length := by
      rcases hi.at_ with e | ⟨u, hu, hk⟩
      · exact e
      · have := hi.below c u hu (hall _ (h.lt u (mem_of_at hu)))
        omega
    have hhr := hi.hr
    rw [hce, stateAt_end] at hhr
    have hlen := h.tmps_len (Nat.le_refl T.length)
    rw [stateAt_end] at hlen
    refine hfin σ a w hi.ext ⟨by rw [hi.sz, hlen], fun t => ?_, hi.df, hhr⟩
    have := hi.tm t T.length (Nat.le_refl _) fun r u hu _ => ⟨fun _ => hall _ (h.lt u (mem_of_at hu)), fun _ => (List.getElem?_eq_some_iff.1 hu).1⟩
    rwa [stateAt_end] at this
  intro fuel
  induction fuel with
  | zero =>
    intro listed a w σ c hi hf
    have hall : ∀ i, i < ops.size → listed.getD i false = true := by
      intro i hlt
      have : (List.range ops.size).filter (fun i => !listed.getD i false) = [] := List.eq_nil_of_length_eq_zero (by omega)
      rw [List.filter_eq_nil_iff] at this
      have := this i (List.mem_range.2 hlt)
      simpa using this
    refine ⟨?_, fin listed a w σ c hi hall⟩
    rw [Region.ready, List.filter_eq_nil_iff]
    intro i hmem
    have hlt := List.mem_range.1 hmem
    have := hall i hlt
    rw [Array.getD_eq_getD_getElem?, Array.getElem?_eq_getElem (by rw [hi.size]; exact hlt)] at this
    have h2 : listed.getD i true = true := by
      rw [Array.getD_eq_getD_getElem?, Array.getElem?_eq_getElem (by rw [hi.size]; exact hlt)]; simpa using this
    rw [h2]; simp
  | succ fuel ih =>
    intro listed a w σ c hi hf
    refine ⟨fun hr => fin listed a w σ c hi (back_ready hb hi.size hr), fun i hmem => ?_⟩
    simp only [Region.ready, List.mem_filter, List.mem_range, Bool.and_eq_true, Bool.not_eq_true'] at hmem
    obtain ⟨hlt, hnl, hedges⟩ := hmem
    have hls : i < listed.size := by rw [hi.size]; exact hlt
    have hn : listed.getD i false = false := by
      rw [Array.getD_eq_getD_getElem?, Array.getElem?_eq_getElem hls] at hnl ⊢; simpa using hnl
    refine hi.step hE hG hc h hlt hn (fun j hj => ?_) Q _ fun σ' c' a' w' hi' => ih _ a' w' σ' c' hi' ?_
    · have ho : ops.toList[i]? = some ops[i] := by simp [hlt]
      obtain ⟨e, he, hbd, hcase⟩ := anc_edge ho hj
      rw [Array.getElem?_eq_getElem hlt] at hedges
      simp only [Option.map_some, Option.getD_some, Array.all_eq_true] at hedges
      obtain ⟨k, hk, rfl⟩ := List.mem_iff_getElem.1 he
      have := hedges k (by simpa using hk)
      rw [Array.getElem_toList] at hbd hcase
      rw [hbd] at this
      simp only [Bool.not_true, Bool.false_or] at this
      rcases hcase with rfl | hcase
      · exact this
      · exact hi.closed _ _ this hcase
    · have hlt2 := filter_less (l := List.range ops.size) (x := i) (p := fun i => !listed.getD i false) (q := fun j => !(listed.setIfInBounds i true).getD j false) (List.mem_range.2 hlt) (by simp only [hn]; rfl) (by simp only [getD_listed hls, if_true]; rfl) (fun y hy => by
        simp only [getD_listed hls] at hy
        split at hy
        · cases hy
        · exact hy)
      omega

/-- A region that draws its order. -/
theorem drawM_sound (hE : EqsOK E) (hG : E.G = G) (hm : E.P.follows .mixedOrders = true) (hc : CallsOK E.P n w0 G callF) {id : Nat} {s s' : St} (h : (drawM E callF ops s).get = some s') :
    Keeps s.lh s'.lh ∧ ∀ σ a w (Q : Exit → Act → World → Prop), Rel n w0 G σ s a w → (∀ σ' a' w', Ext s.lh.length σ σ' → Rel n w0 G σ' s' a' w' → Q .normal a' w') → (Code.region id ops true).wp E.P Q a w := by
  unfold drawM at h
  rcases M.get_br_some h with ⟨hd, h⟩ | ⟨_, h⟩
  · obtain ⟨T, hT⟩ := Tr.of_ok hc hd h
    have hb : backOK ops.toList = true := by
      simp only [drawOK, Bool.and_eq_true] at hd
      exact hd.1.1.1.1
    refine ⟨?_, fun σ a w Q hrel hfin => ?_⟩
    · have key : ∀ q, q ≤ T.length → Keeps s.lh (stateAt T s' q).lh := by
        intro q
        induction q with
        | zero => intro _; rw [(chain_at hT.ch).1]; exact Keeps.refl _
        | succ q ih =>
          intro hq
          have ht : T[q]? = some T[q] := List.getElem?_eq_getElem (by omega)
          have h1 := ih (by omega)
          rw [stateAt_of ht] at h1
          rw [(chain_at hT.ch).2 q _ ht]
          exact h1.trans (hT.kk _ (mem_of_at ht))
      have := key T.length (Nat.le_refl _)
      rwa [stateAt_end] at this
    · obtain ⟨c, hi⟩ := InvC.start hT hrel
      refine wp_region_any hm ?_
      have hi' : InvC n w0 G ops T s s' σ σ c (Array.replicate ops.size false) a w.drew := { hi with hr := hi.hr.drew }
      exact InvC.run hE hG hc hb hT hfin ops.size _ a _ σ c hi' (by
        have := List.length_filter_le (fun i => !(Array.replicate ops.size false).getD i false) (List.range ops.size)
        simpa using this)
  · cases h
end
end Go.Sx
