/- A region that draws its order: what its static look gives. No condition of its own. -/
import Derived.Test.YtjgifhegfadohaaDoorSxJ
namespace Go.Sx
open Go Go.RowKit
set_option linter.unusedVariables false

/-! ### What each operation waits for -/
def ancOf (acc : List Nat) (o : Oper) : Nat := o.after.toList.foldl (fun s e => cond (Region.binds .any e) (s ||| 2 ^ e.on ||| acc.getD e.on 0) s) 0
theorem foldl_bits (acc : List Nat) (j : Nat) : ∀ (l : List Edge) (s : Nat), Nat.testBit (l.foldl (fun s e => cond (Region.binds .any e) (s ||| 2 ^ e.on ||| acc.getD e.on 0) s) s) j = true →
    Nat.testBit s j = true ∨ ∃ e ∈ l, Region.binds .any e = true ∧ (j = e.on ∨ Nat.testBit (acc.getD e.on 0) j = true)
  | [], s, h => .inl h
  | e :: l, s, h => by
    rw [List.foldl_cons] at h
    rcases foldl_bits acc j l _ h with h | ⟨e', he', hb⟩
    · cases hb : Region.binds .any e with
      | false => rw [hb] at h; exact .inl h
      | true =>
        rw [hb] at h
        simp only [cond_true, Nat.testBit_or, Bool.or_eq_true] at h
        rcases h with (h | h) | h
        · exact .inl h
        · rw [Nat.testBit_two_pow] at h
          exact .inr ⟨e, List.mem_cons_self, hb, .inl (by simpa using (of_decide_eq_true h).symm)⟩
        · exact .inr ⟨e, List.mem_cons_self, hb, .inr h⟩
    · exact .inr ⟨e', List.mem_cons_of_mem _ he', hb⟩
theorem ancs_go : ∀ (ops : List Oper) (acc : List Nat), let L := ops.foldl (fun acc o => acc ++ [ancOf acc o]) acc
    L.length = acc.length + ops.length ∧ (∀ i, i < acc.length → L[i]? = acc[i]?) ∧ ∀ q o, ops[q]? = some o → L[acc.length + q]? = some (ancOf (L.take (acc.length + q)) o)
  | [], acc => by simp
  | o :: ops, acc => by
    have ih := ancs_go ops (acc ++ [ancOf acc o])
    simp only [List.foldl_cons] at ih ⊢
    obtain ⟨h1, h2, h3⟩ := ih
    refine ⟨by rw [h1]; simp; omega, fun i hi => ?_, fun q o' hq => ?_⟩
    · rw [h2 i (by simp; omega), List.getElem?_append_left hi]
    · cases q with
      | zero =>
        simp at hq; subst hq
        rw [Nat.add_zero, h2 acc.length (by simp)]
        rw [List.getElem?_append_right (Nat.le_refl _)]
        simp only [Nat.sub_self, List.getElem?_cons_zero, Option.some.injEq]
        congr 1
        apply List.ext_getElem?
        intro i
        rw [List.getElem?_take]
        split
        · rename_i hi
          rw [h2 i (by simp; omega), List.getElem?_append_left hi]
        · rename_i hi
          rw [List.getElem?_eq_none (by omega)]
      | succ q =>
        have := h3 q o' (by simpa using hq)
        simp only [List.length_append, List.length_cons, List.length_nil, Nat.zero_add] at this
        rw [show acc.length + (q + 1) = acc.length + 1 + q by omega]
        exact this
theorem ancs_eq (ops : List Oper) : ancs ops = ops.foldl (fun acc o => acc ++ [ancOf acc o]) [] := rfl
/-- What an operation waits for: one that stands at an edge of it, or what that one waits for. -/
theorem anc_edge {ops : List Oper} {i j : Nat} {o : Oper} (ho : ops[i]? = some o) (h : Nat.testBit ((ancs ops).getD i 0) j = true) :
    ∃ e ∈ o.after.toList, Region.binds .any e = true ∧ (j = e.on ∨ Nat.testBit ((ancs ops).getD e.on 0) j = true) := by
  obtain ⟨_, _, h3⟩ := ancs_go ops []
  have hi := h3 i o ho
  simp only [List.length_nil, Nat.zero_add, ← ancs_eq] at hi
  rw [List.getD_eq_getElem?_getD, hi, Option.getD_some] at h
  rcases foldl_bits _ j _ 0 h with h | ⟨e, he, hb, h⟩
  · simp at h
  · refine ⟨e, he, hb, ?_⟩
    rcases h with h | h
    · exact .inl h
    · right
      rw [List.getD_eq_getElem?_getD, List.getElem?_take] at h
      split at h
      · rw [List.getD_eq_getElem?_getD]; exact h
      · simp at h

/-! ### The order -/
theorem ordOK_spec {anc kinds : List Nat} : ∀ (l : List Nat) (m : Nat) (pre : List Nat), (∀ j, Nat.testBit m j = true ↔ j ∈ pre) → ordOK anc kinds l m = true →
    (∀ q i, l[q]? = some i → ∀ j, Nat.testBit (anc.getD i 0) j = true → j ∈ pre ++ l.take q) ∧
    (∀ q i, l[q]? = some i → ∀ j, j ∈ pre ++ l.take q → kinds[j]? = some 2 → Nat.testBit (anc.getD i 0) j = true) ∧
    (∀ q i, l[q]? = some i → i ∉ pre ++ l.take q)
  | [], m, pre, _, _ => ⟨fun q i h => by simp at h, fun q i h => by simp at h, fun q i h => by simp at h⟩
  | x :: l, m, pre, hm, h => by
    simp only [ordOK, Bool.and_eq_true] at h
    obtain ⟨⟨hr, hk⟩, ho⟩ := h
    have hm' : ∀ j, Nat.testBit (m ||| 2 ^ x) j = true ↔ j ∈ pre ++ [x] := by
      intro j
      rw [Nat.testBit_or, Bool.or_eq_true, hm, Nat.testBit_two_pow, List.mem_append, List.mem_singleton]
      simp [eq_comm]
    obtain ⟨i1, i2, i3⟩ := ordOK_spec l _ (pre ++ [x]) hm' ho
    simp only [readyIn, Bool.and_eq_true, Bool.not_eq_true'] at hr
    obtain ⟨hn, ha⟩ := hr
    have ha' : anc.getD x 0 &&& m = anc.getD x 0 := beq_true ha
    have e : ∀ q, pre ++ (x :: l).take (q + 1) = pre ++ [x] ++ l.take q := fun q => by simp
    refine ⟨fun q i hq j hj => ?_, fun q i hq j hj hkj => ?_, fun q i hq => ?_⟩
    · cases q with
      | zero =>
        simp at hq; subst hq
        rw [← ha', Nat.testBit_and, Bool.and_eq_true] at hj
        simpa using (hm j).1 hj.2
      | succ q => rw [e]; exact i1 q i (by simpa using hq) j hj
    · cases q with
      | zero =>
        simp at hq hj; subst hq
        rw [List.all_eq_true] at hk
        have := hk (2, j) (by rw [List.mem_zipIdx_iff_getElem?]; exact hkj)
        simp [(hm j).2 hj] at this
        exact this
      | succ q => rw [e] at hj; exact i2 q i (by simpa using hq) j hj hkj
    · cases q with
      | zero =>
        simp at hq; subst hq
        simp only [List.take_zero, List.append_nil]
        intro hx
        rw [(hm x).2 hx] at hn; cases hn
      | succ q => rw [e]; exact i3 q i (by simpa using hq)

/-! ### Protected entries -/
theorem protL_length (U : List Nat) (lh : List Blk) : (protL U lh).length = lh.length := by
  induction U generalizing lh with
  | nil => rfl
  | cons k U ih => rw [protL, List.foldl_cons]; exact (ih _).trans (by simp)
theorem prot_prot (b : Blk) : b.prot.prot = b.prot := by cases b <;> rfl
theorem prot_wrt (b : Blk) : b.prot.wrt = false := by cases b <;> rfl
theorem prot_owned (b : Blk) : b.prot.owned = b.owned := by cases b <;> rfl
theorem prot_alive (b : Blk) : b.prot.alive = b.alive := by cases b <;> rfl
theorem prot_same {b : Blk} (h : b.wrt = false) : b.prot = b := by cases b <;> first | rfl | (simp only [Blk.wrt] at h; subst h; rfl)
theorem BR_prot {n : Nat} {σ : Nat → Option Pl} {b : Blk} {p : Pl} {w : World} : BR n σ b.prot p w ↔ BR n σ b p w := by
  cases b <;> exact Iff.rfl
theorem protL_getD (U : List Nat) (lh : List Blk) (k : Nat) : (protL U lh).getD k .dead = if k ∈ U then (lh.getD k .dead).prot else lh.getD k .dead := by
  induction U generalizing lh with
  | nil => rfl
  | cons x U ih =>
    rw [protL, List.foldl_cons]
    show (protL U _).getD k .dead = _
    rw [ih]
    by_cases e : k = x
    · subst e
      rw [if_pos (show k ∈ k :: U from List.mem_cons_self)]
      by_cases hk : k < lh.length
      · rw [getD_set_same _ _ _ hk, prot_prot]; split <;> rfl
      · have : lh.getD k .dead = .dead := by simp [List.getElem?_eq_none (Nat.le_of_not_lt hk)]
        have h2 : lh.set k (lh.getD k .dead).prot = lh := List.set_eq_of_length_le (by omega)
        rw [h2, this]; split <;> rfl
    · rw [getD_set_other _ _ e]
      by_cases hu : k ∈ U
      · rw [if_pos hu, if_pos (List.mem_cons_of_mem _ hu)]
      · rw [if_neg hu, if_neg (by simp [e, hu])]
theorem unprotL_length (U : List Nat) (orig lh : List Blk) : (unprotL U orig lh).length = lh.length := by
  induction U generalizing lh with
  | nil => rfl
  | cons k U ih => rw [unprotL, List.foldl_cons]; exact (ih _).trans (by simp)
theorem unprotL_getD (U : List Nat) (orig lh : List Blk) (k : Nat) (hk : k < lh.length) : (unprotL U orig lh).getD k .dead = if k ∈ U then orig.getD k .dead else lh.getD k .dead := by
  induction U generalizing lh with
  | nil => rfl
  | cons x U ih =>
    rw [unprotL, List.foldl_cons]
    show (unprotL U orig _).getD k .dead = _
    rw [ih _ (by simpa using hk)]
    by_cases e : k = x
    · subst e
      rw [if_pos (show k ∈ k :: U from List.mem_cons_self), getD_set_same _ _ _ hk]; split <;> rfl
    · rw [getD_set_other _ _ e]
      by_cases hu : k ∈ U
      · rw [if_pos hu, if_pos (List.mem_cons_of_mem _ hu)]
      · rw [if_neg hu, if_neg (by simp [e, hu])]
/-- Entries that say the same of the world. -/
theorem HR.swap {n : Nat} {w0 : World} {G : Nat} {σ : Nat → Option Pl} {lh lh2 : List Blk} {w : World} (h : HR n w0 G σ lh w) (hl : lh2.length = lh.length)
    (he : ∀ k, k < lh.length → (lh2.getD k .dead).owned = (lh.getD k .dead).owned ∧ (lh2.getD k .dead).alive = (lh.getD k .dead).alive ∧ ∀ p, BR n σ (lh.getD k .dead) p w → BR n σ (lh2.getD k .dead) p w) : HR n w0 G σ lh2 w := by
  refine ⟨h.hn, h.below, h.glob, fun k p hk => by rw [hl]; exact h.dom k p hk, h.lt, fun k k' p p' hk hk' ho ha hb => ?_, fun k p hk => ?_⟩
  · rw [(he k (h.dom k p hk)).1] at ho
    rw [(he k' (h.dom k' p' hk')).2.1] at ha
    exact h.inj k k' p p' hk hk' ho ha hb
  · exact (he k (h.dom k p hk)).2.2 p (h.blk k p hk)
theorem HR.prot {n : Nat} {w0 : World} {G : Nat} {σ : Nat → Option Pl} {lh : List Blk} {w : World} (h : HR n w0 G σ lh w) (U : List Nat) : HR n w0 G σ (protL U lh) w :=
  h.swap (protL_length U lh) fun k hk => by
    rw [protL_getD]
    split
    · exact ⟨prot_owned _, prot_alive _, fun p hp => BR_prot.2 hp⟩
    · exact ⟨rfl, rfl, fun p hp => hp⟩
theorem keeps_unprot {U : List Nat} {lh lh' : List Blk} (h : Keeps (protL U lh) lh') : Keeps lh (unprotL U lh lh') := by
  have hl := h.1
  rw [protL_length] at hl
  refine ⟨by rw [unprotL_length]; exact hl, fun k hk hw => ?_⟩
  rw [unprotL_getD _ _ _ _ (by omega)]
  split
  · rfl
  · rename_i hu
    have := h.2 k (by rw [protL_length]; exact hk) (by rw [protL_getD, if_neg hu]; exact hw)
    rw [this, protL_getD, if_neg hu]
theorem HR.unprot {n : Nat} {w0 : World} {G : Nat} {σ : Nat → Option Pl} {U : List Nat} {lh lh' : List Blk} {w : World} (h : HR n w0 G σ lh' w) (hk : Keeps (protL U lh) lh') (hU : ∀ k ∈ U, k < lh.length) : HR n w0 G σ (unprotL U lh lh') w :=
  h.swap (unprotL_length _ _ _) fun k hkl => by
    rw [unprotL_getD _ _ _ _ hkl]
    split
    · rename_i hu
      have := hk.2 k (by rw [protL_length]; exact hU k hu) (by rw [protL_getD, if_pos hu]; exact prot_wrt _)
      rw [this, protL_getD, if_pos hu]
      exact ⟨(prot_owned _).symm, (prot_alive _).symm, fun p hp => BR_prot.1 hp⟩
    · exact ⟨rfl, rfl, fun p hp => hp⟩

/-! ### Values hang on what they read alone -/
theorem loadM_congr {P : Program} {t : TypeId} {a : Value} {lh lh2 : List Blk} (h : ∀ k ∈ idOf a, lh.getD k .dead = lh2.getD k .dead) : loadM P t a lh = loadM P t a lh2 := by
  unfold loadM
  split
  · rename_i k off hag
    rw [h k (by simp [idOf])]
  · rename_i k i j hag
    rw [h k (by simp [idOf])]
  · rename_i m k off hag
    rw [h k (by simp [idOf])]
  · rename_i m k i j hag
    rw [h k (by simp [idOf])]
  · rfl
theorem indexAddrM_congr {P : Program} {t : TypeId} {x ix : Value} {lh lh2 : List Blk} (h : ∀ k ∈ idOf x, lh.getD k .dead = lh2.getD k .dead) : indexAddrM P t x ix lh = indexAddrM P t x ix lh2 := by
  unfold indexAddrM
  split
  · split
    · rfl
    · rename_i e k off len cap hu
      rw [h k (by simp [idOf])]
    · rename_i e k r len cap hu
      rw [h k (by simp [idOf])]
    · rename_i e k len cap hu
      rw [h k (by simp [idOf])]
    · rfl
  · rfl
theorem valM_congr {E : Env} {ev : Operand → Value} {lh lh2 : List Blk} {op : Op} (h : ∀ k ∈ readsOf ev op, lh.getD k .dead = lh2.getD k .dead) : valM E ev lh op = valM E ev lh2 op := by
  cases op <;> try rfl
  case load t a => exact loadM_congr h
  case indexAddr t x ix => exact indexAddrM_congr h
  case makeFunc fn a c => cases fn <;> rfl
end Go.Sx
