/- The operations of the symbolic run are the model's: slices, operators, numbers. No condition of its own. -/
import Derived.Test.YtjgifhegfadohaaDoorSxF
import Derived.Laws.StructEq
namespace Go.Sx
open Go Go.RowKit
set_option linter.unusedVariables false
section
variable {P : Program} {n : Nat} {w0 : World} {G : Nat} {σ : Nat → Option Pl} {lh : List Blk} {w : World}

theorem sliceM_sound {t : TypeId} {x x' v : Value} {lo lo' hi hi' mx mx' : Option Value} (hx : VR σ x x') (h1 : VRO σ lo lo') (h2 : VRO σ hi hi') (h3 : VRO σ mx mx') (h : (sliceM P t x lo hi mx).get = some v) (w : World) :
    ∃ v', (Instr.sliceAt t x' lo' hi' mx').run P w = .ok v' w ∧ VR σ v v' := by
  unfold sliceM at h
  split at h
  · rename_i m e k off hu
    obtain ⟨p, hk, rfl⟩ := hx.ptr_inv
    split at h
    · rename_i inf hi0
      rcases M.get_br_some h with ⟨_, hv⟩ | ⟨hb, hv⟩
      · cases hv
      · simp at hv; subst hv
        cases lo' <;> simp only [VRO] at h1
        cases hi' <;> simp only [VRO] at h2
        cases mx' <;> simp only [VRO] at h3
        refine ⟨_, ?_, VR.slice hk⟩
        simp [Instr.sliceAt, run_underlying hu, Instr.sureAddr, Instr.sliceBounds, run_sizeOf hi0, Addr.add_zero']
    · cases h
  · rename_i e k off len cap hu
    obtain ⟨p, hk, rfl⟩ := hx.slice_inv
    split at h
    · rename_i inf hi0
      obtain ⟨r, hr, h⟩ := M.get_bind_some h
      have hb := boundsM_sound (P := P) true h1 h2 h3 hr w
      have run : (Instr.sliceAt t (.slice (some ⟨p.b, p.o + off, none⟩) len cap) lo' hi' mx').run P w = .ok (.slice (if r.2.2 = r.1 then some ⟨p.b, p.o + off, none⟩ else some ⟨p.b, p.o + off + r.1 * inf.size, none⟩) (r.2.1 - r.1) (r.2.2 - r.1)) w := by
        simp only [Instr.sliceAt, Instr.slice, Sem.run_bind, run_underlying hu, Result.andThen_ok, hb, run_sizeOf hi0, Sem.run_pure, Option.map_some, Addr.add_lit]
      rcases M.get_br_some h with ⟨hc, hv⟩ | ⟨hc, hv⟩
      · simp at hv; subst hv
        rw [if_pos (beq_true hc)] at run
        exact ⟨_, run, VR.slice hk⟩
      · simp at hv; subst hv
        rw [if_neg (fun e => by rw [e, Nat.beq_refl] at hc; cases hc)] at run
        refine ⟨_, run, ?_⟩
        rw [Nat.add_assoc]
        exact VR.slice hk
    · cases h
  · rename_i e k off tag l c hu
    obtain ⟨a, l', c', rfl⟩ : ∃ a l' c', x' = .slice (some a) l' c' := by
      cases hx <;> exact ⟨_, _, _, rfl⟩
    split at h
    · rename_i inf kk kk' hi0
      simp at h; subst h
      cases lo' <;> simp only [VRO] at h1
      cases hi' <;> simp only [VRO] at h2
      cases mx' <;> simp only [VRO] at h3
      obtain rfl := h2.int_inv
      obtain rfl := h3.int_inv
      refine ⟨.slice (some a) 0 0, ?_, VR.empty a⟩
      simp [Instr.sliceAt, Instr.slice, run_underlying hu, Instr.sliceBounds, Instr.sliceBound, asIntOf, run_sizeOf hi0]
    · rename_i inf kk kk' kk'' hi0
      simp at h; subst h
      cases lo' <;> simp only [VRO] at h1
      cases hi' <;> simp only [VRO] at h2
      cases mx' <;> simp only [VRO] at h3
      obtain rfl := h1.int_inv
      obtain rfl := h2.int_inv
      obtain rfl := h3.int_inv
      refine ⟨.slice (some a) 0 0, ?_, VR.empty a⟩
      simp [Instr.sliceAt, Instr.slice, run_underlying hu, Instr.sliceBounds, Instr.sliceBound, asIntOf, run_sizeOf hi0]
    · cases h
  · rename_i e hu
    obtain rfl := hx.plain1_eq rfl
    split at h
    · rename_i inf hi0
      obtain ⟨r, hr, h⟩ := M.get_bind_some h
      have hb := boundsM_sound (P := P) true h1 h2 h3 hr w
      simp at h; subst h
      refine ⟨.slice none (r.2.1 - r.1) (r.2.2 - r.1), ?_, VR.sliceNil _ _⟩
      simp [Instr.sliceAt, Instr.slice, run_underlying hu, hb, run_sizeOf hi0]
    · cases h
  · cases h

theorem extractM_sound {x x' v : Value} {i : Nat} (hx : VR σ x x') (h : (extractM x i).get = some v) (w : World) : ∃ v', (Instr.extract x' i).run P w = .ok v' w ∧ VR σ v v' := by
  unfold extractM at h
  split at h
  · rename_i vs
    simp at h
    cases hx with
    | any => simp at h
    | tuple hs hp =>
      obtain ⟨y, h1, h2⟩ := (show VRA σ _ _ from ⟨hs, hp⟩).get i h
      exact ⟨y, by simp [Instr.extract, h1], h2⟩
  · cases h

/-! ### == of structs -/
def fieldsPat (P : Program) : List Field → Nat → List Bool → Bool
  | [], _, [] => true
  | f :: r, k, b :: p => Nat.beq f.offset k && (f.name != "_") && (match P.underlying f.type with | some .bool => b | some (.int _) => !b | _ => false) && fieldsPat P r (k + 1) p
  | _, _, _ => false
/-- The struct type t is compared cell by cell. -/
def eqTypeOK (P : Program) (t : TypeId) (pat : List Bool) : Bool :=
  match P.underlying t with
  | some (.struct fs) => !(P.stoodInHeld t) && !(P.eqGuardType P.depth t) && fieldsPat P fs.toList 0 pat
  | _ => false

theorem run_part_one {t : TypeId} {cs : Array Value} {k : Nat} {v : Value} (ht : P.underlying t = some .bool ∨ ∃ q, P.underlying t = some (.int q)) (hv : cs[k]? = some v) (w : World) : (part t cs k).run P w = .ok v w := by
  have hag : (isAgg t).run P w = .ok false w := by
    rcases ht with h | ⟨q, h⟩ <;> simp [isAgg, run_underlying h]
  simp [part, hag, hv]
theorem eqFields_pat (d : Nat) (xs ys : Array Value) (w : World) : ∀ (fs : List Field) (k : Nat) (pat : List Bool) (b : Bool), fieldsPat P fs k pat = true →
    eqCells pat (xs.toList.drop k) (ys.toList.drop k) = some b → (Op.eqFields (d + 1) xs ys fs).run P w = .ok b w
  | [], k, pat, b, hf, h => by
    cases pat with
    | nil =>
      cases hx : xs.toList.drop k <;> cases hy : ys.toList.drop k <;> simp [eqCells, hx, hy] at h
      subst h; rfl
    | cons c p => cases hf
  | f :: r, k, pat, b, hf, h => by
    cases pat with
    | nil => cases hf
    | cons c p =>
      simp only [fieldsPat, Bool.and_eq_true] at hf
      obtain ⟨⟨⟨ho, hn⟩, ht⟩, hr⟩ := hf
      have ho' : f.offset = k := beq_true ho
      have hn' : f.name ≠ "_" := by simpa using hn
      have ht' : P.underlying f.type = some .bool ∧ c = true ∨ (∃ q, P.underlying f.type = some (.int q)) ∧ c = false := by
        split at ht
        · rename_i hu; exact .inl ⟨hu, ht⟩
        · rename_i q hu; exact .inr ⟨⟨q, hu⟩, by simpa using ht⟩
        · cases ht
      cases hx : xs.toList.drop k with
      | nil => cases c <;> simp [eqCells, hx] at h
      | cons x rx =>
        cases hy : ys.toList.drop k with
        | nil => cases c <;> cases x <;> simp [eqCells, hx, hy] at h
        | cons y ry =>
          have gx : xs[k]? = some x := by
            have := List.getElem?_drop (xs := xs.toList) (i := k) (j := 0)
            rw [hx] at this; simpa using this.symm
          have gy : ys[k]? = some y := by
            have := List.getElem?_drop (xs := ys.toList) (i := k) (j := 0)
            rw [hy] at this; simpa using this.symm
          have dx : rx = xs.toList.drop (k + 1) := by rw [← List.drop_drop, hx]; rfl
          have dy : ry = ys.toList.drop (k + 1) := by rw [← List.drop_drop, hy]; rfl
          rw [hx, hy] at h
          have key : ∀ (e : Bool), (Op.equalIn (d + 1) f.type x y).run P w = .ok e w → (∃ b', eqCells p rx ry = some b' ∧ b = (e && b')) → (Op.eqFields (d + 1) xs ys (f :: r)).run P w = .ok b w := by
            rintro e he ⟨b', hb', rfl⟩
            have ih := eqFields_pat d xs ys w r (k + 1) p b' hr (by rw [← dx, ← dy]; exact hb')
            have htt : P.underlying f.type = some .bool ∨ ∃ q, P.underlying f.type = some (.int q) := by
              rcases ht' with h | h
              · exact .inl h.1
              · exact .inr h.1
            simp only [Op.eqFields, hn', ne_eq, not_false_eq_true, if_true, Sem.run_bind]
            rw [ho', run_part_one htt gx, Result.andThen_ok, run_part_one htt gy, Result.andThen_ok, he, Result.andThen_ok]
            cases e
            · simp
            · simpa using ih
          rcases ht' with ⟨hu, rfl⟩ | ⟨⟨q, hu⟩, rfl⟩
          · cases x <;> cases y <;> simp only [eqCells] at h <;> try cases h
            rename_i a a'
            cases hq : eqCells p rx ry with
            | none => rw [hq] at h; cases h
            | some b' =>
              rw [hq] at h
              simp at h
              exact key _ (run_equalIn_bool' w d f.type a a' hu) ⟨b', hq, h.symm⟩
          · cases x <;> cases y <;> simp only [eqCells] at h <;> try cases h
            rename_i k1 a k2 a'
            by_cases hkk : k1 = k2
            · subst hkk
              cases hq : eqCells p rx ry with
              | none => rw [hq] at h; simp at h
              | some b' =>
                rw [hq] at h
                simp at h
                exact key _ (run_equalIn_int w d f.type k1 q a a' hu) ⟨b', hq, h.symm⟩
            · simp [hkk] at h

theorem run_eq_struct {t : TypeId} {pat : List Bool} (hok : eqTypeOK P t pat = true) {xs ys : Array Value} {b : Bool} (h : eqCells pat xs.toList ys.toList = some b) (o1 o2 : Operand) (w : World) :
    (eqGuard .eql t o1 o2 (.agg xs) (.agg ys)).run P w = .ok () w ∧ (eqGuard .neq t o1 o2 (.agg xs) (.agg ys)).run P w = .ok () w ∧ (Op.equal t (.agg xs) (.agg ys)).run P w = .ok b w := by
  unfold eqTypeOK at hok
  split at hok
  · rename_i fs hu
    simp only [Bool.and_eq_true, Bool.not_eq_true'] at hok
    obtain ⟨⟨hs, hg⟩, hf⟩ := hok
    refine ⟨by simp [eqGuard, hg], by simp [eqGuard, hg], ?_⟩
    have hfo : P.fieldsOf t = fs := by unfold Program.fieldsOf; rw [hu]
    unfold Op.equal
    rw [show Op.maxDepth = 9998 + 1 + 1 from rfl, run_equalIn_struct w (9998 + 1) t xs ys (by rw [hfo]; exact hu) hs, hfo]
    exact eqFields_pat 9998 xs ys w _ 0 pat b hf (by simpa using h)
  · cases hok

theorem eqCells_plain : ∀ (pat : List Bool) (xs ys : List Value) (b : Bool), eqCells pat xs ys = some b → (∀ x ∈ xs, plain1 x = true) ∧ ∀ y ∈ ys, plain1 y = true
  | [], [], [], _, _ => ⟨by simp, by simp⟩
  | [], [], _ :: _, _, h => by simp [eqCells] at h
  | [], _ :: _, _, _, h => by simp [eqCells] at h
  | c :: p, [], _, _, h => by cases c <;> simp [eqCells] at h
  | c :: p, x :: _, [], _, h => by cases c <;> cases x <;> simp [eqCells] at h
  | c :: p, x :: r, y :: r', b, h => by
    cases c <;> cases x <;> cases y <;> simp only [eqCells] at h <;> try cases h
    · rename_i k a k' a'
      by_cases hk : k = k'
      · cases hq : eqCells p r r' with
        | none => rw [hq] at h; simp [hk] at h
        | some e =>
          obtain ⟨h1, h2⟩ := eqCells_plain p r r' e hq
          exact ⟨List.forall_mem_cons.2 ⟨rfl, h1⟩, List.forall_mem_cons.2 ⟨rfl, h2⟩⟩
      · simp [hk] at h
    · cases hq : eqCells p r r' with
      | none => rw [hq] at h; cases h
      | some e =>
        obtain ⟨h1, h2⟩ := eqCells_plain p r r' e hq
        exact ⟨List.forall_mem_cons.2 ⟨rfl, h1⟩, List.forall_mem_cons.2 ⟨rfl, h2⟩⟩
theorem VRA.plain_eq {a a' : Array Value} (h : VRA σ a a') (hp : ∀ x ∈ a.toList, plain1 x = true) : a' = a := by
  refine Array.ext h.1.symm fun i h1 h2 => ?_
  exact (h.2 i _ _ (Array.getElem?_eq_getElem h2) (Array.getElem?_eq_getElem h1)).plain1_eq (hp _ (by simp))

def EqsOK (E : Env) : Prop := ∀ e ∈ E.eqs, eqTypeOK E.P e.1 e.2 = true
theorem eqPat_ok {E : Env} (hE : EqsOK E) {t : TypeId} {p : List Bool} (h : eqPat E t = some p) : eqTypeOK E.P t p = true := by
  unfold eqPat at h
  cases hf : E.eqs.find? fun e => Nat.beq e.1 t with
  | none => rw [hf] at h; cases h
  | some e =>
    rw [hf] at h; cases h
    have h1 := List.find?_some hf
    have h2 := hE e (List.mem_of_find?_eq_some hf)
    rw [beq_true h1] at h2
    exact h2

theorem run_equal_nil {t e : TypeId} (hu : P.underlying t = some (.pointer e)) (a : Option Addr) (w : World) : (Op.equal t (.pointer a) (.pointer none)).run P w = .ok a.isNone w := by
  have key : ∀ d, (Op.equalIn (d + 1) t (.pointer a) (.pointer none)).run P w = .ok a.isNone w := by
    intro d
    cases a <;> simp [Op.equalIn, run_underlying hu]
  exact key 9999
set_option maxHeartbeats 1000000 in
theorem binM_sound {E : Env} (hE : EqsOK E) {op : BinOp} {t : TypeId} {x x' y y' v : Value} (o1 o2 : Operand) (hx : VR σ x x') (hy : VR σ y y') (h : (binM E op t x y).get = some v) (w : World) :
    ∃ v', (do eqGuard op t o1 o2 x' y'; binOp op t x' y').run E.P w = .ok v' w ∧ VR σ v v' := by
  have kk : ∀ {k k' : IntKind} {m : M Value}, (M.br (decide (k = k')) m .bad).get = some v → k = k' ∧ m.get = some v := by
    intro k k' m h
    rcases M.get_br_some h with ⟨hb, h⟩ | ⟨_, h⟩
    · exact ⟨by simpa using hb, h⟩
    · cases h
  unfold binM at h
  split at h
  · obtain rfl := hx.int_inv; obtain rfl := hy.int_inv
    rcases M.get_br_some h with ⟨_, h⟩ | ⟨hb, h⟩
    · cases h
    · simp only [M.get_ret, Option.some.injEq] at h; simp at hb; subst h
      exact ⟨_, by simp only [eqGuard_at_int, binOp_shl, Op.shift, if_neg (Int.not_lt.2 hb), Sem.run_bind, Sem.run_pure, Result.andThen_ok], VR.int _ _⟩
  · obtain rfl := hx.int_inv; obtain rfl := hy.int_inv
    rcases M.get_br_some h with ⟨_, h⟩ | ⟨hb, h⟩
    · cases h
    · simp only [M.get_ret, Option.some.injEq] at h; simp at hb; subst h
      exact ⟨_, by simp only [eqGuard_at_int, binOp_shr, Op.shift, if_neg (Int.not_lt.2 hb), Sem.run_bind, Sem.run_pure, Result.andThen_ok], VR.int _ _⟩
  · obtain rfl := hx.int_inv; obtain rfl := hy.int_inv
    obtain ⟨rfl, hk⟩ := kk h; simp only [M.get_ret, Option.some.injEq] at hk; subst hk
    exact ⟨_, by simp only [eqGuard_at_int, binOp_add, Op.intArith, Sem.run_bind, Sem.run_pure, Result.andThen_ok], VR.int _ _⟩
  · obtain rfl := hx.int_inv; obtain rfl := hy.int_inv
    obtain ⟨rfl, hk⟩ := kk h; simp only [M.get_ret, Option.some.injEq] at hk; subst hk
    exact ⟨_, by simp only [eqGuard_at_int, binOp_sub, Op.intArith, Sem.run_bind, Sem.run_pure, Result.andThen_ok], VR.int _ _⟩
  · obtain rfl := hx.int_inv; obtain rfl := hy.int_inv
    obtain ⟨rfl, hk⟩ := kk h; simp only [M.get_ret, Option.some.injEq] at hk; subst hk
    exact ⟨_, by simp only [eqGuard_at_int, binOp_mul, Op.intArith, Sem.run_bind, Sem.run_pure, Result.andThen_ok], VR.int _ _⟩
  · obtain rfl := hx.int_inv; obtain rfl := hy.int_inv
    obtain ⟨rfl, hk⟩ := kk h
    clear h
    rcases M.get_br_some hk with ⟨_, h⟩ | ⟨hb, h⟩
    · cases h
    · simp only [M.get_ret, Option.some.injEq] at h; simp at hb; subst h
      exact ⟨_, by simp only [eqGuard_at_int, binOp_quo, Op.intDiv, if_neg hb, Sem.run_bind, Sem.run_pure, Result.andThen_ok], VR.int _ _⟩
  · obtain rfl := hx.int_inv; obtain rfl := hy.int_inv
    obtain ⟨rfl, hk⟩ := kk h
    clear h
    rcases M.get_br_some hk with ⟨_, h⟩ | ⟨hb, h⟩
    · cases h
    · simp only [M.get_ret, Option.some.injEq] at h; simp at hb; subst h
      exact ⟨_, by simp only [eqGuard_at_int, binOp_rem, Op.intDiv, if_neg hb, Sem.run_bind, Sem.run_pure, Result.andThen_ok], VR.int _ _⟩
  · obtain rfl := hx.int_inv; obtain rfl := hy.int_inv
    obtain ⟨rfl, hk⟩ := kk h; simp only [M.get_ret, Option.some.injEq] at hk; subst hk
    exact ⟨_, by simp only [eqGuard_at_int, binOp_and, intBits_and, Sem.run_bind, Sem.run_pure, Result.andThen_ok], VR.int _ _⟩
  · obtain rfl := hx.int_inv; obtain rfl := hy.int_inv
    obtain ⟨rfl, hk⟩ := kk h; simp only [M.get_ret, Option.some.injEq] at hk; subst hk
    exact ⟨_, by simp only [eqGuard_at_int, binOp_or, intBits_or, Sem.run_bind, Sem.run_pure, Result.andThen_ok], VR.int _ _⟩
  · obtain rfl := hx.int_inv; obtain rfl := hy.int_inv
    obtain ⟨rfl, hk⟩ := kk h; simp only [M.get_ret, Option.some.injEq] at hk; subst hk
    exact ⟨_, by simp only [eqGuard_at_int, binOp_xor, intBits_xor, Sem.run_bind, Sem.run_pure, Result.andThen_ok], VR.int _ _⟩
  · obtain rfl := hx.int_inv; obtain rfl := hy.int_inv
    obtain ⟨rfl, hk⟩ := kk h; simp only [M.get_ret, Option.some.injEq] at hk; subst hk
    exact ⟨_, by simp only [eqGuard_at_int, binOp_andNot, intBits_andNot, Sem.run_bind, Sem.run_pure, Result.andThen_ok], VR.int _ _⟩
  · obtain rfl := hx.int_inv; obtain rfl := hy.int_inv
    obtain ⟨rfl, hk⟩ := kk h; simp only [M.get_ret, Option.some.injEq] at hk; subst hk
    exact ⟨_, by simp only [eqGuard_at_int, binOp_eql, Sem.run_bind, Sem.run_pure, Result.andThen_ok], VR.bool _⟩
  · obtain rfl := hx.int_inv; obtain rfl := hy.int_inv
    obtain ⟨rfl, hk⟩ := kk h; simp only [M.get_ret, Option.some.injEq] at hk; subst hk
    exact ⟨_, by simp only [eqGuard_at_int, binOp_neq, Sem.run_bind, Sem.run_pure, Result.andThen_ok], VR.bool _⟩
  · obtain rfl := hx.int_inv; obtain rfl := hy.int_inv
    obtain ⟨rfl, hk⟩ := kk h; simp only [M.get_ret, Option.some.injEq] at hk; subst hk
    exact ⟨_, by simp only [eqGuard_at_int, binOp_lss, Sem.run_bind, Sem.run_pure, Result.andThen_ok], VR.bool _⟩
  · obtain rfl := hx.int_inv; obtain rfl := hy.int_inv
    obtain ⟨rfl, hk⟩ := kk h; simp only [M.get_ret, Option.some.injEq] at hk; subst hk
    exact ⟨_, by simp only [eqGuard_at_int, binOp_leq, Sem.run_bind, Sem.run_pure, Result.andThen_ok], VR.bool _⟩
  · obtain rfl := hx.int_inv; obtain rfl := hy.int_inv
    obtain ⟨rfl, hk⟩ := kk h; simp only [M.get_ret, Option.some.injEq] at hk; subst hk
    exact ⟨_, by simp only [eqGuard_at_int, binOp_gtr, Sem.run_bind, Sem.run_pure, Result.andThen_ok], VR.bool _⟩
  · obtain rfl := hx.int_inv; obtain rfl := hy.int_inv
    obtain ⟨rfl, hk⟩ := kk h; simp only [M.get_ret, Option.some.injEq] at hk; subst hk
    exact ⟨_, by simp only [eqGuard_at_int, binOp_geq, Sem.run_bind, Sem.run_pure, Result.andThen_ok], VR.bool _⟩
  · rename_i a b
    obtain rfl := hx.plain1_eq rfl; obtain rfl := hy.plain1_eq rfl
    split at h
    · rename_i hu
      simp at h; subst h
      refine ⟨_, ?_, VR.bool _⟩
      have := run_equalIn_bool' w 9999 t a b hu
      simp only [eqGuard_at_bool, binOp, Sem.run_bind, Sem.run_pure, Result.andThen_ok, Op.equal, Op.maxDepth, this]
    · cases h
  · rename_i a b
    obtain rfl := hx.plain1_eq rfl; obtain rfl := hy.plain1_eq rfl
    split at h
    · rename_i hu
      simp only [M.get_ret, Option.some.injEq] at h; subst h
      refine ⟨_, ?_, VR.bool _⟩
      have := run_equalIn_bool' w 9999 t a b hu
      simp only [eqGuard_at_bool, binOp, Sem.run_bind, Sem.run_pure, Result.andThen_ok, Op.equal, Op.maxDepth, this]
    · cases h
  · rename_i a b
    obtain rfl := hx.plain1_eq rfl; obtain rfl := hy.plain1_eq rfl
    simp only [M.get_ret, Option.some.injEq] at h; subst h
    refine ⟨_, ?_, VR.bool _⟩
    simp only [eqGuard_at_string, binOp, Op.stringOp, Sem.run_bind, Sem.run_pure, Result.andThen_ok, ByteArray.toList_eq]
  · rename_i a b
    obtain rfl := hx.plain1_eq rfl; obtain rfl := hy.plain1_eq rfl
    simp only [M.get_ret, Option.some.injEq] at h; subst h
    refine ⟨_, ?_, VR.bool _⟩
    simp only [eqGuard_at_string, binOp, Op.stringOp, Sem.run_bind, Sem.run_pure, Result.andThen_ok, ByteArray.toList_eq]
  · rename_i a
    obtain rfl := hy.plain1_eq rfl
    obtain ⟨a', rfl, ha⟩ : ∃ a', x' = .pointer a' ∧ a'.isNone = a.isNone := by
      cases hx <;> exact ⟨_, rfl, rfl⟩
    split at h
    · rename_i e hu
      simp only [M.get_ret, Option.some.injEq] at h; subst h
      refine ⟨.bool a.isNone, ?_, VR.bool _⟩
      rw [← ha]
      simp only [eqGuard_at_pointer, binOp, Sem.run_bind, Sem.run_pure, Result.andThen_ok, run_equal_nil hu]
    · cases h
  · rename_i a
    obtain rfl := hy.plain1_eq rfl
    obtain ⟨a', rfl, ha⟩ : ∃ a', x' = .pointer a' ∧ a'.isNone = a.isNone := by
      cases hx <;> exact ⟨_, rfl, rfl⟩
    split at h
    · rename_i e hu
      simp only [M.get_ret, Option.some.injEq] at h; subst h
      refine ⟨.bool (!a.isNone), ?_, VR.bool _⟩
      rw [← ha]
      simp only [eqGuard_at_pointer, binOp, Sem.run_bind, Sem.run_pure, Result.andThen_ok, run_equal_nil hu]
    · cases h
  · rename_i xs ys
    split at h
    · rename_i pat hp
      split at h
      · rename_i b hb
        simp only [M.get_ret, Option.some.injEq] at h; subst h
        obtain ⟨h1, h2⟩ := eqCells_plain _ _ _ _ hb
        cases hx with
        | agg hs hpx =>
          cases hy with
          | agg hs' hpy =>
            obtain rfl := (show VRA σ _ _ from ⟨hs, hpx⟩).plain_eq h1
            obtain rfl := (show VRA σ _ _ from ⟨hs', hpy⟩).plain_eq h2
            obtain ⟨e1, e2, e3⟩ := run_eq_struct (eqPat_ok hE hp) hb o1 o2 w
            exact ⟨.bool b, by simp only [Sem.run_bind, e1, Result.andThen_ok, binOp, e3, Sem.run_pure], VR.bool _⟩
      · cases h
    · cases h
  · rename_i xs ys
    split at h
    · rename_i pat hp
      split at h
      · rename_i b hb
        simp only [M.get_ret, Option.some.injEq] at h; subst h
        obtain ⟨h1, h2⟩ := eqCells_plain _ _ _ _ hb
        cases hx with
        | agg hs hpx =>
          cases hy with
          | agg hs' hpy =>
            obtain rfl := (show VRA σ _ _ from ⟨hs, hpx⟩).plain_eq h1
            obtain rfl := (show VRA σ _ _ from ⟨hs', hpy⟩).plain_eq h2
            obtain ⟨e1, e2, e3⟩ := run_eq_struct (eqPat_ok hE hp) hb o1 o2 w
            exact ⟨.bool (!b), by simp only [Sem.run_bind, e2, Result.andThen_ok, binOp, e3, Sem.run_pure], VR.bool _⟩
      · cases h
    · cases h
  · cases h
end
end Go.Sx
