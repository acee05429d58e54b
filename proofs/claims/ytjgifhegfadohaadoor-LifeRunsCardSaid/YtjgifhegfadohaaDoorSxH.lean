/- The operations of the symbolic run are the model's: all that turn nothing, and all that make a block. No condition of its own. -/
import Derived.Test.YtjgifhegfadohaaDoorSxG
namespace Go.Sx
open Go Go.RowKit
set_option linter.unusedVariables false
section
variable {P : Program} {n : Nat} {w0 : World} {G : Nat} {σ : Nat → Option Pl} {lh : List Blk} {w : World}

theorem unM_sound {op : UnOp} {x x' v : Value} (hx : VR σ x x') (h : (unM op x).get = some v) (w : World) : ∃ v', (Op.unary op x').run P w = .ok v' w ∧ VR σ v v' := by
  unfold unM at h
  split at h
  · obtain rfl := hx.plain1_eq rfl
    simp only [M.get_ret, Option.some.injEq] at h; subst h
    exact ⟨_, by simp only [Op.unary, Sem.run_pure], VR.bool _⟩
  · obtain rfl := hx.plain1_eq rfl
    simp only [M.get_ret, Option.some.injEq] at h; subst h
    exact ⟨_, by simp only [Op.unary, Op.intArith, Sem.run_pure], VR.int _ _⟩
  · obtain rfl := hx.plain1_eq rfl
    rename_i k a
    simp only [M.get_ret, Option.some.injEq] at h; subst h
    refine ⟨_, ?_, VR.int _ _⟩
    simp only [Op.unary, intBits_xor, Sem.run_pure]
    cases k.signed <;> rfl
  · cases h
theorem convertM_sound {s d : TypeId} {x x' v : Value} (hx : VR σ x x') (h : (convertM P s d x).get = some v) (w : World) : ∃ v', (convert s d x').run P w = .ok v' w ∧ VR σ v v' := by
  unfold convertM at h
  split at h
  · rename_i ds k k' a hs hd
    obtain rfl := hx.plain1_eq rfl
    simp only [M.get_ret, Option.some.injEq] at h; subst h
    exact ⟨_, by simp only [convert, Sem.run_bind, run_underlying hs, run_underlying hd, Result.andThen_ok, Conv.intToInt, Sem.run_pure], VR.int _ _⟩
  · cases h
theorem pickM_sound {c c' a a' b b' v : Value} (hc : VR σ c c') (ha : VR σ a a') (hb : VR σ b b') (h : (pickM c a b).get = some v) (w : World) :
    ∃ v', (do pure (Next.value (if ← asBool c' then a' else b')) : Sem Next).run P w = .ok (.value v') w ∧ VR σ v v' := by
  unfold pickM at h
  split at h
  · rename_i t
    obtain rfl := hc.plain1_eq rfl
    rcases M.get_br_some h with ⟨rfl, hv⟩ | ⟨rfl, hv⟩
    · simp only [M.get_ret, Option.some.injEq] at hv; subst hv
      exact ⟨a', by simp [asBool], ha⟩
    · simp only [M.get_ret, Option.some.injEq] at hv; subst hv
      exact ⟨b', by simp [asBool], hb⟩
  · cases h
theorem nilCheckM_sound {x x' v : Value} (hx : VR σ x x') (h : (nilCheckM x).get = some v) : x' ≠ .pointer none ∧ x' ≠ .nilIface ∧ x' ≠ .nilFunc ∧ (∀ m a c, x' ≠ .func (.method m) a c) ∧ VR σ v x' := by
  unfold nilCheckM at h
  split at h
  · simp only [M.get_ret, Option.some.injEq] at h; subst h
    cases hx <;> exact ⟨by simp, by simp, by simp, by simp, by constructor; assumption⟩
  · simp only [M.get_ret, Option.some.injEq] at h; subst h
    refine ⟨?_, ?_, ?_, ?_, hx⟩ <;> cases hx <;> simp
  · cases h
theorem lenM_sound {t ty : TypeId} {x x' v : Value} (hx : VR σ x x') (h : (lenM P t x).get = some v) (w : World) : ∃ v', (Builtin.len_ #[t] ty #[x']).run P w = .ok v' w ∧ VR σ v v' := by
  unfold lenM at h
  split at h
  · rename_i e a l c hu
    simp only [M.get_ret, Option.some.injEq] at h; subst h
    obtain ⟨a', c', rfl⟩ : ∃ a' c', x' = .slice a' l c' := by
      cases hx <;> exact ⟨_, _, rfl⟩
    exact ⟨_, by simp [Builtin.len_, run_underlying hu]; rfl, VR.int _ _⟩
  · rename_i l e hu
    simp only [M.get_ret, Option.some.injEq] at h; subst h
    exact ⟨_, by simp [Builtin.len_, run_underlying hu]; rfl, VR.int _ _⟩
  · cases h
theorem min2M_sound {ts : Array TypeId} {ty : TypeId} {x x' y y' v : Value} (hx : VR σ x x') (hy : VR σ y y') (h : (min2M x y).get = some v) (w : World) : ∃ v', (Builtin.min_ ts ty #[x', y']).run P w = .ok v' w ∧ VR σ v v' := by
  unfold min2M at h
  split at h
  · obtain rfl := hx.int_inv
    obtain rfl := hy.int_inv
    simp only [M.get_ret, Option.some.injEq] at h; subst h
    exact ⟨_, by simp [Builtin.min_, Builtin.min2], VR.int _ _⟩
  · cases h
theorem max2M_sound {ts : Array TypeId} {ty : TypeId} {x x' y y' v : Value} (hx : VR σ x x') (hy : VR σ y y') (h : (max2M x y).get = some v) (w : World) : ∃ v', (Builtin.max_ ts ty #[x', y']).run P w = .ok v' w ∧ VR σ v v' := by
  unfold max2M at h
  split at h
  · obtain rfl := hx.int_inv
    obtain rfl := hy.int_inv
    simp only [M.get_ret, Option.some.injEq] at h; subst h
    exact ⟨_, by simp [Builtin.max_, Builtin.max2], VR.int _ _⟩
  · cases h

theorem wrap_small {l : Int} (h0 : 0 ≤ l) (h1 : l ≤ 1048576) : IntKind.i64.wrap l = l := by
  simp [IntKind.wrap, IntKind.bits, IntKind.signed]
  omega

theorem makeSliceM_sound (hn : n ≤ w.heap.size) {t : TypeId} {l l' c c' : Value} {r : (Nat → Value) × Blk} (hl : VR σ l l') (hc : VR σ c c') (h : (makeSliceM P t l c).get = some r) :
    ∃ v' o, (Instr.makeSlice t l' c').run P w = .ok v' (w.alloc o) ∧ GoodNew n σ r v' w o := by
  unfold makeSliceM at h
  split at h
  · rename_i e l c hu
    obtain rfl := hl.int_inv
    obtain rfl := hc.int_inv
    split at h
    · rename_i i hi hz
      rcases M.get_br_some h with ⟨hs, h⟩ | ⟨_, h⟩
      · rcases M.get_br_some h with ⟨he, h⟩ | ⟨_, h⟩
        · rcases M.get_br_some h with ⟨hb, h⟩ | ⟨_, h⟩
          · simp only [M.get_ret, Option.some.injEq] at h; subst h
            simp only [Bool.and_eq_true, decide_eq_true_eq] at hs he hb
            subst he
            obtain ⟨h0, h1⟩ := hb
            have hsz := beq_true hs.1
            have hby := beq_true hs.2
            obtain ⟨hz1, _⟩ := run_zero hz w
            refine ⟨.slice (some ⟨w.heap.size, 0, none⟩) l.toNat l.toNat, .cells (Array.replicate l.toNat (.int .i64 0)) e, ?_, ⟨w.heap.size, 0, 1, l.toNat⟩, rfl, fun σ' a hs' ha => ⟨VR.slice (off := 0) ha, ?_⟩⟩
            · have hw := wrap_small h0 h1
              have c1 : ((decide (l < 0) || decide ((8 : Int) * l > 2 ^ 48)) || decide (l < 0) || decide (l > l)) = false := by
                simp; omega
              simp only [Instr.makeSlice, Sem.run_bind, run_underlying hu, Result.andThen_ok, asInt, asIntOf, Sem.run_pure, run_typeInfo hi, hw, hby]
              have c2 : ¬ (((decide (l < 0) || decide (((8 : Nat) : Int) * l > 2 ^ 48)) || decide (l < 0) || decide (l > l)) = true) := by
                simp; omega
              rw [if_neg c2]
              simp only [Sem.run_bind, Result.andThen_ok, run_askRoom, run_sizeOf hi, hsz, Nat.mul_one]
              by_cases h00 : l.toNat = 0
              · simp [h00, newRow, Array.range_zero']
              · simp only [h00, if_false, Sem.run_bind, hz1, Result.andThen_ok, Sem.run_pure, newRow, run_newObj, World.alloc_eq]
                congr 3
                apply Array.ext
                · simp
                · intro j h1 h2
                  simp [Value.cells, Nat.mod_one]
            · have := BR.newInts (σ := σ') hn (List.replicate l.toNat 0) e (c' := Array.replicate l.toNat (.int .i64 0)) fun j x hx => by
                have hj : j < l.toNat := by have := (List.getElem?_eq_some_iff.1 hx).1; simpa using this
                simp [hj] at hx
                simp [hj, ← hx]
              simpa using this
          · cases h
        · cases h
      · cases h
    · cases h
  · cases h

theorem valM_sound {E : Env} (hE : EqsOK E) (hr : HR n w0 G σ lh w) {ev ev' : Operand → Value} {o : Oper} (hop : ∀ x ∈ o.op.operands, VR σ (ev x) (ev' x)) {v : Value} (h : (valM E ev lh o.op).get = some v) :
    ∃ v', (execOp ev' o).run E.P w = .ok (.value v') w ∧ VR σ v v' := by
  obtain ⟨dst, op, ty, pos, after, guard⟩ := o
  simp only at h hop
  unfold valM at h
  split at h
  · rename_i x
    simp only [M.get_ret, Option.some.injEq] at h; subst h
    exact ⟨_, by simp only [execOp, Sem.run_pure], hop x (by simp [Op.operands])⟩
  · rename_i x
    simp only [M.get_ret, Option.some.injEq] at h; subst h
    exact ⟨_, by simp only [execOp, Sem.run_pure], hop x (by simp [Op.operands])⟩
  · rename_i c a b
    obtain ⟨v', h1, h2⟩ := pickM_sound (P := E.P) (hop c (by simp [Op.operands])) (hop a (by simp [Op.operands])) (hop b (by simp [Op.operands])) h w
    exact ⟨v', by simpa [execOp] using h1, h2⟩
  · rename_i t parts
    obtain ⟨v', h1, h2⟩ := buildM_sound (P := E.P) parts ev ev' (fun p hp => hop p.2 (by simp only [Op.operands, List.mem_toArray, List.mem_map]; exact ⟨p, Array.mem_toList_iff.2 hp, rfl⟩)) h w
    exact ⟨v', by simp only [execOp, Sem.run_bind, h1, Result.andThen_ok, Sem.run_pure], h2⟩
  · rename_i t a
    obtain ⟨v', h1, h2⟩ := loadM_sound hr (hop a (by simp [Op.operands])) h
    exact ⟨v', by simp only [execOp, Sem.run_bind, h1, Result.andThen_ok, Sem.run_pure], h2⟩
  · rename_i x
    have hx := hop x (by simp [Op.operands])
    obtain ⟨h1, h2, h3, h4, h5⟩ := nilCheckM_sound hx h
    refine ⟨ev' x, ?_, h5⟩
    simp only [execOp]
    rfl
  · rename_i op t x y yt
    obtain ⟨v', h1, h2⟩ := binM_sound hE x y (hop x (by simp [Op.operands])) (hop y (by simp [Op.operands])) h w
    exact ⟨v', by simp only [execOp]; rw [Sem.run_bind, h1]; rfl, h2⟩
  · rename_i op t x
    obtain ⟨v', h1, h2⟩ := unM_sound (P := E.P) (hop x (by simp [Op.operands])) h w
    exact ⟨v', by simp only [execOp, Sem.run_bind, h1, Result.andThen_ok, Sem.run_pure], h2⟩
  · rename_i s d x
    obtain ⟨v', h1, h2⟩ := convertM_sound (hop x (by simp [Op.operands])) h w
    exact ⟨v', by simp only [execOp, Sem.run_bind, h1, Result.andThen_ok, Sem.run_pure], h2⟩
  · rename_i f first captured
    simp only [M.get_ret, Option.some.injEq] at h; subst h
    have h1 := VRA.map (σ := σ) ev ev' first fun x hx => hop x (by simp [Op.operands, hx])
    have h2 := VRA.map (σ := σ) ev ev' captured fun x hx => hop x (by simp [Op.operands, hx])
    exact ⟨.func (.func f) (first.map ev') (captured.map ev'), by simp [execOp, Instr.makeFunc], VR.func f h1.1 h2.1 h1.2 h2.2⟩
  · rename_i t x lo hi mx
    obtain ⟨v', h1, h2⟩ := sliceM_sound (P := E.P) (hop x (by simp [Op.operands])) (VRO.map ev ev' lo fun y hy => hop y (by simp [Op.operands, Option.mem_def.1 hy])) (VRO.map ev ev' hi fun y hy => hop y (by simp [Op.operands, Option.mem_def.1 hy])) (VRO.map ev ev' mx fun y hy => hop y (by simp [Op.operands, Option.mem_def.1 hy])) h w
    exact ⟨v', by simp only [execOp, Sem.run_bind, h1, Result.andThen_ok, Sem.run_pure], h2⟩
  · rename_i s x f
    obtain ⟨v', h1, h2⟩ := fieldAddrM_sound (P := E.P) (hop x (by simp [Op.operands])) h w
    exact ⟨v', by simp only [execOp, Sem.run_bind, h1, Result.andThen_ok, Sem.run_pure], h2⟩
  · rename_i s x f
    obtain ⟨v', h1, h2⟩ := fieldM_sound (P := E.P) (hop x (by simp [Op.operands])) h w
    exact ⟨v', by simp only [execOp, Sem.run_bind, h1, Result.andThen_ok, Sem.run_pure], h2⟩
  · rename_i t x ix
    obtain ⟨v', h1, h2⟩ := indexAddrM_sound hr (hop x (by simp [Op.operands])) (hop ix (by simp [Op.operands])) h
    exact ⟨v', by simp only [execOp, Sem.run_bind, h1, Result.andThen_ok, Sem.run_pure], h2⟩
  · rename_i t x ix
    obtain ⟨v', h1, h2⟩ := indexM_sound (P := E.P) (hop x (by simp [Op.operands])) (hop ix (by simp [Op.operands])) h w
    exact ⟨v', by simp only [execOp, Sem.run_bind, h1, Result.andThen_ok, Sem.run_pure], h2⟩
  · rename_i t ix
    obtain ⟨v', h1, h2⟩ := extractM_sound (P := E.P) (hop t (by simp [Op.operands])) h w
    exact ⟨v', by simp only [execOp, Sem.run_bind, h1, Result.andThen_ok, Sem.run_pure], h2⟩
  · rename_i c
    obtain ⟨callee, args, ats⟩ := c
    simp only at h
    split at h
    · rename_i hcal hargs hats
      obtain rfl : args = #[_] := Array.toList_inj.1 hargs
      obtain rfl : ats = #[_] := Array.toList_inj.1 hats
      obtain ⟨v', h1, h2⟩ := lenM_sound (P := E.P) (ty := ty) (hop _ (by simp [Op.operands, Call.operands])) h w
      exact ⟨v', by simp [execOp, resolve, invoke, builtin, h1], h2⟩
    · rename_i hcal hargs
      obtain rfl : args = #[_, _] := Array.toList_inj.1 hargs
      obtain ⟨v', h1, h2⟩ := min2M_sound (P := E.P) (ts := ats) (ty := ty) (hop _ (by simp [Op.operands, Call.operands])) (hop _ (by simp [Op.operands, Call.operands])) h w
      exact ⟨v', by simp [execOp, resolve, invoke, builtin, h1], h2⟩
    · rename_i hcal hargs
      obtain rfl : args = #[_, _] := Array.toList_inj.1 hargs
      obtain ⟨v', h1, h2⟩ := max2M_sound (P := E.P) (ts := ats) (ty := ty) (hop _ (by simp [Op.operands, Call.operands])) (hop _ (by simp [Op.operands, Call.operands])) h w
      exact ⟨v', by simp [execOp, resolve, invoke, builtin, h1], h2⟩
    · cases h
  · cases h

theorem newM_sound {E : Env} (hn : n ≤ w.heap.size) {ev ev' : Operand → Value} {o : Oper} (hop : ∀ x ∈ o.op.operands, VR σ (ev x) (ev' x)) {r : (Nat → Value) × Blk} (h : (newM E ev o.op).get = some r) :
    ∃ v' ob, (execOp ev' o).run E.P w = .ok (.value v') (w.alloc ob) ∧ GoodNew n σ r v' w ob := by
  obtain ⟨dst, op, ty, pos, after, guard⟩ := o
  simp only at h hop
  unfold newM at h
  split at h
  · rename_i t
    obtain ⟨v', ob, h1, h2⟩ := allocM_sound (P := E.P) hn h
    exact ⟨v', ob, by simp only [execOp, Sem.run_bind, h1, Result.andThen_ok, Sem.run_pure], h2⟩
  · rename_i t x
    obtain ⟨v', ob, h1, h2⟩ := boxM_sound (P := E.P) (t := t) hn (hop x (by simp [Op.operands])) h
    exact ⟨v', ob, by simp only [execOp, Sem.run_bind, h1, Result.andThen_ok, Sem.run_pure], h2⟩
  · rename_i t len parts
    obtain ⟨v', ob, h1, h2⟩ := buildSliceM_sound (P := E.P) hn parts ev ev' (fun p hp => hop p.2 (by simp only [Op.operands, List.mem_toArray, List.mem_map]; exact ⟨p, Array.mem_toList_iff.2 hp, rfl⟩)) h
    exact ⟨v', ob, by simp only [execOp, Sem.run_bind, h1, Result.andThen_ok, Sem.run_pure], h2⟩
  · rename_i t l c
    obtain ⟨v', ob, h1, h2⟩ := makeSliceM_sound (P := E.P) hn (hop l (by simp [Op.operands])) (hop c (by simp [Op.operands])) h
    exact ⟨v', ob, by simp only [execOp, Sem.run_bind, h1, Result.andThen_ok, Sem.run_pure], h2⟩
  · cases h
end
end Go.Sx
