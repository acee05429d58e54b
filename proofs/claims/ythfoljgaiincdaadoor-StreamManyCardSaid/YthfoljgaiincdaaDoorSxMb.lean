
/- A symbolic run of code, and its soundness, part b. No condition of its own. -/
import Derived.Test.YthfoljgaiincdaaDoorSxMa
import Derived.Laws.StructEq
import Derived.Deep.AppendSrc
/- The operations of the symbolic run are the model's: values. No condition of its own. -/
namespace Go.Sx
open Go Go.RowKit
set_option linter.unusedVariables false
set_option linter.unusedSimpArgs false
section
variable {P : Program} {n : Nat → Prop} {w0 : World} {G : Nat} {σ : Nat → Option Pl} {lh : List Blk} {w : World}

theorem cellsOf_cells {v : Value} {xs : List Value} (h : cellsOf v = some xs) : v.cells = xs.toArray := by
  unfold cellsOf at h
  split at h
  · rename_i c
    cases hc : c.all isCell <;> simp [hc] at h
    subst h; simp [Value.cells]
  · cases h
  · cases h
  · rename_i h1 h2 h3
    cases h
    cases v <;> first | rfl | exact absurd rfl (h1 _)
theorem known_VRA {v v' : Value} (h : VR σ v v') (hk : (cellsOf v).isSome = true) : VRA σ v.cells v'.cells := by
  obtain ⟨xs, hx⟩ := Option.isSome_iff_exists.1 hk
  obtain ⟨xs', h1, h2, h3, _⟩ := cellsOf_VR h hx
  rw [cellsOf_cells hx, h1]
  exact ⟨by simp [h2], fun i x y hx hy => h3 i x y (by simpa using hx) (by simpa using hy)⟩
theorem VRA.set {a a' : Array Value} (h : VRA σ a a') (i : Nat) {v v' : Value} (hv : VR σ v v') : VRA σ (a.setIfInBounds i v) (a'.setIfInBounds i v') := by
  refine ⟨by simp [h.1], fun j x y hx hy => ?_⟩
  rw [Array.getElem?_setIfInBounds] at hx hy
  rw [← h.1] at hy
  split at hx
  · rename_i e
    rw [if_pos e] at hy
    split at hx
    · rename_i e2
      rw [if_pos e2] at hy
      cases hx; cases hy; exact hv
    · cases hx
  · rename_i e
    rw [if_neg e] at hy
    exact h.2 j x y hx hy
theorem foldl_VRA (off : Nat) : ∀ (cs cs' : List Value) (k : Nat) (z z' : Array Value), VRA σ z z' → cs.length = cs'.length → (∀ (i : Nat) (x y : Value), cs[i]? = some x → cs'[i]? = some y → VR σ x y) →
    VRA σ ((cs.zipIdx k).foldl (fun acc (c, j) => acc.setIfInBounds (off + j) c) z) ((cs'.zipIdx k).foldl (fun acc (c, j) => acc.setIfInBounds (off + j) c) z')
  | [], [], k, z, z', hz, _, _ => hz
  | [], _ :: _, _, _, _, _, h, _ => by simp at h
  | _ :: _, [], _, _, _, _, h, _ => by simp at h
  | c :: cs, c' :: cs', k, z, z', hz, hl, h => by
    simp only [List.zipIdx_cons, List.foldl_cons]
    exact foldl_VRA off cs cs' (k + 1) _ _ (hz.set _ (h 0 c c' rfl rfl)) (by simpa using hl) fun i x y hx hy => h (i + 1) x y (by simpa using hx) (by simpa using hy)
theorem fill_VRA (f : Nat → Option (Nat × Nat)) : ∀ (ps ps' : List (Nat × Value)) (z z' : Array Value) (cs : Array Value), VRA σ z z' → ps.map (·.1) = ps'.map (·.1) →
    (∀ (i : Nat) (x y : Nat × Value), ps[i]? = some x → ps'[i]? = some y → VR σ x.2 y.2) → allKnown (ps.map (·.2)) = true → Instr.fill f z ps = some cs → ∃ cs', Instr.fill f z' ps' = some cs' ∧ VRA σ cs cs'
  | [], [], z, z', cs, hz, _, _, _, h => by simp [Instr.fill] at h; subst h; exact ⟨z', rfl, hz⟩
  | [], _ :: _, _, _, _, _, h, _, _, _ => by simp at h
  | _ :: _, [], _, _, _, _, h, _, _, _ => by simp at h
  | (i, v) :: r, (i', v') :: r', z, z', cs, hz, hi, hv, hk, h => by
    simp only [List.map_cons, List.cons.injEq] at hi
    obtain ⟨rfl, hi⟩ := hi
    simp only [allKnown, List.map_cons, List.all_cons, Bool.and_eq_true] at hk
    have hvv := known_VRA (hv 0 _ _ rfl rfl) hk.1
    simp only [Instr.fill] at h ⊢
    cases hf : f i with
    | none => rw [hf] at h; cases h
    | some os =>
      obtain ⟨off, size⟩ := os
      rw [hf] at h
      simp only at h ⊢
      rw [← hvv.1, ← hz.1]
      split at h
      · cases h
      · rename_i hc
        rw [if_neg hc]
        refine fill_VRA f r r' _ _ cs ?_ hi (fun i x y hx hy => hv (i + 1) x y (by simpa using hx) (by simpa using hy)) hk.2 h
        rw [← Array.foldl_toList, ← Array.foldl_toList, Array.toList_zipIdx, Array.toList_zipIdx]
        exact foldl_VRA off _ _ 0 _ _ hz (by simpa using hvv.1) fun j x y hx hy => hvv.2 j x y (by simpa using hx) (by simpa using hy)

theorem plain_cells {z : Value} (hz : plain z = true) (hk : ∀ c, z ≠ .tuple c) : VRA σ z.cells z.cells := by
  have := VR.plain σ hz
  refine ⟨rfl, fun i x y hx hy => ?_⟩
  obtain rfl : x = y := Option.some.inj (hx.symm.trans hy)
  cases z <;> first
    | exact absurd rfl (hk _)
    | (simp only [Value.cells] at hx hy
       match i, hx with
       | 0, hx => simp at hx; subst hx; exact this
       | i + 1, hx => simp at hx)
    | (rename_i c
       simp only [plain] at hz
       rw [Array.all_eq_true] at hz
       obtain ⟨hi, rfl⟩ := Array.getElem?_eq_some_iff.1 hx
       exact VR.plain1 σ (hz i hi))

theorem run_places {fs : List Field} {ps : List (Nat × Nat)} (h : places P fs = some ps) (w : World) :
    (fs.mapM fun f => (do pure (f.offset, ← sizeOf f.type) : Sem (Nat × Nat))).run P w = .ok ps w := by
  induction fs generalizing ps with
  | nil => simp [places] at h; subst h; simp
  | cons f r ih =>
    simp only [places] at h
    cases hi : P.info? f.type with
    | none => simp [hi] at h
    | some i =>
      cases hp : places P r with
      | none => simp [hi, hp] at h
      | some qs =>
        simp [hi, hp] at h
        subst h
        simp only [List.mapM_cons, Sem.run_bind, run_sizeOf hi, Result.andThen_ok, Sem.run_pure, ih hp]

theorem parts_map {α : Type} (parts : Array (Nat × α)) (f g : α → Value) (h : ∀ p ∈ parts, VR σ (f p.2) (g p.2)) :
    ((parts.map fun (i, x) => (i, f x)).toList.map (·.1)) = ((parts.map fun (i, x) => (i, g x)).toList.map (·.1)) ∧
    ∀ (i : Nat) (x y : Nat × Value), (parts.map fun (i, x) => (i, f x)).toList[i]? = some x → (parts.map fun (i, x) => (i, g x)).toList[i]? = some y → VR σ x.2 y.2 := by
  refine ⟨by simp [Function.comp_def], fun i x y hx hy => ?_⟩
  simp only [Array.toList_map, List.getElem?_map] at hx hy
  cases hp : parts.toList[i]? with
  | none => rw [hp] at hx; cases hx
  | some u => rw [hp] at hx hy; cases hx; cases hy; exact h u (Array.mem_toList_iff.1 (List.mem_of_getElem? hp))

theorem plainTuple (z : Value) : (∃ c, z = .tuple c) ∨ ∀ c, z ≠ .tuple c := by
  cases z <;> first | exact .inl ⟨_, rfl⟩ | exact .inr fun c => by simp

theorem zero_cells {z : Value} (h : plain z = true) : VRA σ z.cells z.cells := by
  rcases plainTuple z with ⟨c, rfl⟩ | hz
  · refine ⟨rfl, fun i x y hx hy => ?_⟩
    obtain rfl : x = y := Option.some.inj (hx.symm.trans hy)
    simp only [Value.cells] at hx
    match i, hx with
    | 0, hx => simp at hx; subst hx; exact VR.plain σ h
    | i + 1, hx => simp at hx
  · exact plain_cells h hz

theorem buildM_sound {t : TypeId} {α : Type} (parts : Array (Nat × α)) (f g : α → Value) (hfg : ∀ p ∈ parts, VR σ (f p.2) (g p.2)) {v : Value} (h : (buildM P t (parts.map fun (i, x) => (i, f x))).get = some v) (w : World) :
    ∃ v', (Instr.build t (parts.map fun (i, x) => (i, g x))).run P w = .ok v' w ∧ VR σ v v' := by
  obtain ⟨p1, p2⟩ := parts_map parts f g hfg
  unfold buildM at h
  split at h
  · rename_i z fs hz hu
    obtain ⟨hz1, hz2⟩ := run_zero hz w
    split at h
    · rename_i ps hps hk
      split at h
      · rename_i cs hf
        simp at h; subst h
        obtain ⟨cs', h1, h2⟩ := fill_VRA _ _ _ z.cells z.cells cs (zero_cells (σ := σ) hz2) p1 p2 hk hf
        refine ⟨.agg cs', ?_, VR.agg h2.1 h2.2⟩
        have hm := run_places hps w
        simp only [Instr.build, Sem.run_bind, hz1, Result.andThen_ok, run_underlying hu, Array.mapM_eq_mapM_toList, Sem.run_map, hm]
        have e : (fun (x : Nat) => (List.toArray ps)[x]?) = fun (i : Nat) => ps[i]? := by funext i; simp
        rw [e, h1]
        rfl
      · cases h
    · cases h
  · rename_i z len e hz hu
    obtain ⟨hz1, hz2⟩ := run_zero hz w
    split at h
    · rename_i i hi hk
      split at h
      · rename_i cs hf
        simp at h; subst h
        obtain ⟨cs', h1, h2⟩ := fill_VRA _ _ _ z.cells z.cells cs (zero_cells (σ := σ) hz2) p1 p2 hk hf
        refine ⟨.agg cs', ?_, VR.agg h2.1 h2.2⟩
        simp only [Instr.build, Sem.run_bind, hz1, Result.andThen_ok, run_underlying hu, run_sizeOf hi]
        rw [h1]
        rfl
      · cases h
    · cases h
  · cases h

theorem buildSliceM_sound (hn : Bnd n w) {t : TypeId} {len : Nat} {α : Type} (parts : Array (Nat × α)) (f g : α → Value) (hfg : ∀ p ∈ parts, VR σ (f p.2) (g p.2)) {r : (Nat → Value) × Blk} (h : (buildSliceM P t len (parts.map fun (i, x) => (i, f x))).get = some r) :
    ∃ v' o, (Instr.buildSlice t len (parts.map fun (i, x) => (i, g x))).run P w = .ok v' (w.alloc o) ∧ GoodNew n σ r v' w o := by
  obtain ⟨p1, p2⟩ := parts_map parts f g hfg
  unfold buildSliceM at h
  split at h
  · rename_i e hu
    split at h
    · rename_i i z hi hz hk
      obtain ⟨hz1, hz2⟩ := run_zero hz w
      split at h
      · rename_i cs hle hf
        simp at h; subst h
        have hzz := zero_cells (σ := σ) hz2
        have hv : VRA σ ((Array.range (len * i.size)).map fun j => z.cells[j % z.cells.size]!) ((Array.range (len * i.size)).map fun j => z.cells[j % z.cells.size]!) := by
          refine ⟨rfl, fun j x y hx hy => ?_⟩
          obtain rfl : x = y := Option.some.inj (hx.symm.trans hy)
          rw [Array.getElem?_map] at hx
          cases hj : (Array.range (len * i.size))[j]? with
          | none => rw [hj] at hx; cases hx
          | some q =>
            rw [hj] at hx; cases hx
            show VR σ (z.cells[q % z.cells.size]!) (z.cells[q % z.cells.size]!)
            rw [getElem!_def]
            cases hq : z.cells[q % z.cells.size]? with
            | none => exact VR.bool _
            | some u => exact hzz.2 _ u u hq hq
        obtain ⟨cs', h1, h2⟩ := fill_VRA _ _ _ _ _ cs hv p1 p2 hk hf
        refine ⟨.slice (some ⟨w.heap.size, 0, none⟩) len len, .cells cs' e, ?_, ⟨w.heap.size, 0, 0, 0⟩, rfl, fun σ' a hs ha => ⟨VR.slice (off := 0) ha, BR.newCells hn e (by simp [h2.1]) fun j x y hx hy => (h2.2 j x y (by simpa using hx) hy).mono hs⟩⟩
        · have hle' : ¬ len * i.size > 2 ^ 24 := by have := ble_true hle; omega
          by_cases h0 : len * i.size = 0
          · have e0 : ((Array.range (len * i.size)).map fun j => z.cells[j % z.cells.size]!) = ((Array.range (len * i.size)).map fun j => (#[] : Array Value)[j % (#[] : Array Value).size]!) := by rw [h0]; simp
            rw [e0] at h1
            simp only [Instr.buildSlice, Sem.run_bind, run_underlying hu, Result.andThen_ok, run_sizeOf hi]
            rw [if_neg hle', if_pos h0]
            simp only [Sem.run_bind, Sem.run_pure, Result.andThen_ok]
            rw [h1]
            simp [newRow]
          · simp only [Instr.buildSlice, Sem.run_bind, run_underlying hu, Result.andThen_ok, run_sizeOf hi]
            rw [if_neg hle', if_neg h0]
            simp only [Sem.run_bind, Sem.run_pure, Result.andThen_ok, hz1]
            rw [h1]
            simp [newRow]
      · cases h
    · cases h
  · cases h

theorem fieldAddrM_sound {s : TypeId} {x x' v : Value} {f : Nat} (hx : VR σ x x') (h : (fieldAddrM P s x f).get = some v) (w : World) : ∃ v', (Instr.fieldAt s x' f).run P w = .ok v' w ∧ VR σ v v' := by
  unfold fieldAddrM at h
  split at h
  · rename_i fs hu
    split at h
    · rename_i fd hfd
      split at h
      · rename_i i hi
        split at h
        · rename_i k off hb
          have hs : i.size ≠ 0 := fun e => by rw [e] at hb; cases hb
          simp at h; subst h
          obtain ⟨p, hk, rfl⟩ := hx.ptr_inv
          refine ⟨_, by simp [Instr.fieldAt, run_underlying hu, hfd, Instr.sureAddr, fieldPlace, run_sizeOf hi, hs]; rfl, ?_⟩
          rw [Addr.add_lit, Nat.add_assoc]
          exact VR.ptr hk
        · rename_i k r j hb
          have hs : i.size ≠ 0 := fun e => by rw [e] at hb; cases hb
          simp at h; subst h
          obtain ⟨p, hk, rfl⟩ := hx.ptrRow_inv
          refine ⟨_, by simp [Instr.fieldAt, run_underlying hu, hfd, Instr.sureAddr, fieldPlace, run_sizeOf hi, hs]; rfl, ?_⟩
          rw [Addr.add_lit, show p.o + (r * p.wd + j) + fd.offset = p.o + (r * p.wd + (j + fd.offset)) by omega]
          exact VR.ptrRow hk
        · cases h
      · cases h
    · cases h
  · cases h

theorem partM_sound {t : TypeId} {a a' : Array Value} {off : Nat} {v : Value} (ha : VRA σ a a') (h : (partM P t a off).get = some v) (w : World) : ∃ v', (part t a' off).run P w = .ok v' w ∧ VR σ v v' := by
  unfold partM at h
  split at h
  · rename_i hag
    simp at h
    obtain ⟨y, h1, h2⟩ := ha.get off h
    exact ⟨y, by simp [part, isAgg_one hag, h1], h2⟩
  · rename_i m hag
    simp at h; subst h
    obtain ⟨h1, h2⟩ := isAgg_agg hag w
    refine ⟨.agg (a'.extract off (off + m)), by simp [part, h1, h2], VR.agg (by simp [ha.1]) fun i x y hx hy => ?_⟩
    rw [Array.getElem?_extract] at hx hy
    rw [← ha.1] at hy
    split at hx
    · rename_i hi
      rw [if_pos hi] at hy
      exact ha.2 _ x y hx hy
    · cases hx
  · cases h
theorem fieldM_sound {s : TypeId} {x x' v : Value} {f : Nat} (hx : VR σ x x') (h : (fieldM P s x f).get = some v) (w : World) : ∃ v', (Instr.field s x' f).run P w = .ok v' w ∧ VR σ v v' := by
  unfold fieldM at h
  split at h
  · rename_i fs cs hu
    split at h
    · rename_i fd hfd
      cases hx with
      | agg hs hp =>
        obtain ⟨v', h1, h2⟩ := partM_sound (P := P) ⟨hs, hp⟩ h w
        exact ⟨v', by simp [Instr.field, run_underlying hu, hfd, asAgg, h1], h2⟩
    · cases h
  · cases h

theorem idxM_some {α : Type} {i : Int} {f : Nat → M α} {a : α} : ∀ n, (idxM i n f).get = some a → ∃ j, j < n ∧ i = (j : Int) ∧ (f j).get = some a
  | 0, h => by cases h
  | n + 1, h => by
    rcases M.get_br_some h with ⟨hb, h⟩ | ⟨_, h⟩
    · exact ⟨n, by omega, by simpa using hb, h⟩
    · obtain ⟨j, h1, h2⟩ := idxM_some n h
      exact ⟨j, by omega, h2⟩
theorem inRange_spec {i : Int} {n : Nat} (h : inRange i n = true) : 0 ≤ i ∧ i < (n : Int) := by
  unfold inRange at h
  simpa using h
theorem run_indexAt_in {t e : TypeId} {inf : TypeInfo} {a : Addr} {len cap : Nat} {k : IntKind} {i : Int} (hu : P.underlying t = some (.slice e)) (hi : P.info? e = some inf) (h : 0 ≤ i ∧ i < (len : Int)) (w : World) :
    (Instr.indexAt t (.slice (some a) len cap) (.int k i)).run P w = .ok (.pointer (some (a.add (i.toNat * inf.size)))) w := by
  simp [Instr.indexAt, run_underlying hu, asIntOf, run_sizeOf hi, h]
theorem run_indexAt_arr {t e : TypeId} {inf : TypeInfo} {a : Addr} {len : Nat} {k : IntKind} {i : Int} (hu : P.underlying t = some (.array len e)) (hi : P.info? e = some inf) (h : 0 ≤ i ∧ i < (len : Int)) (w : World) :
    (Instr.indexAt t (.pointer (some a)) (.int k i)).run P w = .ok (.pointer (some (a.add (i.toNat * inf.size)))) w := by
  simp [Instr.indexAt, run_underlying hu, asIntOf, run_sizeOf hi, h, Instr.sureAddr]

theorem VR.int_inv {k : IntKind} {i : Int} {v' : Value} (h : VR σ (.int k i) v') : v' = .int k i := h.plain1_eq rfl
theorem VR.slice_inv {k off l c : Nat} {v' : Value} (h : VR σ (.slice (some ⟨k, off, none⟩) l c) v') : ∃ p, σ k = some p ∧ v' = .slice (some ⟨p.b, p.o + off, none⟩) l c := by
  cases h with
  | slice h => exact ⟨_, h, rfl⟩
theorem VR.sliceRow_inv {k i l c : Nat} {v' : Value} (h : VR σ (.slice (some ⟨k, i, some 0⟩) l c) v') : ∃ p, σ k = some p ∧ v' = .slice (some ⟨p.b, p.o + i * p.wd, none⟩) l c := by
  cases h with
  | sliceRow h => exact ⟨_, h, rfl⟩
theorem VR.vec_inv {k l : Nat} {v' : Value} (h : VR σ (.slice (some ⟨k, 0, some 1⟩) l 0) v') : ∃ p, σ k = some p ∧ l ≤ p.cap ∧ v' = .slice (some ⟨p.b, p.o, none⟩) l p.cap := by
  cases h with
  | vec h hl => exact ⟨_, h, hl, rfl⟩

theorem indexAddrM_sound (hr : HR n w0 G σ lh w) {t : TypeId} {x x' ix ix' v : Value} (hx : VR σ x x') (hix : VR σ ix ix') (h : (indexAddrM P t x ix lh).get = some v) :
    ∃ v', (Instr.indexAt t x' ix').run P w = .ok v' w ∧ VR σ v v' := by
  unfold indexAddrM at h
  split at h
  · rename_i ik i
    obtain rfl := hix.int_inv
    split at h
    · rename_i len e k off hu
      obtain ⟨p, hk, rfl⟩ := hx.ptr_inv
      split at h
      · rename_i inf hi
        obtain ⟨j, hj, rfl, hv⟩ := idxM_some _ h
        simp at hv; subst hv
        refine ⟨_, run_indexAt_arr hu hi ⟨by omega, by omega⟩ w, ?_⟩
        rw [Addr.add_lit, Int.toNat_natCast, Nat.add_assoc]
        exact VR.ptr hk
      · cases h
    · rename_i e k off len cap hu
      obtain ⟨p, hk, rfl⟩ := hx.slice_inv
      split at h
      · rename_i inf hi
        split at h
        · obtain ⟨j, hj, rfl, hv⟩ := idxM_some _ h
          simp at hv; subst hv
          refine ⟨_, run_indexAt_in hu hi ⟨by omega, by omega⟩ w, ?_⟩
          rw [Addr.add_lit, Int.toNat_natCast, Nat.add_assoc]
          exact VR.ptr hk
        · split at h
          · rename_i hsz
            rcases M.get_br_some h with ⟨hb, hv⟩ | ⟨_, hv⟩
            · simp at hv; subst hv
              refine ⟨_, run_indexAt_in hu hi (inRange_spec hb) w, ?_⟩
              rw [Addr.add_lit, hsz, Nat.mul_one, Nat.add_assoc]
              exact VR.ptr hk
            · cases hv
          · cases h
        · cases h
      · cases h
    · rename_i e k r len cap hu
      obtain ⟨p, hk, rfl⟩ := hx.sliceRow_inv
      split at h
      · rename_i inf hi
        split at h
        · rename_i ow wr wd m g hl
          rcases M.get_br_some h with ⟨hb, h⟩ | ⟨_, hv⟩
          · rcases M.get_br_some h with ⟨hb2, hv⟩ | ⟨_, hv⟩
            · simp at hv; subst hv
              refine ⟨_, run_indexAt_in hu hi (inRange_spec hb2) w, ?_⟩
              have hwd := (hr.rows_at hk hl).1
              rw [Addr.add_lit, ← beq_true hb, ← hwd, show p.o + r * p.wd + i.toNat * p.wd = p.o + ((r + i.toNat) * p.wd + 0) by rw [Nat.add_mul]; omega]
              exact VR.ptrRow hk
            · cases hv
          · cases hv
        · cases h
      · cases h
    · rename_i e k len cap hu
      obtain ⟨A, c', rfl, hA⟩ : ∃ A c', x' = .slice A len c' ∧ ((∃ p, σ k = some p ∧ A = some ⟨p.b, p.o, none⟩) ∨ len = 0) := by
        cases hx with
        | arg h hc => exact ⟨_, _, rfl, h⟩
      split at h
      · rename_i inf hi
        split at h
        · split at h
          · rename_i hsz
            rcases M.get_br_some h with ⟨hb, hv⟩ | ⟨_, hv⟩
            · simp at hv; subst hv
              rcases hA with ⟨p, hk, rfl⟩ | rfl
              · refine ⟨_, run_indexAt_in hu hi (inRange_spec hb) w, ?_⟩
                rw [Addr.add_lit, hsz, Nat.mul_one]
                exact VR.ptr hk
              · exact absurd (inRange_spec hb).2 (by have := (inRange_spec hb).1; omega)
            · cases hv
          · cases h
        · rename_i ow wr wd m g hl
          rcases M.get_br_some h with ⟨hb, h⟩ | ⟨_, hv⟩
          · rcases M.get_br_some h with ⟨hb2, hv⟩ | ⟨_, hv⟩
            · simp at hv; subst hv
              rcases hA with ⟨p, hk, rfl⟩ | rfl
              · refine ⟨_, run_indexAt_in hu hi (inRange_spec hb2) w, ?_⟩
                have hwd := (hr.rows_at hk hl).1
                rw [Addr.add_lit, ← beq_true hb, ← hwd, show p.o + i.toNat * p.wd = p.o + (i.toNat * p.wd + 0) by omega]
                exact VR.ptrRow hk
              · exact absurd (inRange_spec hb2).2 (by have := (inRange_spec hb2).1; omega)
            · cases hv
          · cases hv
        · cases h
      · cases h
    · rename_i e k len cap hu
      split at h
      · rename_i inf hi
        have hx0 := hx
        obtain ⟨p, hk, hl0, rfl⟩ : ∃ p, σ k = some p ∧ len ≤ p.cap ∧ x' = .slice (some ⟨p.b, p.o, none⟩) len p.cap := by
          cases hx with
          | vec h hl => exact ⟨_, h, hl, rfl⟩
        split at h
        · split at h
          · rename_i hsz
            rcases M.get_br_some h with ⟨hb, hv⟩ | ⟨_, hv⟩
            · simp at hv; subst hv
              refine ⟨_, run_indexAt_in hu hi (inRange_spec hb) w, ?_⟩
              rw [Addr.add_lit, hsz, Nat.mul_one]
              exact VR.ptr hk
            · cases hv
          · cases h
        · rename_i ow wr wd m g hl
          rcases M.get_br_some h with ⟨hb, h⟩ | ⟨_, hv⟩
          · rcases M.get_br_some h with ⟨hb2, hv⟩ | ⟨_, hv⟩
            · simp at hv; subst hv
              refine ⟨_, run_indexAt_in hu hi (inRange_spec hb2) w, ?_⟩
              have hwd := (hr.rows_at hk hl).1
              rw [Addr.add_lit, ← beq_true hb, ← hwd, show p.o + i.toNat * p.wd = p.o + (i.toNat * p.wd + 0) by omega]
              exact VR.ptrRow hk
            · cases hv
          · cases hv
        · cases h
      · cases h
    · cases h
  · cases h

theorem indexM_sound {t : TypeId} {x x' ix ix' v : Value} (hx : VR σ x x') (hix : VR σ ix ix') (h : (indexM P t x ix).get = some v) (w : World) :
    ∃ v', (Instr.index t x' ix').run P w = .ok v' w ∧ VR σ v v' := by
  unfold indexM at h
  split at h
  · rename_i k i len e cs hu
    obtain rfl := hix.int_inv
    split at h
    · rename_i inf hi
      obtain ⟨j, hj, rfl, hv⟩ := idxM_some _ h
      cases hx with
      | agg hs hp =>
        obtain ⟨v', h1, h2⟩ := partM_sound (P := P) ⟨hs, hp⟩ hv w
        refine ⟨v', ?_, h2⟩
        have hb : (0 : Int) ≤ (j : Int) ∧ (j : Int) < (len : Int) := ⟨by omega, by omega⟩
        simp only [Instr.index, asIntOf, Sem.run_bind, Sem.run_pure, Result.andThen_ok, run_underlying hu]
        rw [if_pos hb]
        simp [run_sizeOf hi, h1]
    · cases h
  · cases h

theorem boundM_sound {x x' : Value} {y r : Nat} (c : BoundsCode) (hx : VR σ x x') (h : (boundM x y).get = some r) (w : World) : (Instr.sliceBound x' y c).run P w = .ok r w := by
  unfold boundM at h
  split at h
  · rename_i k i
    obtain rfl := hx.int_inv
    rcases M.get_br_some h with ⟨hb, hv⟩ | ⟨_, hv⟩
    · simp at hv hb; subst hv
      simp [Instr.sliceBound, asIntOf, hb]
    · cases hv
  · cases h
def VRO (σ : Nat → Option Pl) : Option Value → Option Value → Prop
  | none, none => True
  | some x, some y => VR σ x y
  | _, _ => False
theorem boundsM_sound {lo lo' hi hi' mx mx' : Option Value} {len cap : Nat} {r : Nat × Nat × Nat} (b : Bool) (h1 : VRO σ lo lo') (h2 : VRO σ hi hi') (h3 : VRO σ mx mx') (h : (boundsM len cap lo hi mx).get = some r) (w : World) :
    (Instr.sliceBounds b len cap lo' hi' mx').run P w = .ok r w := by
  unfold boundsM at h
  obtain ⟨m, hm, h⟩ := M.get_bind_some h
  obtain ⟨q, hq, h⟩ := M.get_bind_some h
  obtain ⟨l, hl, h⟩ := M.get_bind_some h
  simp at h; subst h
  unfold Instr.sliceBounds
  cases mx <;> cases mx' <;> simp only [VRO] at h3 <;> try exact h3.elim
  · simp at hm; subst hm
    cases hi <;> cases hi' <;> simp only [VRO] at h2 <;> try exact h2.elim
    · simp at hq; subst hq
      cases lo <;> cases lo' <;> simp only [VRO] at h1 <;> try exact h1.elim
      · simp at hl; subst hl; simp
      · simp [boundM_sound _ h1 hl]
    · cases lo <;> cases lo' <;> simp only [VRO] at h1 <;> try exact h1.elim
      · simp at hl; subst hl; simp [boundM_sound _ h2 hq]
      · simp [boundM_sound _ h2 hq, boundM_sound _ h1 hl]
  · cases hi <;> cases hi' <;> simp only [VRO] at h2 <;> try exact h2.elim
    · cases hq
    · cases lo <;> cases lo' <;> simp only [VRO] at h1 <;> try exact h1.elim
      · simp at hl; subst hl; simp [boundM_sound _ h3 hm, boundM_sound _ h2 hq]
      · simp [boundM_sound _ h3 hm, boundM_sound _ h2 hq, boundM_sound _ h1 hl]

theorem VRO.map (f g : Operand → Value) (o : Option Operand) (h : ∀ x ∈ o, VR σ (f x) (g x)) : VRO σ (o.map f) (o.map g) := by
  cases o with
  | none => trivial
  | some x => exact h x rfl
end
end Go.Sx

/- The operations of the symbolic run are the model's: slices, operators, numbers. No condition of its own. -/
namespace Go.Sx
open Go Go.RowKit
set_option linter.unusedVariables false
set_option linter.unusedSimpArgs false
section
variable {P : Program} {n : Nat → Prop} {w0 : World} {G : Nat} {σ : Nat → Option Pl} {lh : List Blk} {w : World}

theorem boundsM_more {len c c' : Nat} {lo hi : Option Value} {mv : Value} {r : Nat × Nat × Nat} (hc : c ≤ c') (h : (boundsM len c lo hi (some mv)).get = some r) : (boundsM len c' lo hi (some mv)).get = some r := by
  unfold boundsM at h ⊢
  obtain ⟨m, hm, h⟩ := M.get_bind_some h
  have hm' : (boundM mv c').get = some m := by
    simp only at hm
    unfold boundM at hm ⊢
    split at hm
    · rename_i k i
      rcases M.get_br_some hm with ⟨hb, hv⟩ | ⟨_, hv⟩
      · simp only [Bool.and_eq_true, decide_eq_true_eq] at hb
        simp only [M.get_br]
        rw [if_pos (by simp; omega)]
        exact hv
      · cases hv
    · cases hm
  rw [M.get_bind]
  simp only
  rw [hm']
  cases hi <;> exact h
theorem sliceM_sound {t : TypeId} {x x' v : Value} {lo lo' hi hi' mx mx' : Option Value} (hx : VR σ x x') (h1 : VRO σ lo lo') (h2 : VRO σ hi hi') (h3 : VRO σ mx mx') (h : (sliceM P t x lo hi mx).get = some v) (w : World) :
    ∃ v', (Instr.sliceAt t x' lo' hi' mx').run P w = .ok v' w ∧ VR σ v v' := by
  unfold sliceM at h
  split at h
  · rename_i m e k off hu
    obtain ⟨p, hk, rfl⟩ := hx.ptr_inv
    split at h
    · rename_i inf hi0
      rcases M.get_br_some h with ⟨_, hv⟩ | ⟨hb, hv⟩
      · cases hv
      · simp at hv; subst hv
        cases lo' <;> simp only [VRO] at h1
        cases hi' <;> simp only [VRO] at h2
        cases mx' <;> simp only [VRO] at h3
        refine ⟨_, ?_, VR.slice hk⟩
        simp [Instr.sliceAt, run_underlying hu, Instr.sureAddr, Instr.sliceBounds, run_sizeOf hi0, Addr.add_zero']
    · cases h
  · rename_i e k off len cap hu
    obtain ⟨p, hk, rfl⟩ := hx.slice_inv
    split at h
    · rename_i inf hi0
      obtain ⟨r, hr, h⟩ := M.get_bind_some h
      have hb := boundsM_sound (P := P) true h1 h2 h3 hr w
      have run : (Instr.sliceAt t (.slice (some ⟨p.b, p.o + off, none⟩) len cap) lo' hi' mx').run P w = .ok (.slice (if r.2.2 = r.1 then some ⟨p.b, p.o + off, none⟩ else some ⟨p.b, p.o + off + r.1 * inf.size, none⟩) (r.2.1 - r.1) (r.2.2 - r.1)) w := by
        simp only [Instr.sliceAt, Instr.slice, Sem.run_bind, run_underlying hu, Result.andThen_ok, hb, run_sizeOf hi0, Sem.run_pure, Option.map_some, Addr.add_lit]
      rcases M.get_br_some h with ⟨hc, hv⟩ | ⟨hc, hv⟩
      · simp at hv; subst hv
        rw [if_pos (beq_true hc)] at run
        exact ⟨_, run, VR.slice hk⟩
      · simp at hv; subst hv
        rw [if_neg (fun e => by rw [e, Nat.beq_refl] at hc; cases hc)] at run
        refine ⟨_, run, ?_⟩
        rw [Nat.add_assoc]
        exact VR.slice hk
    · cases h
  · rename_i e k len cc hu
    obtain ⟨A, c', rfl, hA, hle⟩ : ∃ A c', x' = .slice A len c' ∧ ((∃ p, σ k = some p ∧ A = some ⟨p.b, p.o, none⟩) ∨ len = 0) ∧ len ≤ c' := by
      cases hx with
      | arg h hc => exact ⟨_, _, rfl, h, hc⟩
    split at h
    · rename_i inf mv hi0
      rcases M.get_br_some h with ⟨h0, h⟩ | ⟨_, h⟩
      · have h0 := blt_true h0
        obtain ⟨p, hk, rfl⟩ : ∃ p, σ k = some p ∧ A = some ⟨p.b, p.o, none⟩ := by
          rcases hA with h | h
          · exact h
          · omega
        obtain ⟨r, hr, h⟩ := M.get_bind_some h
        have hr' : (boundsM len c' lo hi (some mv)).get = some r := boundsM_more hle hr
        have hb := boundsM_sound (P := P) true h1 h2 h3 hr' w
        have run : (Instr.sliceAt t (.slice (some ⟨p.b, p.o, none⟩) len c') lo' hi' mx').run P w = .ok (.slice (if r.2.2 = r.1 then some ⟨p.b, p.o, none⟩ else some ⟨p.b, p.o + r.1 * inf.size, none⟩) (r.2.1 - r.1) (r.2.2 - r.1)) w := by
          simp only [Instr.sliceAt, Instr.slice, Sem.run_bind, run_underlying hu, Result.andThen_ok, hb, run_sizeOf hi0, Sem.run_pure, Option.map_some, Addr.add_lit]
        rcases M.get_br_some h with ⟨hc, hv⟩ | ⟨hc, hv⟩
        · simp only [M.get_ret, Option.some.injEq] at hv; subst hv
          rw [if_pos (beq_true hc)] at run
          exact ⟨_, run, VR.slice (off := 0) hk⟩
        · simp only [M.get_ret, Option.some.injEq] at hv; subst hv
          rw [if_neg (fun e => by rw [e, Nat.beq_refl] at hc; cases hc)] at run
          refine ⟨_, run, ?_⟩
          have := VR.slice (off := 0 + r.1 * inf.size) (l := r.2.1 - r.1) (c := r.2.2 - r.1) hk
          simpa using this
      · cases h
    · cases h
  · rename_i e k off l c hu
    obtain ⟨p, hk, hle, rfl⟩ : ∃ p, σ k = some p ∧ l ≤ p.cap ∧ x' = .slice (some ⟨p.b, p.o, none⟩) l p.cap := by
      cases hx with
      | vec h hl => exact ⟨_, h, hl, rfl⟩
    obtain ⟨a, ha⟩ : ∃ a : Addr, a = ⟨p.b, p.o, none⟩ := ⟨_, rfl⟩
    split at h
    · rename_i inf kk kk' hi0
      simp at h; subst h
      cases lo' <;> simp only [VRO] at h1
      cases hi' <;> simp only [VRO] at h2
      cases mx' <;> simp only [VRO] at h3
      obtain rfl := h2.int_inv
      obtain rfl := h3.int_inv
      rw [← ha]
      refine ⟨.slice (some a) 0 0, ?_, VR.empty a⟩
      simp [Instr.sliceAt, Instr.slice, run_underlying hu, Instr.sliceBounds, Instr.sliceBound, asIntOf, run_sizeOf hi0]
    · rename_i inf kk kk' kk'' hi0
      simp at h; subst h
      cases lo' <;> simp only [VRO] at h1
      cases hi' <;> simp only [VRO] at h2
      cases mx' <;> simp only [VRO] at h3
      obtain rfl := h1.int_inv
      obtain rfl := h2.int_inv
      obtain rfl := h3.int_inv
      rw [← ha]
      refine ⟨.slice (some a) 0 0, ?_, VR.empty a⟩
      simp [Instr.sliceAt, Instr.slice, run_underlying hu, Instr.sliceBounds, Instr.sliceBound, asIntOf, run_sizeOf hi0]
    · rename_i inf mv hi1 _ _
      obtain ⟨r, hr, h⟩ := M.get_bind_some h
      have hr' := boundsM_more hle hr
      have hb := boundsM_sound (P := P) true h1 h2 h3 hr' w
      have run : (Instr.sliceAt t (.slice (some ⟨p.b, p.o, none⟩) l p.cap) lo' hi' mx').run P w = .ok (.slice (if r.2.2 = r.1 then some ⟨p.b, p.o, none⟩ else some ⟨p.b, p.o + r.1 * inf.size, none⟩) (r.2.1 - r.1) (r.2.2 - r.1)) w := by
        simp only [Instr.sliceAt, Instr.slice, Sem.run_bind, run_underlying hu, Result.andThen_ok, hb, run_sizeOf hi1, Sem.run_pure, Option.map_some, Addr.add_lit]
      rcases M.get_br_some h with ⟨hc, hv⟩ | ⟨hc, hv⟩
      · simp only [M.get_ret, Option.some.injEq] at hv; subst hv
        rw [if_pos (beq_true hc)] at run
        exact ⟨_, run, VR.slice (off := 0) hk⟩
      · simp only [M.get_ret, Option.some.injEq] at hv; subst hv
        rw [if_neg (fun e => by rw [e, Nat.beq_refl] at hc; cases hc)] at run
        refine ⟨_, run, ?_⟩
        have := VR.slice (off := 0 + r.1 * inf.size) (l := r.2.1 - r.1) (c := r.2.2 - r.1) hk
        simpa using this
    · cases h
  · rename_i e hu
    obtain rfl := hx.plain1_eq rfl
    split at h
    · rename_i inf hi0
      obtain ⟨r, hr, h⟩ := M.get_bind_some h
      have hb := boundsM_sound (P := P) true h1 h2 h3 hr w
      simp at h; subst h
      refine ⟨.slice none (r.2.1 - r.1) (r.2.2 - r.1), ?_, VR.sliceNil _ _⟩
      simp [Instr.sliceAt, Instr.slice, run_underlying hu, hb, run_sizeOf hi0]
    · cases h
  · cases h

theorem extractM_sound {x x' v : Value} {i : Nat} (hx : VR σ x x') (h : (extractM x i).get = some v) (w : World) : ∃ v', (Instr.extract x' i).run P w = .ok v' w ∧ VR σ v v' := by
  unfold extractM at h
  split at h
  · rename_i vs
    simp at h
    cases hx with
    | any => simp at h
    | tuple hs hp =>
      obtain ⟨y, h1, h2⟩ := (show VRA σ _ _ from ⟨hs, hp⟩).get i h
      exact ⟨y, by simp [Instr.extract, h1], h2⟩
  · cases h

/-! ### == of structs -/
def fieldsPat (P : Program) : List Field → Nat → List Bool → Bool
  | [], _, [] => true
  | f :: r, k, b :: p => Nat.beq f.offset k && (f.name != "_") && (match P.underlying f.type with | some .bool => b | some (.int _) => !b | _ => false) && fieldsPat P r (k + 1) p
  | _, _, _ => false
/-- The struct type t is compared cell by cell. -/
def eqTypeOK (P : Program) (t : TypeId) (pat : List Bool) : Bool :=
  match P.underlying t with
  | some (.struct fs) => !(P.stoodInHeld t) && !(P.eqGuardType P.depth t) && fieldsPat P fs.toList 0 pat
  | _ => false

theorem run_part_one {t : TypeId} {cs : Array Value} {k : Nat} {v : Value} (ht : P.underlying t = some .bool ∨ ∃ q, P.underlying t = some (.int q)) (hv : cs[k]? = some v) (w : World) : (part t cs k).run P w = .ok v w := by
  have hag : (isAgg t).run P w = .ok false w := by
    rcases ht with h | ⟨q, h⟩ <;> simp [isAgg, run_underlying h]
  simp [part, hag, hv]
theorem eqFields_pat (d : Nat) (xs ys : Array Value) (w : World) : ∀ (fs : List Field) (k : Nat) (pat : List Bool) (b : Bool), fieldsPat P fs k pat = true →
    eqCells pat (xs.toList.drop k) (ys.toList.drop k) = some b → (Op.eqFields (d + 1) xs ys fs).run P w = .ok b w
  | [], k, pat, b, hf, h => by
    cases pat with
    | nil =>
      cases hx : xs.toList.drop k <;> cases hy : ys.toList.drop k <;> simp [eqCells, hx, hy] at h
      subst h; rfl
    | cons c p => cases hf
  | f :: r, k, pat, b, hf, h => by
    cases pat with
    | nil => cases hf
    | cons c p =>
      simp only [fieldsPat, Bool.and_eq_true] at hf
      obtain ⟨⟨⟨ho, hn⟩, ht⟩, hr⟩ := hf
      have ho' : f.offset = k := beq_true ho
      have hn' : f.name ≠ "_" := by simpa using hn
      have ht' : P.underlying f.type = some .bool ∧ c = true ∨ (∃ q, P.underlying f.type = some (.int q)) ∧ c = false := by
        split at ht
        · rename_i hu; exact .inl ⟨hu, ht⟩
        · rename_i q hu; exact .inr ⟨⟨q, hu⟩, by simpa using ht⟩
        · cases ht
      cases hx : xs.toList.drop k with
      | nil => cases c <;> simp [eqCells, hx] at h
      | cons x rx =>
        cases hy : ys.toList.drop k with
        | nil => cases c <;> cases x <;> simp [eqCells, hx, hy] at h
        | cons y ry =>
          have gx : xs[k]? = some x := by
            have := List.getElem?_drop (xs := xs.toList) (i := k) (j := 0)
            rw [hx] at this; simpa using this.symm
          have gy : ys[k]? = some y := by
            have := List.getElem?_drop (xs := ys.toList) (i := k) (j := 0)
            rw [hy] at this; simpa using this.symm
          have dx : rx = xs.toList.drop (k + 1) := by rw [← List.drop_drop, hx]; rfl
          have dy : ry = ys.toList.drop (k + 1) := by rw [← List.drop_drop, hy]; rfl
          rw [hx, hy] at h
          have key : ∀ (e : Bool), (Op.equalIn (d + 1) f.type x y).run P w = .ok e w → (∃ b', eqCells p rx ry = some b' ∧ b = (e && b')) → (Op.eqFields (d + 1) xs ys (f :: r)).run P w = .ok b w := by
            rintro e he ⟨b', hb', rfl⟩
            have ih := eqFields_pat d xs ys w r (k + 1) p b' hr (by rw [← dx, ← dy]; exact hb')
            have htt : P.underlying f.type = some .bool ∨ ∃ q, P.underlying f.type = some (.int q) := by
              rcases ht' with h | h
              · exact .inl h.1
              · exact .inr h.1
            simp only [Op.eqFields, hn', ne_eq, not_false_eq_true, if_true, Sem.run_bind]
            rw [ho', run_part_one htt gx, Result.andThen_ok, run_part_one htt gy, Result.andThen_ok, he, Result.andThen_ok]
            cases e
            · simp
            · simpa using ih
          rcases ht' with ⟨hu, rfl⟩ | ⟨⟨q, hu⟩, rfl⟩
          · cases x <;> cases y <;> simp only [eqCells] at h <;> try cases h
            rename_i a a'
            cases hq : eqCells p rx ry with
            | none => rw [hq] at h; cases h
            | some b' =>
              rw [hq] at h
              simp at h
              exact key _ (run_equalIn_bool' w d f.type a a' hu) ⟨b', hq, h.symm⟩
          · cases x <;> cases y <;> simp only [eqCells] at h <;> try cases h
            rename_i k1 a k2 a'
            by_cases hkk : k1 = k2
            · subst hkk
              cases hq : eqCells p rx ry with
              | none => rw [hq] at h; simp at h
              | some b' =>
                rw [hq] at h
                simp at h
                exact key _ (run_equalIn_int w d f.type k1 q a a' hu) ⟨b', hq, h.symm⟩
            · simp [hkk] at h

theorem run_eq_struct {t : TypeId} {pat : List Bool} (hok : eqTypeOK P t pat = true) {xs ys : Array Value} {b : Bool} (h : eqCells pat xs.toList ys.toList = some b) (o1 o2 : Operand) (w : World) :
    (eqGuard .eql t o1 o2 (.agg xs) (.agg ys)).run P w = .ok () w ∧ (eqGuard .neq t o1 o2 (.agg xs) (.agg ys)).run P w = .ok () w ∧ (Op.equal t (.agg xs) (.agg ys)).run P w = .ok b w := by
  unfold eqTypeOK at hok
  split at hok
  · rename_i fs hu
    simp only [Bool.and_eq_true, Bool.not_eq_true'] at hok
    obtain ⟨⟨hs, hg⟩, hf⟩ := hok
    refine ⟨by simp [eqGuard, hg], by simp [eqGuard, hg], ?_⟩
    have hfo : P.fieldsOf t = fs := by unfold Program.fieldsOf; rw [hu]
    unfold Op.equal
    rw [show Op.maxDepth = 9998 + 1 + 1 from rfl, run_equalIn_struct w (9998 + 1) t xs ys (by rw [hfo]; exact hu) hs, hfo]
    exact eqFields_pat 9998 xs ys w _ 0 pat b hf (by simpa using h)
  · cases hok

theorem eqCells_plain : ∀ (pat : List Bool) (xs ys : List Value) (b : Bool), eqCells pat xs ys = some b → (∀ x ∈ xs, plain1 x = true) ∧ ∀ y ∈ ys, plain1 y = true
  | [], [], [], _, _ => ⟨by simp, by simp⟩
  | [], [], _ :: _, _, h => by simp [eqCells] at h
  | [], _ :: _, _, _, h => by simp [eqCells] at h
  | c :: p, [], _, _, h => by cases c <;> simp [eqCells] at h
  | c :: p, x :: _, [], _, h => by cases c <;> cases x <;> simp [eqCells] at h
  | c :: p, x :: r, y :: r', b, h => by
    cases c <;> cases x <;> cases y <;> simp only [eqCells] at h <;> try cases h
    · rename_i k a k' a'
      by_cases hk : k = k'
      · cases hq : eqCells p r r' with
        | none => rw [hq] at h; simp [hk] at h
        | some e =>
          obtain ⟨h1, h2⟩ := eqCells_plain p r r' e hq
          exact ⟨List.forall_mem_cons.2 ⟨rfl, h1⟩, List.forall_mem_cons.2 ⟨rfl, h2⟩⟩
      · simp [hk] at h
    · cases hq : eqCells p r r' with
      | none => rw [hq] at h; cases h
      | some e =>
        obtain ⟨h1, h2⟩ := eqCells_plain p r r' e hq
        exact ⟨List.forall_mem_cons.2 ⟨rfl, h1⟩, List.forall_mem_cons.2 ⟨rfl, h2⟩⟩
theorem VRA.plain_eq {a a' : Array Value} (h : VRA σ a a') (hp : ∀ x ∈ a.toList, plain1 x = true) : a' = a := by
  refine Array.ext h.1.symm fun i h1 h2 => ?_
  exact (h.2 i _ _ (Array.getElem?_eq_getElem h2) (Array.getElem?_eq_getElem h1)).plain1_eq (hp _ (by simp))

def EqsOK (E : Env) : Prop := ∀ e ∈ E.eqs, eqTypeOK E.P e.1 e.2 = true
theorem eqPat_ok {E : Env} (hE : EqsOK E) {t : TypeId} {p : List Bool} (h : eqPat E t = some p) : eqTypeOK E.P t p = true := by
  unfold eqPat at h
  cases hf : E.eqs.find? fun e => Nat.beq e.1 t with
  | none => rw [hf] at h; cases h
  | some e =>
    rw [hf] at h; cases h
    have h1 := List.find?_some hf
    have h2 := hE e (List.mem_of_find?_eq_some hf)
    rw [beq_true h1] at h2
    exact h2

theorem run_equal_nil {t e : TypeId} (hu : P.underlying t = some (.pointer e)) (a : Option Addr) (w : World) : (Op.equal t (.pointer a) (.pointer none)).run P w = .ok a.isNone w := by
  have key : ∀ d, (Op.equalIn (d + 1) t (.pointer a) (.pointer none)).run P w = .ok a.isNone w := by
    intro d
    cases a <;> simp [Op.equalIn, run_underlying hu]
  exact key 9999
theorem run_equal_nilSlice {t e : TypeId} (hu : P.underlying t = some (.slice e)) (a : Option Addr) (l c : Nat) (w : World) : (Op.equal t (.slice a l c) (.slice none 0 0)).run P w = .ok a.isNone w := by
  have key : ∀ d, (Op.equalIn (d + 1) t (.slice a l c) (.slice none 0 0)).run P w = .ok a.isNone w := by
    intro d
    cases a <;> simp [Op.equalIn, run_underlying hu]
  exact key 9999
theorem run_equal_nilFunc {t : TypeId} {d1 d2 d3} (hu : P.underlying t = some (.func d1 d2 d3)) (f : Fn) (a c : Array Value) (w : World) : (Op.equal t (.func f a c) .nilFunc).run P w = .ok false w := by
  have key : ∀ d, (Op.equalIn (d + 1) t (.func f a c) .nilFunc).run P w = .ok false w := by
    intro d
    simp [Op.equalIn, run_underlying hu]
  exact key 9999
theorem run_equal_nilNil {t : TypeId} {d1 d2 d3} (hu : P.underlying t = some (.func d1 d2 d3)) (w : World) : (Op.equal t .nilFunc .nilFunc).run P w = .ok true w := by
  have key : ∀ d, (Op.equalIn (d + 1) t .nilFunc .nilFunc).run P w = .ok true w := by
    intro d
    simp [Op.equalIn, run_underlying hu]
  exact key 9999
set_option maxHeartbeats 1000000 in
theorem binM_sound {E : Env} (hE : EqsOK E) {op : BinOp} {t : TypeId} {x x' y y' v : Value} (o1 o2 : Operand) (hx : VR σ x x') (hy : VR σ y y') (h : (binM E op t x y).get = some v) (w : World) :
    ∃ v', (do eqGuard op t o1 o2 x' y'; binOp op t x' y').run E.P w = .ok v' w ∧ VR σ v v' := by
  have kk : ∀ {k k' : IntKind} {m : M Value}, (M.br (decide (k = k')) m .bad).get = some v → k = k' ∧ m.get = some v := by
    intro k k' m h
    rcases M.get_br_some h with ⟨hb, h⟩ | ⟨_, h⟩
    · exact ⟨by simpa using hb, h⟩
    · cases h
  unfold binM at h
  split at h
  · obtain rfl := hx.int_inv; obtain rfl := hy.int_inv
    rcases M.get_br_some h with ⟨_, h⟩ | ⟨hb, h⟩
    · cases h
    · simp only [M.get_ret, Option.some.injEq] at h; simp at hb; subst h
      exact ⟨_, by simp only [eqGuard_at_int, binOp_shl, Op.shift, if_neg (Int.not_lt.2 hb), Sem.run_bind, Sem.run_pure, Result.andThen_ok], VR.int _ _⟩
  · obtain rfl := hx.int_inv; obtain rfl := hy.int_inv
    rcases M.get_br_some h with ⟨_, h⟩ | ⟨hb, h⟩
    · cases h
    · simp only [M.get_ret, Option.some.injEq] at h; simp at hb; subst h
      exact ⟨_, by simp only [eqGuard_at_int, binOp_shr, Op.shift, if_neg (Int.not_lt.2 hb), Sem.run_bind, Sem.run_pure, Result.andThen_ok], VR.int _ _⟩
  · obtain rfl := hx.int_inv; obtain rfl := hy.int_inv
    obtain ⟨rfl, hk⟩ := kk h; simp only [M.get_ret, Option.some.injEq] at hk; subst hk
    exact ⟨_, by simp only [eqGuard_at_int, binOp_add, Op.intArith, Sem.run_bind, Sem.run_pure, Result.andThen_ok], VR.int _ _⟩
  · obtain rfl := hx.int_inv; obtain rfl := hy.int_inv
    obtain ⟨rfl, hk⟩ := kk h; simp only [M.get_ret, Option.some.injEq] at hk; subst hk
    exact ⟨_, by simp only [eqGuard_at_int, binOp_sub, Op.intArith, Sem.run_bind, Sem.run_pure, Result.andThen_ok], VR.int _ _⟩
  · obtain rfl := hx.int_inv; obtain rfl := hy.int_inv
    obtain ⟨rfl, hk⟩ := kk h; simp only [M.get_ret, Option.some.injEq] at hk; subst hk
    exact ⟨_, by simp only [eqGuard_at_int, binOp_mul, Op.intArith, Sem.run_bind, Sem.run_pure, Result.andThen_ok], VR.int _ _⟩
  · obtain rfl := hx.int_inv; obtain rfl := hy.int_inv
    obtain ⟨rfl, hk⟩ := kk h
    clear h
    rcases M.get_br_some hk with ⟨_, h⟩ | ⟨hb, h⟩
    · cases h
    · simp only [M.get_ret, Option.some.injEq] at h; simp at hb; subst h
      exact ⟨_, by simp only [eqGuard_at_int, binOp_quo, Op.intDiv, if_neg hb, Sem.run_bind, Sem.run_pure, Result.andThen_ok], VR.int _ _⟩
  · obtain rfl := hx.int_inv; obtain rfl := hy.int_inv
    obtain ⟨rfl, hk⟩ := kk h
    clear h
    rcases M.get_br_some hk with ⟨_, h⟩ | ⟨hb, h⟩
    · cases h
    · simp only [M.get_ret, Option.some.injEq] at h; simp at hb; subst h
      exact ⟨_, by simp only [eqGuard_at_int, binOp_rem, Op.intDiv, if_neg hb, Sem.run_bind, Sem.run_pure, Result.andThen_ok], VR.int _ _⟩
  · obtain rfl := hx.int_inv; obtain rfl := hy.int_inv
    obtain ⟨rfl, hk⟩ := kk h; simp only [M.get_ret, Option.some.injEq] at hk; subst hk
    exact ⟨_, by simp only [eqGuard_at_int, binOp_and, intBits_and, Sem.run_bind, Sem.run_pure, Result.andThen_ok], VR.int _ _⟩
  · obtain rfl := hx.int_inv; obtain rfl := hy.int_inv
    obtain ⟨rfl, hk⟩ := kk h; simp only [M.get_ret, Option.some.injEq] at hk; subst hk
    exact ⟨_, by simp only [eqGuard_at_int, binOp_or, intBits_or, Sem.run_bind, Sem.run_pure, Result.andThen_ok], VR.int _ _⟩
  · obtain rfl := hx.int_inv; obtain rfl := hy.int_inv
    obtain ⟨rfl, hk⟩ := kk h; simp only [M.get_ret, Option.some.injEq] at hk; subst hk
    exact ⟨_, by simp only [eqGuard_at_int, binOp_xor, intBits_xor, Sem.run_bind, Sem.run_pure, Result.andThen_ok], VR.int _ _⟩
  · obtain rfl := hx.int_inv; obtain rfl := hy.int_inv
    obtain ⟨rfl, hk⟩ := kk h; simp only [M.get_ret, Option.some.injEq] at hk; subst hk
    exact ⟨_, by simp only [eqGuard_at_int, binOp_andNot, intBits_andNot, Sem.run_bind, Sem.run_pure, Result.andThen_ok], VR.int _ _⟩
  · obtain rfl := hx.int_inv; obtain rfl := hy.int_inv
    obtain ⟨rfl, hk⟩ := kk h; simp only [M.get_ret, Option.some.injEq] at hk; subst hk
    exact ⟨_, by simp only [eqGuard_at_int, binOp_eql, Sem.run_bind, Sem.run_pure, Result.andThen_ok], VR.bool _⟩
  · obtain rfl := hx.int_inv; obtain rfl := hy.int_inv
    obtain ⟨rfl, hk⟩ := kk h; simp only [M.get_ret, Option.some.injEq] at hk; subst hk
    exact ⟨_, by simp only [eqGuard_at_int, binOp_neq, Sem.run_bind, Sem.run_pure, Result.andThen_ok], VR.bool _⟩
  · obtain rfl := hx.int_inv; obtain rfl := hy.int_inv
    obtain ⟨rfl, hk⟩ := kk h; simp only [M.get_ret, Option.some.injEq] at hk; subst hk
    exact ⟨_, by simp only [eqGuard_at_int, binOp_lss, Sem.run_bind, Sem.run_pure, Result.andThen_ok], VR.bool _⟩
  · obtain rfl := hx.int_inv; obtain rfl := hy.int_inv
    obtain ⟨rfl, hk⟩ := kk h; simp only [M.get_ret, Option.some.injEq] at hk; subst hk
    exact ⟨_, by simp only [eqGuard_at_int, binOp_leq, Sem.run_bind, Sem.run_pure, Result.andThen_ok], VR.bool _⟩
  · obtain rfl := hx.int_inv; obtain rfl := hy.int_inv
    obtain ⟨rfl, hk⟩ := kk h; simp only [M.get_ret, Option.some.injEq] at hk; subst hk
    exact ⟨_, by simp only [eqGuard_at_int, binOp_gtr, Sem.run_bind, Sem.run_pure, Result.andThen_ok], VR.bool _⟩
  · obtain rfl := hx.int_inv; obtain rfl := hy.int_inv
    obtain ⟨rfl, hk⟩ := kk h; simp only [M.get_ret, Option.some.injEq] at hk; subst hk
    exact ⟨_, by simp only [eqGuard_at_int, binOp_geq, Sem.run_bind, Sem.run_pure, Result.andThen_ok], VR.bool _⟩
  · rename_i a b
    obtain rfl := hx.plain1_eq rfl; obtain rfl := hy.plain1_eq rfl
    split at h
    · rename_i hu
      simp at h; subst h
      refine ⟨_, ?_, VR.bool _⟩
      have := run_equalIn_bool' w 9999 t a b hu
      simp only [eqGuard_at_bool, binOp, Sem.run_bind, Sem.run_pure, Result.andThen_ok, Op.equal, Op.maxDepth, this]
    · cases h
  · rename_i a b
    obtain rfl := hx.plain1_eq rfl; obtain rfl := hy.plain1_eq rfl
    split at h
    · rename_i hu
      simp only [M.get_ret, Option.some.injEq] at h; subst h
      refine ⟨_, ?_, VR.bool _⟩
      have := run_equalIn_bool' w 9999 t a b hu
      simp only [eqGuard_at_bool, binOp, Sem.run_bind, Sem.run_pure, Result.andThen_ok, Op.equal, Op.maxDepth, this]
    · cases h
  · rename_i a b
    obtain rfl := hx.plain1_eq rfl; obtain rfl := hy.plain1_eq rfl
    simp only [M.get_ret, Option.some.injEq] at h; subst h
    refine ⟨_, ?_, VR.bool _⟩
    simp only [eqGuard_at_string, binOp, Op.stringOp, Sem.run_bind, Sem.run_pure, Result.andThen_ok, ByteArray.toList_eq]
  · rename_i a b
    obtain rfl := hx.plain1_eq rfl; obtain rfl := hy.plain1_eq rfl
    simp only [M.get_ret, Option.some.injEq] at h; subst h
    refine ⟨_, ?_, VR.bool _⟩
    simp only [eqGuard_at_string, binOp, Op.stringOp, Sem.run_bind, Sem.run_pure, Result.andThen_ok, ByteArray.toList_eq]
  · rename_i a
    obtain rfl := hy.plain1_eq rfl
    obtain ⟨a', rfl, ha⟩ : ∃ a', x' = .pointer a' ∧ a'.isNone = a.isNone := by
      cases hx <;> exact ⟨_, rfl, rfl⟩
    split at h
    · rename_i e hu
      simp only [M.get_ret, Option.some.injEq] at h; subst h
      refine ⟨.bool a.isNone, ?_, VR.bool _⟩
      rw [← ha]
      simp only [eqGuard_at_pointer, binOp, Sem.run_bind, Sem.run_pure, Result.andThen_ok, run_equal_nil hu]
    · cases h
  · rename_i a
    obtain rfl := hy.plain1_eq rfl
    obtain ⟨a', rfl, ha⟩ : ∃ a', x' = .pointer a' ∧ a'.isNone = a.isNone := by
      cases hx <;> exact ⟨_, rfl, rfl⟩
    split at h
    · rename_i e hu
      simp only [M.get_ret, Option.some.injEq] at h; subst h
      refine ⟨.bool (!a.isNone), ?_, VR.bool _⟩
      rw [← ha]
      simp only [eqGuard_at_pointer, binOp, Sem.run_bind, Sem.run_pure, Result.andThen_ok, run_equal_nil hu]
    · cases h
  · rename_i a l c
    obtain rfl := hy.plain1_eq rfl
    split at h
    · rename_i e hu
      rcases M.get_br_some h with ⟨hnk, h⟩ | ⟨_, h⟩
      rotate_left
      · cases h
      obtain ⟨a', l', c', rfl, ha⟩ : ∃ a' l' c', x' = .slice a' l' c' ∧ a'.isNone = a.isNone := by
        cases hx <;> first | exact ⟨_, _, _, rfl, rfl⟩ | (simp [nilKnown] at hnk)
      simp only [M.get_ret, Option.some.injEq] at h; subst h
      refine ⟨.bool a.isNone, ?_, VR.bool _⟩
      rw [← ha]
      simp only [eqGuard_at_slice, binOp, Sem.run_bind, Sem.run_pure, Result.andThen_ok, run_equal_nilSlice hu]
    · cases h
  · rename_i a l c
    obtain rfl := hy.plain1_eq rfl
    split at h
    · rename_i e hu
      rcases M.get_br_some h with ⟨hnk, h⟩ | ⟨_, h⟩
      rotate_left
      · cases h
      obtain ⟨a', l', c', rfl, ha⟩ : ∃ a' l' c', x' = .slice a' l' c' ∧ a'.isNone = a.isNone := by
        cases hx <;> first | exact ⟨_, _, _, rfl, rfl⟩ | (simp [nilKnown] at hnk)
      simp only [M.get_ret, Option.some.injEq] at h; subst h
      refine ⟨.bool (!a.isNone), ?_, VR.bool _⟩
      rw [← ha]
      simp only [eqGuard_at_slice, binOp, Sem.run_bind, Sem.run_pure, Result.andThen_ok, run_equal_nilSlice hu]
    · cases h
  · obtain rfl := hy.plain1_eq rfl
    obtain ⟨f', a', c', rfl⟩ : ∃ f' a' c', x' = .func f' a' c' := by
      cases hx; exact ⟨_, _, _, rfl⟩
    split at h
    · rename_i hu
      simp only [M.get_ret, Option.some.injEq] at h; subst h
      exact ⟨.bool false, by simp only [eqGuard_at_func, binOp, Sem.run_bind, Sem.run_pure, Result.andThen_ok, run_equal_nilFunc hu], VR.bool _⟩
    · cases h
  · obtain rfl := hy.plain1_eq rfl
    obtain ⟨f', a', c', rfl⟩ : ∃ f' a' c', x' = .func f' a' c' := by
      cases hx; exact ⟨_, _, _, rfl⟩
    split at h
    · rename_i hu
      simp only [M.get_ret, Option.some.injEq] at h; subst h
      exact ⟨.bool true, by simp only [eqGuard_at_func, binOp, Sem.run_bind, Sem.run_pure, Result.andThen_ok, run_equal_nilFunc hu, Bool.not_false], VR.bool _⟩
    · cases h
  · obtain rfl := hy.plain1_eq rfl
    obtain rfl := hx.plain1_eq rfl
    split at h
    · rename_i hu
      simp only [M.get_ret, Option.some.injEq] at h; subst h
      exact ⟨.bool true, by simp only [eqGuard_at_nilFunc, binOp, Sem.run_bind, Sem.run_pure, Result.andThen_ok, run_equal_nilNil hu], VR.bool _⟩
    · cases h
  · obtain rfl := hy.plain1_eq rfl
    obtain rfl := hx.plain1_eq rfl
    split at h
    · rename_i hu
      simp only [M.get_ret, Option.some.injEq] at h; subst h
      exact ⟨.bool false, by simp only [eqGuard_at_nilFunc, binOp, Sem.run_bind, Sem.run_pure, Result.andThen_ok, run_equal_nilNil hu, Bool.not_true], VR.bool _⟩
    · cases h
  · rename_i xs ys
    split at h
    · rename_i pat hp
      split at h
      · rename_i b hb
        simp only [M.get_ret, Option.some.injEq] at h; subst h
        obtain ⟨h1, h2⟩ := eqCells_plain _ _ _ _ hb
        cases hx with
        | agg hs hpx =>
          cases hy with
          | agg hs' hpy =>
            obtain rfl := (show VRA σ _ _ from ⟨hs, hpx⟩).plain_eq h1
            obtain rfl := (show VRA σ _ _ from ⟨hs', hpy⟩).plain_eq h2
            obtain ⟨e1, e2, e3⟩ := run_eq_struct (eqPat_ok hE hp) hb o1 o2 w
            exact ⟨.bool b, by simp only [Sem.run_bind, e1, Result.andThen_ok, binOp, e3, Sem.run_pure], VR.bool _⟩
      · cases h
    · cases h
  · rename_i xs ys
    split at h
    · rename_i pat hp
      split at h
      · rename_i b hb
        simp only [M.get_ret, Option.some.injEq] at h; subst h
        obtain ⟨h1, h2⟩ := eqCells_plain _ _ _ _ hb
        cases hx with
        | agg hs hpx =>
          cases hy with
          | agg hs' hpy =>
            obtain rfl := (show VRA σ _ _ from ⟨hs, hpx⟩).plain_eq h1
            obtain rfl := (show VRA σ _ _ from ⟨hs', hpy⟩).plain_eq h2
            obtain ⟨e1, e2, e3⟩ := run_eq_struct (eqPat_ok hE hp) hb o1 o2 w
            exact ⟨.bool (!b), by simp only [Sem.run_bind, e2, Result.andThen_ok, binOp, e3, Sem.run_pure], VR.bool _⟩
      · cases h
    · cases h
  · cases h
end
end Go.Sx

/- The operations of the symbolic run are the model's: all that turn nothing, and all that make a block. No condition of its own. -/
namespace Go.Sx
open Go Go.RowKit
set_option linter.unusedVariables false
set_option linter.unusedSimpArgs false
section
variable {P : Program} {n : Nat → Prop} {w0 : World} {G : Nat} {σ : Nat → Option Pl} {lh : List Blk} {w : World}

theorem unM_sound {op : UnOp} {x x' v : Value} (hx : VR σ x x') (h : (unM op x).get = some v) (w : World) : ∃ v', (Op.unary op x').run P w = .ok v' w ∧ VR σ v v' := by
  unfold unM at h
  split at h
  · obtain rfl := hx.plain1_eq rfl
    simp only [M.get_ret, Option.some.injEq] at h; subst h
    exact ⟨_, by simp only [Op.unary, Sem.run_pure], VR.bool _⟩
  · obtain rfl := hx.plain1_eq rfl
    simp only [M.get_ret, Option.some.injEq] at h; subst h
    exact ⟨_, by simp only [Op.unary, Op.intArith, Sem.run_pure], VR.int _ _⟩
  · obtain rfl := hx.plain1_eq rfl
    rename_i k a
    simp only [M.get_ret, Option.some.injEq] at h; subst h
    refine ⟨_, ?_, VR.int _ _⟩
    simp only [Op.unary, intBits_xor, Sem.run_pure]
    cases k.signed <;> rfl
  · cases h
theorem convertM_sound {s d : TypeId} {x x' v : Value} (hx : VR σ x x') (h : (convertM P s d x).get = some v) (w : World) : ∃ v', (convert s d x').run P w = .ok v' w ∧ VR σ v v' := by
  unfold convertM at h
  split at h
  · rename_i ds k k' a hs hd
    obtain rfl := hx.plain1_eq rfl
    simp only [M.get_ret, Option.some.injEq] at h; subst h
    exact ⟨_, by simp only [convert, Sem.run_bind, run_underlying hs, run_underlying hd, Result.andThen_ok, Conv.intToInt, Sem.run_pure], VR.int _ _⟩
  · cases h
theorem pickM_sound {c c' a a' b b' v : Value} (hc : VR σ c c') (ha : VR σ a a') (hb : VR σ b b') (h : (pickM c a b).get = some v) (w : World) :
    ∃ v', (do pure (Next.value (if ← asBool c' then a' else b')) : Sem Next).run P w = .ok (.value v') w ∧ VR σ v v' := by
  unfold pickM at h
  split at h
  · rename_i t
    obtain rfl := hc.plain1_eq rfl
    rcases M.get_br_some h with ⟨rfl, hv⟩ | ⟨rfl, hv⟩
    · simp only [M.get_ret, Option.some.injEq] at hv; subst hv
      exact ⟨a', by simp [asBool], ha⟩
    · simp only [M.get_ret, Option.some.injEq] at hv; subst hv
      exact ⟨b', by simp [asBool], hb⟩
  · cases h
theorem nilCheckM_sound {x x' v : Value} (hx : VR σ x x') (h : (nilCheckM x).get = some v) : x' ≠ .pointer none ∧ x' ≠ .nilIface ∧ x' ≠ .nilFunc ∧ (∀ m a c, x' ≠ .func (.method m) a c) ∧ VR σ v x' := by
  unfold nilCheckM at h
  split at h
  · simp only [M.get_ret, Option.some.injEq] at h; subst h
    cases hx <;> exact ⟨by simp, by simp, by simp, by simp, by constructor; assumption⟩
  · simp only [M.get_ret, Option.some.injEq] at h; subst h
    refine ⟨?_, ?_, ?_, ?_, hx⟩ <;> cases hx <;> simp
  · cases h
theorem lenM_sound {t ty : TypeId} {x x' v : Value} (hx : VR σ x x') (h : (lenM P t x).get = some v) (w : World) : ∃ v', (Builtin.len_ #[t] ty #[x']).run P w = .ok v' w ∧ VR σ v v' := by
  unfold lenM at h
  split at h
  · rename_i e a l c hu
    simp only [M.get_ret, Option.some.injEq] at h; subst h
    obtain ⟨a', c', rfl⟩ : ∃ a' c', x' = .slice a' l c' := by
      cases hx <;> exact ⟨_, _, rfl⟩
    exact ⟨_, by simp [Builtin.len_, run_underlying hu]; rfl, VR.int _ _⟩
  · rename_i l e hu
    simp only [M.get_ret, Option.some.injEq] at h; subst h
    exact ⟨_, by simp [Builtin.len_, run_underlying hu]; rfl, VR.int _ _⟩
  · cases h
theorem min2M_sound {ts : Array TypeId} {ty : TypeId} {x x' y y' v : Value} (hx : VR σ x x') (hy : VR σ y y') (h : (min2M x y).get = some v) (w : World) : ∃ v', (Builtin.min_ ts ty #[x', y']).run P w = .ok v' w ∧ VR σ v v' := by
  unfold min2M at h
  split at h
  · obtain rfl := hx.int_inv
    obtain rfl := hy.int_inv
    simp only [M.get_ret, Option.some.injEq] at h; subst h
    exact ⟨_, by simp [Builtin.min_, Builtin.min2], VR.int _ _⟩
  · cases h
theorem max2M_sound {ts : Array TypeId} {ty : TypeId} {x x' y y' v : Value} (hx : VR σ x x') (hy : VR σ y y') (h : (max2M x y).get = some v) (w : World) : ∃ v', (Builtin.max_ ts ty #[x', y']).run P w = .ok v' w ∧ VR σ v v' := by
  unfold max2M at h
  split at h
  · obtain rfl := hx.int_inv
    obtain rfl := hy.int_inv
    simp only [M.get_ret, Option.some.injEq] at h; subst h
    exact ⟨_, by simp [Builtin.max_, Builtin.max2], VR.int _ _⟩
  · cases h

theorem wrap_small {l : Int} (h0 : 0 ≤ l) (h1 : l ≤ 1048576) : IntKind.i64.wrap l = l := by
  simp [IntKind.wrap, IntKind.bits, IntKind.signed]
  omega

theorem run_makeSlice_one {t e : TypeId} {i : TypeInfo} {z : Value} {l : Int} (hu : P.underlying t = some (.slice e)) (hi : P.info? e = some i) (hz : ∀ w, (zeroValue e).run P w = .ok z w) (hzc : z.cells = #[z]) (hsz : i.size = 1) (hby : i.bytes ≤ 8) (h0 : 0 ≤ l) (h1 : l ≤ 1048576) (w : World) :
    (Instr.makeSlice t (.int .i64 l) (.int .i64 l)).run P w = .ok (.slice (some ⟨w.heap.size, 0, none⟩) l.toNat l.toNat) (w.alloc (.cells (Array.replicate l.toNat z) e)) := by
  have hw := wrap_small h0 h1
  simp only [Instr.makeSlice, Sem.run_bind, run_underlying hu, Result.andThen_ok, asInt, asIntOf, Sem.run_pure, run_typeInfo hi, hw]
  have hm : (i.bytes : Int) * l ≤ 8 * l := Int.mul_le_mul_of_nonneg_right (by omega) h0
  have c2 : ¬ (((decide (l < 0) || decide ((i.bytes : Int) * l > 2 ^ 48)) || decide (l < 0) || decide (l > l)) = true) := by
    simp; omega
  rw [if_neg c2]
  simp only [Sem.run_bind, Result.andThen_ok, run_askRoom, run_sizeOf hi, hsz, Nat.mul_one]
  by_cases h00 : l.toNat = 0
  · simp [h00, newRow, Array.range_zero']
  · simp only [h00, if_false, Sem.run_bind, hz, Result.andThen_ok, Sem.run_pure, newRow, run_newObj, World.alloc_eq]
    congr 3
    apply Array.ext
    · simp
    · intro j h1 h2
      simp [hzc, Nat.mod_one]
theorem makeSliceM_sound (hn : Bnd n w) {t : TypeId} {l l' c c' : Value} {r : (Nat → Value) × Blk} (hl : VR σ l l') (hc : VR σ c c') (h : (makeSliceM P t l c).get = some r) :
    ∃ v' o, (Instr.makeSlice t l' c').run P w = .ok v' (w.alloc o) ∧ GoodNew n σ r v' w o := by
  unfold makeSliceM at h
  split at h
  · rename_i e l c hu
    obtain rfl := hl.int_inv
    obtain rfl := hc.int_inv
    split at h
    · rename_i i hi hz
      rcases M.get_br_some h with ⟨hs, h⟩ | ⟨_, h⟩
      · rcases M.get_br_some h with ⟨he, h⟩ | ⟨_, h⟩
        · rcases M.get_br_some h with ⟨hb, h⟩ | ⟨_, h⟩
          · simp only [M.get_ret, Option.some.injEq] at h; subst h
            simp only [Bool.and_eq_true, decide_eq_true_eq] at hs he hb
            subst he
            obtain ⟨h0, h1⟩ := hb
            refine ⟨.slice (some ⟨w.heap.size, 0, none⟩) l.toNat l.toNat, .cells (Array.replicate l.toNat (.int .i64 0)) e, run_makeSlice_one hu hi (fun w => (run_zero hz w).1) rfl (beq_true hs.1) (by rw [beq_true hs.2]; omega) h0 h1 w, ⟨w.heap.size, 0, 1, l.toNat⟩, rfl, fun σ' a hs' ha => ⟨VR.slice (off := 0) ha, ?_⟩⟩
            have := BR.newInts (σ := σ') hn (List.replicate l.toNat 0) e (c' := Array.replicate l.toNat (.int .i64 0)) fun j x hx => by
              have hj : j < l.toNat := by have := (List.getElem?_eq_some_iff.1 hx).1; simpa using this
              simp [hj] at hx
              simp [hj, ← hx]
            simpa using this
          · cases h
        · cases h
      · cases h
    · rename_i i hi hz
      rcases M.get_br_some h with ⟨hs, h⟩ | ⟨_, h⟩
      · rcases M.get_br_some h with ⟨he, h⟩ | ⟨_, h⟩
        · rcases M.get_br_some h with ⟨hb, h⟩ | ⟨_, h⟩
          · simp only [M.get_ret, Option.some.injEq] at h; subst h
            simp only [Bool.and_eq_true, decide_eq_true_eq] at hs he hb
            subst he
            obtain ⟨h0, h1⟩ := hb
            refine ⟨.slice (some ⟨w.heap.size, 0, none⟩) l.toNat l.toNat, .cells (Array.replicate l.toNat (.bool false)) e, run_makeSlice_one hu hi (fun w => (run_zero hz w).1) rfl (beq_true hs.1) (ble_true hs.2) h0 h1 w, ⟨w.heap.size, 0, 0, 0⟩, rfl, fun σ' a hs' ha => ⟨VR.slice (off := 0) ha, ?_⟩⟩
            refine BR.newCells hn e (by simp) fun j x y hx hy => ?_
            have hj : j < l.toNat := by have := (List.getElem?_eq_some_iff.1 hx).1; simpa using this
            simp [hj] at hx hy
            rw [← hx, ← hy]
            exact VR.bool _
          · cases h
        · cases h
      · cases h
    · cases h
  · cases h

theorem valM_sound {E : Env} (hE : EqsOK E) (hr : HR n w0 G σ lh w) {ev ev' : Operand → Value} {o : Oper} (hop : ∀ x ∈ o.op.operands, VR σ (ev x) (ev' x)) {v : Value} (h : (valM E ev lh o.op).get = some v) :
    ∃ v', (execOp ev' o).run E.P w = .ok (.value v') w ∧ VR σ v v' := by
  obtain ⟨dst, op, ty, pos, after, guard⟩ := o
  simp only at h hop
  unfold valM at h
  split at h
  · rename_i x
    simp only [M.get_ret, Option.some.injEq] at h; subst h
    exact ⟨_, by simp only [execOp, Sem.run_pure], hop x (by simp [Op.operands])⟩
  · rename_i x
    simp only [M.get_ret, Option.some.injEq] at h; subst h
    exact ⟨_, by simp only [execOp, Sem.run_pure], hop x (by simp [Op.operands])⟩
  · rename_i c a b
    obtain ⟨v', h1, h2⟩ := pickM_sound (P := E.P) (hop c (by simp [Op.operands])) (hop a (by simp [Op.operands])) (hop b (by simp [Op.operands])) h w
    exact ⟨v', by simpa [execOp] using h1, h2⟩
  · rename_i t parts
    obtain ⟨v', h1, h2⟩ := buildM_sound (P := E.P) parts ev ev' (fun p hp => hop p.2 (by simp only [Op.operands, List.mem_toArray, List.mem_map]; exact ⟨p, Array.mem_toList_iff.2 hp, rfl⟩)) h w
    exact ⟨v', by simp only [execOp, Sem.run_bind, h1, Result.andThen_ok, Sem.run_pure], h2⟩
  · rename_i t a
    obtain ⟨v', h1, h2⟩ := loadM_sound hr (hop a (by simp [Op.operands])) h
    exact ⟨v', by simp only [execOp, Sem.run_bind, h1, Result.andThen_ok, Sem.run_pure], h2⟩
  · rename_i x
    have hx := hop x (by simp [Op.operands])
    obtain ⟨h1, h2, h3, h4, h5⟩ := nilCheckM_sound hx h
    refine ⟨ev' x, ?_, h5⟩
    simp only [execOp]
    rfl
  · rename_i op t x y yt
    obtain ⟨v', h1, h2⟩ := binM_sound hE x y (hop x (by simp [Op.operands])) (hop y (by simp [Op.operands])) h w
    exact ⟨v', by simp only [execOp]; rw [Sem.run_bind, h1]; rfl, h2⟩
  · rename_i op t x
    obtain ⟨v', h1, h2⟩ := unM_sound (P := E.P) (hop x (by simp [Op.operands])) h w
    exact ⟨v', by simp only [execOp, Sem.run_bind, h1, Result.andThen_ok, Sem.run_pure], h2⟩
  · rename_i s d x
    obtain ⟨v', h1, h2⟩ := convertM_sound (hop x (by simp [Op.operands])) h w
    exact ⟨v', by simp only [execOp, Sem.run_bind, h1, Result.andThen_ok, Sem.run_pure], h2⟩
  · rename_i f first captured
    simp only [M.get_ret, Option.some.injEq] at h; subst h
    have h1 := VRA.map (σ := σ) ev ev' first fun x hx => hop x (by simp [Op.operands, hx])
    have h2 := VRA.map (σ := σ) ev ev' captured fun x hx => hop x (by simp [Op.operands, hx])
    exact ⟨.func (.func f) (first.map ev') (captured.map ev'), by simp [execOp, Instr.makeFunc], VR.func f h1.1 h2.1 h1.2 h2.2⟩
  · rename_i t x lo hi mx
    obtain ⟨v', h1, h2⟩ := sliceM_sound (P := E.P) (hop x (by simp [Op.operands])) (VRO.map ev ev' lo fun y hy => hop y (by simp [Op.operands, Option.mem_def.1 hy])) (VRO.map ev ev' hi fun y hy => hop y (by simp [Op.operands, Option.mem_def.1 hy])) (VRO.map ev ev' mx fun y hy => hop y (by simp [Op.operands, Option.mem_def.1 hy])) h w
    exact ⟨v', by simp only [execOp, Sem.run_bind, h1, Result.andThen_ok, Sem.run_pure], h2⟩
  · rename_i s x f
    obtain ⟨v', h1, h2⟩ := fieldAddrM_sound (P := E.P) (hop x (by simp [Op.operands])) h w
    exact ⟨v', by simp only [execOp, Sem.run_bind, h1, Result.andThen_ok, Sem.run_pure], h2⟩
  · rename_i s x f
    obtain ⟨v', h1, h2⟩ := fieldM_sound (P := E.P) (hop x (by simp [Op.operands])) h w
    exact ⟨v', by simp only [execOp, Sem.run_bind, h1, Result.andThen_ok, Sem.run_pure], h2⟩
  · rename_i t x ix
    obtain ⟨v', h1, h2⟩ := indexAddrM_sound hr (hop x (by simp [Op.operands])) (hop ix (by simp [Op.operands])) h
    exact ⟨v', by simp only [execOp, Sem.run_bind, h1, Result.andThen_ok, Sem.run_pure], h2⟩
  · rename_i t x ix
    obtain ⟨v', h1, h2⟩ := indexM_sound (P := E.P) (hop x (by simp [Op.operands])) (hop ix (by simp [Op.operands])) h w
    exact ⟨v', by simp only [execOp, Sem.run_bind, h1, Result.andThen_ok, Sem.run_pure], h2⟩
  · rename_i t ix
    obtain ⟨v', h1, h2⟩ := extractM_sound (P := E.P) (hop t (by simp [Op.operands])) h w
    exact ⟨v', by simp only [execOp, Sem.run_bind, h1, Result.andThen_ok, Sem.run_pure], h2⟩
  · rename_i t m ix ok
    obtain ⟨v', h1, h2⟩ := lookupM_sound hr (hop m (by simp [Op.operands])) (hop ix (by simp [Op.operands])) h
    exact ⟨v', by simp only [execOp, Sem.run_bind, h1, Result.andThen_ok, Sem.run_pure], h2⟩
  · rename_i c
    obtain ⟨callee, args, ats⟩ := c
    simp only at h
    split at h
    · rename_i hcal hargs hats
      obtain rfl : args = #[_] := Array.toList_inj.1 hargs
      obtain rfl : ats = #[_] := Array.toList_inj.1 hats
      obtain ⟨v', h1, h2⟩ := lenM_sound (P := E.P) (ty := ty) (hop _ (by simp [Op.operands, Call.operands])) h w
      exact ⟨v', by simp [execOp, resolve, invoke, builtin, h1], h2⟩
    · rename_i hcal hargs
      obtain rfl : args = #[_, _] := Array.toList_inj.1 hargs
      obtain ⟨v', h1, h2⟩ := min2M_sound (P := E.P) (ts := ats) (ty := ty) (hop _ (by simp [Op.operands, Call.operands])) (hop _ (by simp [Op.operands, Call.operands])) h w
      exact ⟨v', by simp [execOp, resolve, invoke, builtin, h1], h2⟩
    · rename_i hcal hargs
      obtain rfl : args = #[_, _] := Array.toList_inj.1 hargs
      obtain ⟨v', h1, h2⟩ := max2M_sound (P := E.P) (ts := ats) (ty := ty) (hop _ (by simp [Op.operands, Call.operands])) (hop _ (by simp [Op.operands, Call.operands])) h w
      exact ⟨v', by simp [execOp, resolve, invoke, builtin, h1], h2⟩
    · cases h
  · cases h

theorem newM_sound {E : Env} (hn : Bnd n w) {ev ev' : Operand → Value} {o : Oper} (hop : ∀ x ∈ o.op.operands, VR σ (ev x) (ev' x)) {r : (Nat → Value) × Blk} (h : (newM E ev o.op).get = some r) :
    ∃ v' ob, (execOp ev' o).run E.P w = .ok (.value v') (w.alloc ob) ∧ GoodNew n σ r v' w ob := by
  obtain ⟨dst, op, ty, pos, after, guard⟩ := o
  simp only at h hop
  unfold newM at h
  split at h
  · rename_i t
    obtain ⟨v', ob, h1, h2⟩ := allocM_sound (P := E.P) hn h
    exact ⟨v', ob, by simp only [execOp, Sem.run_bind, h1, Result.andThen_ok, Sem.run_pure], h2⟩
  · rename_i t x
    obtain ⟨v', ob, h1, h2⟩ := boxM_sound (P := E.P) (t := t) hn (hop x (by simp [Op.operands])) h
    exact ⟨v', ob, by simp only [execOp, Sem.run_bind, h1, Result.andThen_ok, Sem.run_pure], h2⟩
  · rename_i t len parts
    obtain ⟨v', ob, h1, h2⟩ := buildSliceM_sound (P := E.P) hn parts ev ev' (fun p hp => hop p.2 (by simp only [Op.operands, List.mem_toArray, List.mem_map]; exact ⟨p, Array.mem_toList_iff.2 hp, rfl⟩)) h
    exact ⟨v', ob, by simp only [execOp, Sem.run_bind, h1, Result.andThen_ok, Sem.run_pure], h2⟩
  · rename_i t l c
    obtain ⟨v', ob, h1, h2⟩ := makeSliceM_sound (P := E.P) hn (hop l (by simp [Op.operands])) (hop c (by simp [Op.operands])) h
    exact ⟨v', ob, by simp only [execOp, Sem.run_bind, h1, Result.andThen_ok, Sem.run_pure], h2⟩
  · rename_i t
    simp only [M.get_ret, Option.some.injEq] at h; subst h
    refine ⟨.map (some w.heap.size), .map #[] 0, by simp [execOp, Instr.makeMap], ⟨w.heap.size, 0, 0, 0⟩, rfl, fun σ' a hs ha => ⟨VR.mapAt ha, fun _ => ⟨hn.new, fun o => by
      have e : (w.alloc (.map #[] 0)).heap[w.heap.size]? = some (.map #[] 0) := by show (w.heap.push _)[w.heap.size]? = _; simp
      unfold World.frozen?; rw [e], fun j hj => by simp at hj⟩, #[], 0, ?_, rfl, fun i k v hv => by simp at hv⟩⟩
    show (w.heap.push _)[w.heap.size]? = _
    simp
  · cases h
end
end Go.Sx

/- append in the symbolic run is the model's. No condition of its own. -/
namespace Go.Sx
open Go Go.RowKit
set_option linter.unusedVariables false
set_option linter.unusedSimpArgs false
section
variable {P : Program} {n : Nat → Prop} {w0 : World} {G : Nat} {σ : Nat → Option Pl} {lh : List Blk} {w : World}

theorem intsOfCells_spec : ∀ (c : List Value) (l : List Int), intsOfCells c = some l → c = l.map (Value.int .i64)
  | [], l, h => by simp [intsOfCells] at h; subst h; rfl
  | x :: r, l, h => by
    have hx : ∃ a, x = .int .i64 a := by
      cases x <;> first | (rename_i k a; cases k <;> first | exact ⟨_, rfl⟩ | (simp [intsOfCells] at h)) | (simp [intsOfCells] at h)
    obtain ⟨a, rfl⟩ := hx
    simp only [intsOfCells] at h
    cases hr : intsOfCells r with
    | none => rw [hr] at h; cases h
    | some l' =>
      rw [hr] at h; cases h
      rw [intsOfCells_spec r l' hr]; rfl

/-- A slice that holds the values cs, m cells to an element. -/
def Holds (P : Program) (w : World) (m : Nat) (x' : Value) (len : Nat) (cs : List Value) : Prop :=
  (∀ u ∈ cs, u.oneCell' = true) ∧ cs.length = len * m ∧ ((∃ c, x' = .slice none 0 c ∧ len = 0) ∨ ∃ a c, x' = .slice (some a) len c ∧ ∀ j v, cs[j]? = some v → w.cell? (a.add j) = some v)

theorem holds_of_cells {b o len c m : Nat} {cs : List Value} (h1 : ∀ u ∈ cs, u.oneCell' = true) (hl : cs.length = len * m) (h : ∀ j v, cs[j]? = some v → w.cell? ⟨b, o + j, none⟩ = some v) : Holds P w m (.slice (some ⟨b, o, none⟩) len c) len cs :=
  ⟨h1, hl, .inr ⟨_, _, rfl, fun j v hv => by rw [Addr.add_lit]; exact h j v hv⟩⟩
theorem one_ints (xs : List Int) : ∀ u ∈ xs.map (Value.int .i64), u.oneCell' = true := fun u hu => by
  obtain ⟨_, _, rfl⟩ := List.mem_map.1 hu
  rfl
theorem Holds.src {m len : Nat} {x' : Value} {cs : List Value} (h : Holds P w m x' len cs) {tx e' : TypeId} (hk : P.underlying tx = some (.slice e')) : Src P m tx x' len cs w := by
  obtain ⟨h1, hl, ⟨c, rfl, rfl⟩ | ⟨a, c, rfl, hc⟩⟩ := h
  · obtain rfl : cs = [] := List.eq_nil_of_length_eq_zero (by simpa using hl)
    exact Src.ofNil w hk c
  · exact Src.ofSlice w hk a len c cs hl hc h1
theorem Holds.old {m len : Nat} {x' : Value} {cs : List Value} (h : Holds P w m x' len cs) : (Builtin.firstCells m len x').run P w.drew = .ok cs.toArray w.drew := by
  obtain ⟨h1, hl, ⟨c, rfl, rfl⟩ | ⟨a, c, rfl, hc⟩⟩ := h
  · obtain rfl : cs = [] := List.eq_nil_of_length_eq_zero (by simpa using hl)
    exact run_firstCells_none w.drew m 0 0 c
  · exact run_firstCells_some w.drew m len a len c cs hl (by simpa using hc)

theorem srcInts_sound (hr : HR n w0 G σ lh w) {x x' : Value} {xs : List Int} (hx : VR σ x x') (h : (srcInts lh x).get = some xs) : Holds P w 1 x' xs.length (xs.map (Value.int .i64)) := by
  unfold srcInts at h
  split at h
  · simp at h; subst h
    obtain rfl := hx.plain1_eq rfl
    exact ⟨by simp, rfl, .inl ⟨0, rfl, rfl⟩⟩
  · simp at h; subst h
    cases hx with
    | empty a => exact ⟨by simp, rfl, .inr ⟨a, 0, rfl, fun j v hv => by simp at hv⟩⟩
  · rename_i k off l c
    obtain ⟨p, hk, rfl⟩ := hx.slice_inv
    split at h
    · rename_i ow wr ys hl
      rcases M.get_br_some h with ⟨hb, h⟩ | ⟨_, h⟩
      · simp at h; subst h
        have hle := ble_true hb
        have hlen : ((ys.drop off).take l).length = l := by simp; omega
        rw [hlen]
        refine holds_of_cells (one_ints _) (by simp; omega) fun j v hv => ?_
        simp only [List.getElem?_map, Option.map_eq_some_iff] at hv
        obtain ⟨u, hu, rfl⟩ := hv
        rw [List.getElem?_take] at hu
        split at hu
        · rw [List.getElem?_drop] at hu
          rw [Nat.add_assoc]
          exact (hr.ints_at hk hl).2 _ _ hu
        · cases hu
      · cases h
    · rename_i ow wr ys hl
      rcases M.get_br_some h with ⟨hb, h⟩ | ⟨_, h⟩
      · simp at h
        have hle := ble_true hb
        have hs := intsOfCells_spec _ _ h
        have hlen : xs.length = l := by
          have := congrArg List.length hs
          simp at this; omega
        rw [hlen]
        refine holds_of_cells (one_ints _) (by simp; omega) fun j v hv => ?_
        rw [← hs, List.getElem?_take] at hv
        split at hv
        · rw [List.getElem?_drop] at hv
          obtain ⟨v', h1, h2⟩ := hr.cells_at hk hl hv
          rw [Nat.add_assoc, h1]
          have hpl : plain1 v = true := by
            have : v ∈ xs.map (Value.int .i64) := by
              rw [← hs]
              refine List.mem_of_getElem? (i := j) ?_
              rw [List.getElem?_take, if_pos (by assumption), List.getElem?_drop]; exact hv
            obtain ⟨u, _, rfl⟩ := List.mem_map.1 this
            rfl
          rw [h2.plain1_eq hpl]
        · cases hv
      · cases h
    · cases h
  · rename_i k l
    obtain ⟨p, hk, hl0, rfl⟩ : ∃ p, σ k = some p ∧ l ≤ p.cap ∧ x' = .slice (some ⟨p.b, p.o, none⟩) l p.cap := by
      cases hx with
      | vec h hl => exact ⟨_, h, hl, rfl⟩
    split at h
    · rename_i ow wr ys hl
      rcases M.get_br_some h with ⟨hb, h⟩ | ⟨_, h⟩
      · simp at h; subst h
        have hle := ble_true hb
        have hlen : (ys.take l).length = l := by simp; omega
        rw [hlen]
        refine holds_of_cells (one_ints _) (by simp; omega) fun j v hv => ?_
        simp only [List.getElem?_map, Option.map_eq_some_iff] at hv
        obtain ⟨u, hu, rfl⟩ := hv
        rw [List.getElem?_take] at hu
        split at hu
        · exact (hr.ints_at hk hl).2 _ _ hu
        · cases hu
      · cases h
    · cases h
  · cases h

theorem zero_one {e : TypeId} {i : TypeInfo} {z : Value} (hi : P.info? e = some i) (hz : zeroOf P e = some z) : i.zero = some z := by
  unfold zeroOf at hz
  rw [hi] at hz
  simp only [Option.bind_some] at hz
  cases hq : i.zero with
  | none => rw [hq] at hz; cases hz
  | some u =>
    rw [hq] at hz
    cases hp : plain u <;> simp [hp] at hz
    rw [hz]

/-- What grows anew: ints. -/
theorem grow_ints (hr : HR n w0 G σ lh w) {t u e e2 ty : TypeId} {i : TypeInfo} {base : Option Addr} {sLen sCap : Nat} {x' : Value} {ys xs : List Int} (ht : P.underlying t = some (.slice e)) (hu : P.underlying u = some (.slice e2)) (hi : P.info? e = some i) (hz : zeroOf P e = some (.int .i64 0))
    (hsz : i.size = 1) (hby : i.bytes = 8) (ho : Holds P w 1 (.slice base sLen sCap) sLen (ys.map (Value.int .i64))) (hx : Holds P w 1 x' xs.length (xs.map (Value.int .i64))) (hneed : sCap < sLen + xs.length) (hsm : sLen + xs.length ≤ 1073741824) :
    ∃ v' w', (Builtin.append_ #[t, u] ty #[.slice base sLen sCap, x']).run P w = .ok v' w' ∧ Good n w0 G σ lh.length (vecOf lh.length (sLen + xs.length), lh ++ [.ints true true (ys ++ xs)]) v' w' := by
  have hfit := growslice_fits hneed (bytes := i.bytes) (by rw [hby]; omega)
  have hyl : ys.length = sLen := by have := ho.2.1; simpa using this
  have run := run_append_grow_src (P := P) w t u ty e i (.int .i64 0) ht hi (zero_one hi hz) base sLen sCap (ys.map (Value.int .i64)) (by rw [hsz]; exact ho.old) x' xs.length (xs.map (Value.int .i64)) (by rw [hsz]; exact hx.src hu) hneed (by omega) hfit
  refine ⟨_, _, run, ?_⟩
  have hcap := grownCap_ge w (sLen + xs.length) sCap e
  generalize grownCap w (sLen + xs.length) sCap e = cap at *
  have hsize : (((ys.map (Value.int .i64) ++ xs.map (Value.int .i64)).toArray ++ Builtin.zeroCells (Value.int .i64 0).cells (cap - (sLen + xs.length)))).size = cap := by
    simp [size_zeroCells, Value.cells]; omega
  have hb := BR.newInts (σ := upd σ lh.length ⟨w.drew.heap.size, 0, 1, cap⟩) (w := w.drew) hr.drew.size (ys ++ xs) e (c' := (ys.map (Value.int .i64) ++ xs.map (Value.int .i64)).toArray ++ Builtin.zeroCells (Value.int .i64 0).cells (cap - (sLen + xs.length))) fun j x hj => by
    rw [Array.getElem?_append_left (by simp; have := (List.getElem?_eq_some_iff.1 hj).1; simpa using this)]
    rw [← List.map_append]
    simp only [List.getElem?_toArray, List.getElem?_map, hj, Option.map_some]
  rw [hsize] at hb
  exact ⟨_, hr.drew.ext_upd _, VR.vec (p := ⟨w.drew.heap.size, 0, 1, cap⟩) (upd_same _ _ _) hcap, hr.drew.new _ _ _ rfl hb⟩

/-- An own block, seen anew under a new number. -/
theorem HR.alias (h : HR n w0 G σ lh w) {p : Pl} (hfree : ∀ i q, σ i = some q → (lh.getD i .dead).alive = true → q.b ≠ p.b) (hlt : p.b < w.heap.size) (blk : Blk) (hb : BR n (upd σ lh.length p) blk p w) :
    HR n w0 G (upd σ lh.length p) (lh ++ [blk]) w := by
  have hle := h.le_upd p
  refine ⟨h.hn, h.below, fun g hg => ?_, fun k q hk => ?_, fun k q hk => ?_, fun k k' q q' hk hk' ho ha hbb => ?_, fun k q hk => ?_⟩
  · obtain ⟨q, h1, h2⟩ := h.glob g hg
    exact ⟨q, hle g q h1, h2⟩
  · by_cases e : k = lh.length
    · subst e; simp
    · rw [upd_other _ _ e] at hk
      have := h.dom k q hk
      simp; omega
  · by_cases e : k = lh.length
    · subst e
      rw [upd_same] at hk; cases hk
      exact hlt
    · rw [upd_other _ _ e] at hk
      exact h.lt k q hk
  · by_cases e : k = lh.length
    · by_cases e' : k' = lh.length
      · rw [e, e']
      · rw [e, upd_same] at hk; cases hk
        rw [upd_other _ _ e'] at hk'
        rw [getD_append_one _ _ _ (h.dom k' q' hk')] at ha
        exact absurd hbb.symm (hfree k' q' hk' ha)
    · rw [upd_other _ _ e] at hk
      by_cases e' : k' = lh.length
      · rw [e', upd_same] at hk'; cases hk'
        rw [getD_append_one _ _ _ (h.dom k q hk)] at ho
        refine absurd hbb (hfree k q hk ?_)
        cases hx : lh.getD k .dead with
        | dead => rw [hx] at ho; cases ho
        | _ => rfl
      · rw [upd_other _ _ e'] at hk'
        rw [getD_append_one _ _ _ (h.dom k q hk)] at ho
        rw [getD_append_one _ _ _ (h.dom k' q' hk')] at ha
        exact h.inj k k' q q' hk hk' ho ha hbb
  · by_cases e : k = lh.length
    · subst e
      rw [upd_same] at hk; cases hk
      rw [getD_append_new]; exact hb
    · rw [upd_other _ _ e] at hk
      rw [getD_append_one _ _ _ (h.dom k q hk)]
      exact (h.blk k q hk).mono hle rfl

/-- Where a row of one's own grows in place: what is behind the stores. -/
theorem HR.regrow (hr : HR n w0 G σ lh w) {k : Nat} {p : Pl} (hk : σ k = some p) (ho : (lh.getD k .dead).owned = true) (o : Nat) (vs : List Value) (blk : Blk) (hb : BR n (upd σ lh.length p) blk p (w.setCells p.b o vs)) :
    HR n w0 G (upd σ lh.length p) (lh.set k .dead ++ [blk]) (w.setCells p.b o vs) := by
  have h1 := hr.stores hk ho o vs .dead (fun e => by cases e) ⟨fun e => (by cases e), trivial⟩
  have hl : (lh.set k .dead).length = lh.length := by simp
  have h2 := h1.alias (p := p) (fun i q hi ha e => ?_) (h1.lt k p hk) blk (by rw [hl]; exact hb)
  · rw [hl] at h2; exact h2
  · by_cases hik : i = k
    · subst hik
      rw [getD_set_same _ _ _ (hr.dom i p hk)] at ha; cases ha
    · rw [getD_set_other _ _ hik] at ha
      exact hik (hr.inj k i p q hk hi ho ha e.symm).symm

theorem appendInts_sound (hr : HR n w0 G σ lh w) {t u e e2 ty : TypeId} {i : TypeInfo} {s s' x' : Value} {xs : List Int} {r : Value × List Blk} (ht : P.underlying t = some (.slice e)) (hu : P.underlying u = some (.slice e2)) (hi : P.info? e = some i) (hz : zeroOf P e = some (.int .i64 0))
    (hsz : i.size = 1) (hby : i.bytes = 8) (hs : VR σ s s') (hx : Holds P w 1 x' xs.length (xs.map (Value.int .i64))) (h : (appendInts s xs lh).get = some r) :
    ∃ v' w', (Builtin.append_ #[t, u] ty #[s', x']).run P w = .ok v' w' ∧ Good n w0 G σ lh.length r v' w' := by
  have stay : ∀ (base : Option Addr) (l c : Nat), xs.length = 0 → l ≤ c → VR σ s (.slice base l c) → ∃ v' w', (Builtin.append_ #[t, u] ty #[.slice base l c, x']).run P w = .ok v' w' ∧ Good n w0 G σ lh.length (s, lh) v' w' := by
    intro base l c hl hlc hv
    refine ⟨.slice base l c, w, ?_, σ, Ext.refl _ _, hv, hr⟩
    have hsrc := hx.src hu
    rw [hl] at hsrc
    obtain rfl : xs = [] := List.eq_nil_of_length_eq_zero hl
    have h1 := hsrc.len w
    have h2 := hsrc.cells
    simp only [List.map_nil] at h2
    cases base <;> simp [Builtin.append_, run_underlying ht, run_underlying hu, sizeOf, typeInfo, hi, h1, hlc, hsz, h2, storeCells]
  unfold appendInts at h
  split at h
  · obtain rfl := hs.plain1_eq rfl
    rcases M.get_br_some h with ⟨hb, hv⟩ | ⟨hb, h⟩
    · simp only [M.get_ret, Option.some.injEq] at hv; subst hv
      exact stay _ _ _ (beq_true hb) (Nat.le_refl _) hs
    · rcases M.get_br_some h with ⟨hc, hv⟩ | ⟨_, hv⟩
      · simp only [M.get_ret, Option.some.injEq] at hv; subst hv
        have hpos : 0 < xs.length := Nat.pos_of_ne_zero fun e => by rw [e] at hb; cases hb
        have := grow_ints (ty := ty) hr (sCap := 0) (base := none) (sLen := 0) (ys := []) ht hu hi hz hsz hby ⟨by simp, rfl, .inl ⟨0, rfl, rfl⟩⟩ hx (by omega) (by have := ble_true hc; omega)
        simpa using this
      · cases hv
  · obtain ⟨a, rfl⟩ : ∃ a, s' = .slice (some a) 0 0 := by
      cases hs with
      | empty a => exact ⟨a, rfl⟩
    rcases M.get_br_some h with ⟨hb, hv⟩ | ⟨hb, h⟩
    · simp only [M.get_ret, Option.some.injEq] at hv; subst hv
      exact stay _ _ _ (beq_true hb) (Nat.le_refl _) hs
    · rcases M.get_br_some h with ⟨hc, hv⟩ | ⟨_, hv⟩
      · simp only [M.get_ret, Option.some.injEq] at hv; subst hv
        have hpos : 0 < xs.length := Nat.pos_of_ne_zero fun e => by rw [e] at hb; cases hb
        have := grow_ints (ty := ty) hr (sCap := 0) (base := some a) (sLen := 0) (ys := []) ht hu hi hz hsz hby ⟨by simp, rfl, .inr ⟨a, 0, rfl, fun j v hv => by simp at hv⟩⟩ hx (by omega) (by have := ble_true hc; omega)
        simpa using this
      · cases hv
  · rename_i k off l c
    rcases M.get_br_some h with ⟨hlc, h⟩ | ⟨_, h⟩
    · obtain rfl := beq_true hlc
      obtain ⟨p, hk, rfl⟩ := hs.slice_inv
      rcases M.get_br_some h with ⟨hb, hv⟩ | ⟨hb, h⟩
      · cases hv
      · obtain ⟨ys, hy, h⟩ := M.get_bind_some h
        rcases M.get_br_some h with ⟨hc, hv⟩ | ⟨_, hv⟩
        · simp only [M.get_ret, Option.some.injEq] at hv; subst hv
          have hpos : 0 < xs.length := Nat.pos_of_ne_zero fun e => by rw [e] at hb; cases hb
          have ho := srcInts_sound (P := P) hr hs hy
          obtain ⟨h1, h2, h3⟩ := ho
          have hyl : ys.length = l := by
            rcases h3 with ⟨c, hc0, _⟩ | ⟨a, c, hc0, _⟩
            · cases hc0
            · cases hc0; rfl
          rw [hyl] at h3 h2
          exact grow_ints (ty := ty) hr ht hu hi hz hsz hby ⟨h1, h2, h3⟩ hx (by omega) (ble_true hc)
        · cases hv
    · cases h
  · rename_i k l
    obtain ⟨p, hk, hl0, rfl⟩ : ∃ p, σ k = some p ∧ l ≤ p.cap ∧ s' = .slice (some ⟨p.b, p.o, none⟩) l p.cap := by
      cases hs with
      | vec h hl => exact ⟨_, h, hl, rfl⟩
    split at h
    · rename_i ys hl
      rcases M.get_br_some h with ⟨hly, h⟩ | ⟨_, h⟩
      · obtain rfl := beq_true hly
        rcases M.get_br_some h with ⟨hb, hv⟩ | ⟨hb, h⟩
        · simp only [M.get_ret, Option.some.injEq] at hv; subst hv
          exact stay _ _ _ (beq_true hb) hl0 hs
        · rcases M.get_br_some h with ⟨hc, hv⟩ | ⟨_, hv⟩
          · simp only [M.get_ret, Option.some.injEq] at hv; subst hv
            have hpos : 0 < xs.length := Nat.pos_of_ne_zero fun e => by rw [e] at hb; cases hb
            have hown : (lh.getD k .dead).owned = true := by rw [hl]; rfl
            obtain ⟨hnb, hfz, hroom⟩ := (hr.blk k p hk).1 hown
            obtain ⟨hwd, hat⟩ := hr.ints_at hk hl
            rw [hwd] at hroom
            by_cases hroom0 : ys.length + xs.length ≤ p.cap
            · have hsome : ∀ j, j < (xs.map (Value.int .i64)).length → (w.cell? ⟨p.b, p.o + ys.length + j, none⟩).isSome = true := fun j hj => by
                rw [Nat.add_assoc]; exact hroom _ (by simp at hj; omega)
              have run := run_append_room_src (P := P) w t u ty e i ht hi p.b p.o ys.length p.cap x' xs.length (xs.map (Value.int .i64)) (by rw [hsz]; exact hx.src hu) hroom0 (by rw [hsz, Nat.mul_one]; exact hsome) (fun j _ => hfz _)
              rw [hsz, Nat.mul_one] at run
              refine ⟨_, _, run, _, hr.ext_upd p, VR.vec (upd_same _ _ _) hroom0, hr.regrow hk hown _ _ _ ⟨fun _ => ⟨hnb, fun o => (World.frozen?_setCells _ _ _ _ _).trans (hfz o), fun j hj => setCells_some _ _ _ _ hsome _ (hroom j (by rw [hwd] at hj; exact hj))⟩, hwd, fun j v hv => ?_⟩⟩
              rcases Nat.lt_or_ge j ys.length with hj | hj
              · rw [List.getElem?_append_left hj] at hv
                rw [World.cell?_setCells_out _ _ _ _ ⟨p.b, p.o + j, none⟩ (fun _ _ => by simp; omega)]
                exact hat j v hv
              · rw [List.getElem?_append_right hj] at hv
                have hj2 := (List.getElem?_eq_some_iff.1 hv).1
                have := World.cell?_setCells_in p.b (xs.map (Value.int .i64)) (p.o + ys.length) w hsome (j - ys.length) (by simpa using hj2)
                rw [show p.o + ys.length + (j - ys.length) = p.o + j by omega] at this
                rw [this]
                simp only [List.getElem_map]
                obtain ⟨_, rfl⟩ := List.getElem?_eq_some_iff.1 hv
                rfl
            · have hdead : HR n w0 G σ (lh.set k .dead) w := hr.re hk .dead (fun e => by cases e) (fun e => by cases e) ⟨fun e => (by cases e), trivial⟩
              have ho : Holds P w 1 (.slice (some ⟨p.b, p.o, none⟩) ys.length p.cap) ys.length (ys.map (Value.int .i64)) := holds_of_cells (one_ints _) (by simp) fun j v hv => by
                simp only [List.getElem?_map, Option.map_eq_some_iff] at hv
                obtain ⟨q, hq, rfl⟩ := hv
                exact hat j q hq
              have := grow_ints (ty := ty) hdead ht hu hi hz hsz hby ho hx (by omega) (ble_true hc)
              simpa using this
          · cases hv
      · cases h
    · cases h
  · cases h

/-- What grows anew: rows. -/
theorem grow_rows (hr : HR n w0 G σ lh w) {t u e e2 ty : TypeId} {i : TypeInfo} {base : Option Addr} {W sLen sCap : Nat} {x' : Value} {z : Array Value} {ys cs : List Value} {g' : Rows} (ht : P.underlying t = some (.slice e)) (hu : P.underlying u = some (.slice e2)) (hi : P.info? e = some i) (hz : zeroOf P e = some (.agg z))
    (hsz : i.size = W) (hzs : z.size = W) (hW : 1 ≤ W) (hby : i.bytes ≤ 1024) (ho : Holds P w W (.slice base sLen sCap) sLen ys) (hx : Holds P w W x' 1 cs) (hneed : sCap < sLen + 1) (hsm : sLen + 1 ≤ 1073741824)
    (hg : ∀ (i j : Nat) (v : Value), j < W → (ys ++ cs)[i * W + j]? = some v → VR σ (g'.at i j).val v) :
    ∃ v' w', (Builtin.append_ #[t, u] ty #[.slice base sLen sCap, x']).run P w = .ok v' w' ∧ Good n w0 G σ lh.length (vecOf lh.length (sLen + 1), lh ++ [.rows true true W (sLen + 1) g']) v' w' := by
  have hfit := growslice_fits hneed (bytes := i.bytes) (Nat.le_trans (Nat.mul_le_mul hsm hby) (by decide))
  have run := run_append_grow_src (P := P) w t u ty e i (.agg z) ht hi (zero_one hi hz) base sLen sCap ys (by rw [hsz]; exact ho.old) x' 1 cs (by rw [hsz]; exact hx.src hu) hneed (by omega) hfit
  refine ⟨_, _, run, ?_⟩
  have hcap := grownCap_ge w (sLen + 1) sCap e
  generalize grownCap w (sLen + 1) sCap e = cap at *
  have hyl := ho.2.1
  have hcl := hx.2.1
  have hlen : (ys ++ cs).length = (sLen + 1) * W := by rw [List.length_append, hyl, hcl, ← Nat.add_mul]
  have hsize : (((ys ++ cs).toArray ++ Builtin.zeroCells (Value.agg z).cells (cap - (sLen + 1)))).size = cap * W := by
    rw [Array.size_append, List.size_toArray, hlen, size_zeroCells]
    show (sLen + 1) * W + (cap - (sLen + 1)) * z.size = cap * W
    rw [hzs, ← Nat.add_mul]
    congr 1
    omega
  have hb : BR n (upd σ lh.length ⟨w.drew.heap.size, 0, W, cap⟩) (.rows true true W (sLen + 1) g') ⟨w.drew.heap.size, 0, W, cap⟩ (w.drew.alloc (.cells ((ys ++ cs).toArray ++ Builtin.zeroCells (Value.agg z).cells (cap - (sLen + 1))) e)) := by
    refine ⟨fun _ => ⟨hr.drew.size.new, fun o => World.frozen?_alloc_new _ _ _ _, fun j hj => ?_⟩, rfl, fun q j hq hj => ?_⟩
    · rw [Nat.zero_add, World.cell?_alloc_new]
      have : j < cap * W := hj
      rw [Array.getElem?_eq_getElem (by rw [hsize]; exact this)]; rfl
    · have hlt : q * W + j < (ys ++ cs).length := by
        rw [hlen]
        calc q * W + j < q * W + W := by omega
          _ = (q + 1) * W := by rw [Nat.add_mul]; omega
          _ ≤ (sLen + 1) * W := Nat.mul_le_mul_right _ (by omega)
      refine ⟨(ys ++ cs)[q * W + j], ?_, (hg q j _ hj (List.getElem?_eq_getElem hlt)).mono (hr.le_upd _)⟩
      rw [Nat.zero_add, World.cell?_alloc_new, Array.getElem?_append_left (by simpa using hlt)]
      simp only [List.getElem?_toArray]
      exact List.getElem?_eq_getElem hlt
  exact ⟨_, hr.drew.ext_upd _, VR.vec (p := ⟨w.drew.heap.size, 0, W, cap⟩) (upd_same _ _ _) hcap, hr.drew.new _ _ _ rfl hb⟩
theorem row_at {W i j : Nat} (hj : j < W) : (i * W + j) / W = i ∧ (i * W + j) % W = j := by
  have hW : 0 < W := by omega
  constructor
  · rw [Nat.add_comm, Nat.add_mul_div_right _ _ hW, Nat.div_eq_of_lt hj]; omega
  · rw [Nat.add_comm, Nat.add_mul_mod_self_right, Nat.mod_eq_of_lt hj]
theorem isScal_cell {v : Value} (h : isScal v = true) : isCell v = true := by
  cases v <;> first | rfl | cases h
theorem appendRow_sound (hr : HR n w0 G σ lh w) {t u e e2 ty : TypeId} {i : TypeInfo} {s s' : Value} {z : Array Value} {k0 : Nat} {p0 : Pl} {ow wr : Bool} {c : List Value} {r : Value × List Blk} (ht : P.underlying t = some (.slice e)) (hu : P.underlying u = some (.slice e2)) (hi : P.info? e = some i) (hz : zeroOf P e = some (.agg z))
    (hcl : c.length = i.size) (hzs : z.size = i.size) (hW : 1 ≤ i.size) (hby : i.bytes ≤ 1024) (hcell : c.all isScal = true) (hs : VR σ s s') (hk0 : σ k0 = some p0) (hl0 : lh.getD k0 .dead = .cells ow wr c) (h : (appendRow i.size s c lh).get = some r) :
    ∃ v' w', (Builtin.append_ #[t, u] ty #[s', .slice (some ⟨p0.b, p0.o, none⟩) 1 1]).run P w = .ok v' w' ∧ Good n w0 G σ lh.length r v' w' := by
  obtain ⟨cs, hcsl, hcs⟩ := exists_list (Q := fun q v' => w.cell? ⟨p0.b, p0.o + q, none⟩ = some v' ∧ VR σ (c.getD q undef) v') i.size (fun q hq => by
    obtain ⟨v', h1, h2⟩ := hr.cells_at hk0 hl0 (List.getElem?_eq_getElem (by omega : q < c.length))
    exact ⟨v', h1, by simpa [hcl, hq] using h2⟩)
  have hsc : ∀ j, j < i.size → isCell (c.getD j undef) = true ∧ isScal (c.getD j undef) = true := fun j hj => by
    rw [List.all_eq_true] at hcell
    have h1 := hcell (c.getD j undef) (by
      rw [List.getD_eq_getElem?_getD, List.getElem?_eq_getElem (by omega)]
      exact List.getElem_mem _)
    exact ⟨isScal_cell h1, h1⟩
  have hone : ∀ v ∈ cs, v.oneCell' = true := fun v hv => by
    obtain ⟨q, hq, rfl⟩ := List.mem_iff_getElem.1 hv
    exact isCell_of_VR (hcs q _ (List.getElem?_eq_getElem hq)).2 (hsc _ (by omega)).1
  have hx : Holds P w i.size (.slice (some ⟨p0.b, p0.o, none⟩) 1 1) 1 cs := holds_of_cells hone (by omega) fun j v hv => (hcs j v hv).1
  unfold appendRow at h
  split at h
  · simp only [M.get_ret, Option.some.injEq] at h; subst h
    obtain rfl := hs.plain1_eq rfl
    have := grow_rows (ty := ty) hr (sCap := 0) (base := none) (sLen := 0) (ys := []) (g' := rowOf c) ht hu hi hz rfl hzs hW hby ⟨by simp, by simp, .inl ⟨0, rfl, rfl⟩⟩ hx (by omega) (by omega) (fun q j v hj hv => by
      have hq : q = 0 := by
        have := (List.getElem?_eq_some_iff.1 hv).1
        simp only [List.nil_append, hcsl] at this
        rcases Nat.eq_zero_or_pos q with h0 | h0
        · exact h0
        · have := Nat.mul_le_mul_right i.size h0; omega
      subst hq
      simp only [List.nil_append, Nat.zero_mul, Nat.zero_add] at hv
      rw [rowOf_at (by omega) (hsc j hj).2]
      exact (hcs j v hv).2)
    simpa using this
  · rename_i k l
    obtain ⟨p, hk, hle, rfl⟩ : ∃ p, σ k = some p ∧ l ≤ p.cap ∧ s' = .slice (some ⟨p.b, p.o, none⟩) l p.cap := by
      cases hs with
      | vec h hl => exact ⟨_, h, hl, rfl⟩
    split at h
    · rename_i wd m g hl
      rcases M.get_br_some h with ⟨hwd, h⟩ | ⟨_, h⟩
      · rcases M.get_br_some h with ⟨hlm, h⟩ | ⟨_, h⟩
        · rcases M.get_br_some h with ⟨hsm0, h⟩ | ⟨_, h⟩
          · simp only [M.get_ret, Option.some.injEq] at h; subst h
            obtain rfl := beq_true hlm
            have hwd' : wd = i.size := beq_true hwd
            subst hwd'
            rw [Bool.and_eq_true] at hsm0
            have hkds := hsm0.2
            have hsm' : l + 1 ≤ 1073741824 := ble_true hsm0.1
            obtain ⟨hpw, hat⟩ := hr.rows_at hk hl
            obtain ⟨ys, hysl, hys⟩ := exists_list (Q := fun q v' => w.cell? ⟨p.b, p.o + q, none⟩ = some v' ∧ VR σ (g.at (q / i.size) (q % i.size)).val v') (l * i.size) (fun q hq => by
              have hq1 : q / i.size < l := Nat.div_lt_of_lt_mul (by rw [Nat.mul_comm]; exact hq)
              have hq2 : q % i.size < i.size := Nat.mod_lt _ (by omega)
              obtain ⟨v', h1, h2⟩ := hat _ _ hq1 hq2
              refine ⟨v', ?_, h2⟩
              rwa [show q / i.size * i.size + q % i.size = q by rw [Nat.mul_comm]; exact Nat.div_add_mod q i.size] at h1)
            have hyone : ∀ v ∈ ys, v.oneCell' = true := fun v hv => by
              obtain ⟨q, hq, rfl⟩ := List.mem_iff_getElem.1 hv
              refine isCell_of_VR (hys q _ (List.getElem?_eq_getElem hq)).2 ?_
              cases g.at (q / i.size) (q % i.size) <;> rfl
            have hgv : ∀ (q j : Nat) (v : Value), j < i.size → (ys ++ cs)[q * i.size + j]? = some v → VR σ ((moreRow l c g).at q j).val v := by
              intro q j v hj hv
              rcases Nat.lt_or_ge q l with hq | hq
              · have hlt : q * i.size + j < ys.length := by
                  rw [hysl]
                  calc q * i.size + j < q * i.size + i.size := by omega
                    _ = (q + 1) * i.size := by rw [Nat.add_mul]; omega
                    _ ≤ l * i.size := Nat.mul_le_mul_right _ hq
                rw [List.getElem?_append_left hlt] at hv
                have h2 := (hys _ v hv).2
                rw [(row_at hj).1, (row_at hj).2] at h2
                rw [moreRow_old (by omega)]; exact h2
              · have hlt := (List.getElem?_eq_some_iff.1 hv).1
                rw [List.length_append, hysl, hcsl] at hlt
                have hq' : q = l := by
                  rcases Nat.lt_or_ge l q with h1 | h1
                  · have := Nat.mul_le_mul_right i.size h1
                    rw [Nat.succ_mul] at this
                    omega
                  · omega
                subst hq'
                rw [List.getElem?_append_right (by rw [hysl]; omega), hysl, Nat.add_sub_cancel_left] at hv
                rw [moreRow_new hkds (by omega) (hsc j hj).2]
                exact (hcs j v hv).2
            have hown : (lh.getD k .dead).owned = true := by rw [hl]; rfl
            obtain ⟨hnb, hfz, hroom⟩ := (hr.blk k p hk).1 hown
            rw [hpw] at hroom
            by_cases hroom0 : l + 1 ≤ p.cap
            · have hle2 : (l + 1) * i.size ≤ p.cap * i.size := Nat.mul_le_mul_right _ hroom0
              rw [Nat.succ_mul] at hle2
              have hsome : ∀ j, j < cs.length → (w.cell? ⟨p.b, p.o + l * i.size + j, none⟩).isSome = true := fun j hj => by
                rw [Nat.add_assoc]; exact hroom _ (by omega)
              have run := run_append_room_src (P := P) w t u ty e i ht hi p.b p.o l p.cap (.slice (some ⟨p0.b, p0.o, none⟩) 1 1) 1 cs (hx.src hu) hroom0 hsome (fun j _ => hfz _)
              refine ⟨_, _, run, _, hr.ext_upd p, VR.vec (upd_same _ _ _) hroom0, hr.regrow hk hown _ _ _ ⟨fun _ => ⟨hnb, fun o => (World.frozen?_setCells _ _ _ _ _).trans (hfz o), fun j hj => setCells_some _ _ _ _ hsome _ (hroom j (by rw [hpw] at hj; exact hj))⟩, hpw, fun q j hq hj => ?_⟩⟩
              rcases Nat.lt_or_ge q l with hql | hql
              · have hlt : q * i.size + j < ys.length := by
                  rw [hysl]
                  calc q * i.size + j < q * i.size + i.size := by omega
                    _ = (q + 1) * i.size := by rw [Nat.add_mul]; omega
                    _ ≤ l * i.size := Nat.mul_le_mul_right _ hql
                refine ⟨ys[q * i.size + j], ?_, (hgv q j _ hj (by rw [List.getElem?_append_left hlt]; exact List.getElem?_eq_getElem hlt)).mono (hr.le_upd p)⟩
                rw [World.cell?_setCells_out _ _ _ _ ⟨p.b, p.o + (q * i.size + j), none⟩ (fun _ _ => by simp; omega)]
                exact (hys _ _ (List.getElem?_eq_getElem hlt)).1
              · obtain rfl : q = l := by omega
                have hlt : j < cs.length := by omega
                refine ⟨cs[j], ?_, (hgv q j _ hj (by rw [List.getElem?_append_right (by rw [hysl]; omega), hysl, Nat.add_sub_cancel_left]; exact List.getElem?_eq_getElem hlt)).mono (hr.le_upd p)⟩
                have := World.cell?_setCells_in p.b cs (p.o + q * i.size) w hsome j hlt
                rw [show p.o + q * i.size + j = p.o + (q * i.size + j) by omega] at this
                rw [this]
            · have hdead : HR n w0 G σ (lh.set k .dead) w := hr.re hk .dead (fun e => by cases e) (fun e => by cases e) ⟨fun e => (by cases e), trivial⟩
              have ho : Holds P w i.size (.slice (some ⟨p.b, p.o, none⟩) l p.cap) l ys := holds_of_cells hyone hysl fun j v hv => (hys j v hv).1
              have := grow_rows (ty := ty) hdead (g' := moreRow l c g) ht hu hi hz rfl hzs hW hby ho hx (by omega) hsm' hgv
              simpa using this
          · cases h
        · cases h
      · cases h
    · cases h
  · cases h
end
end Go.Sx

/- One operation of the symbolic run is one operation of the model's: stores, appends, calls; guards. No condition of its own. -/
namespace Go.Sx
open Go Go.RowKit
set_option linter.unusedVariables false
set_option linter.unusedSimpArgs false

/-- What may not be written stays. -/
def Keeps (lh lh' : List Blk) : Prop := lh.length ≤ lh'.length ∧ ∀ k, k < lh.length → (lh.getD k .dead).wrt = false → lh'.getD k .dead = lh.getD k .dead
theorem Keeps.refl (lh : List Blk) : Keeps lh lh := ⟨Nat.le_refl _, fun _ _ _ => rfl⟩
theorem Keeps.trans {a b c : List Blk} (h : Keeps a b) (k : Keeps b c) : Keeps a c :=
  ⟨Nat.le_trans h.1 k.1, fun i hi hw => by
    have h1 := h.2 i hi hw
    have h2 := k.2 i (Nat.lt_of_lt_of_le hi h.1) (by rw [h1]; exact hw)
    rw [h2, h1]⟩
theorem Keeps.append (lh N : List Blk) : Keeps lh (lh ++ N) := ⟨by simp, fun k hk _ => by simp [List.getElem?_append_left hk]⟩
theorem Keeps.set (lh : List Blk) {k : Nat} (blk : Blk) (hw : (lh.getD k .dead).wrt = true) : Keeps lh (lh.set k blk) :=
  ⟨by simp, fun i hi hiw => by
    have e : i ≠ k := fun e => by subst e; rw [hw] at hiw; cases hiw
    exact getD_set_other _ _ e⟩

section
variable {n : Nat → Prop} {w0 : World} {G : Nat}

/-- A function of the program that is called as it stands. -/
def FnOK (P : Program) (f : FuncId) (fn : Func) : Prop := P.funcs[f]? = some fn ∧ (fn.name == "runtime.NumGoroutine") = false ∧ fn.body.isSome = true
theorem FnOK.run {P : Program} {f : FuncId} {fn : Func} (h : FnOK P f fn) (as : Array Value) (w : World) : (callFunc f as).run P w = .ok (.enter f as) w := by
  obtain ⟨h1, h2, h3⟩ := h
  have h2' : ¬ fn.name = "runtime.NumGoroutine" := by simpa using h2
  have h4' : ¬ fn.body = none := fun e => by rw [e] at h3; cases h3
  simp [callFunc, h1, h2', h4']

/-- What a call of f with these arguments comes to. -/
def CallTo (P : Program) (n : Nat → Prop) (w0 : World) (G : Nat) (f : FuncId) (args : List Value) (lh : List Blk) (r : Value × List Blk) : Prop :=
  Keeps lh r.2 ∧ ∀ σ w args', HR n w0 G σ lh w → VRA σ args.toArray args' → Calls P f args' w fun e w' => ∃ v', e = .returned v' ∧ Good n w0 G σ lh.length r v' w'
def CallsOK (P : Program) (n : Nat → Prop) (w0 : World) (G : Nat) (callF : FuncId → List Value → List Blk → M (Value × List Blk)) : Prop :=
  ∀ f args lh r, (callF f args lh).get = some r → (∃ fn, FnOK P f fn) ∧ CallTo P n w0 G f args lh r

theorem storeM_keeps {P : Program} {t : TypeId} {a x : Value} {lh lh' : List Blk} (h : (storeM P t a x lh).get = some lh') : Keeps lh lh' := by
  unfold storeM at h
  split at h
  · split at h
    · rename_i hl
      rcases M.get_br_some h with ⟨_, h⟩ | ⟨_, h⟩
      · rcases M.get_br_some h with ⟨_, h⟩ | ⟨_, h⟩
        · simp only [M.get_ret, Option.some.injEq] at h; subst h
          exact Keeps.set _ _ (by rw [hl]; rfl)
        · cases h
      · cases h
    · rename_i hl
      split at h
      · rcases M.get_br_some h with ⟨_, h⟩ | ⟨_, h⟩
        · rcases M.get_br_some h with ⟨_, h⟩ | ⟨_, h⟩
          · simp only [M.get_ret, Option.some.injEq] at h; subst h
            exact Keeps.set _ _ (by rw [hl]; rfl)
          · cases h
        · cases h
      · cases h
    · cases h
  · cases h
theorem appendInts_keeps {s : Value} {xs : List Int} {lh : List Blk} {r : Value × List Blk} (h : (appendInts s xs lh).get = some r) : Keeps lh r.2 := by
  unfold appendInts at h
  split at h
  · rcases M.get_br_some h with ⟨_, h⟩ | ⟨_, h⟩
    · simp only [M.get_ret, Option.some.injEq] at h; subst h; exact Keeps.refl _
    · rcases M.get_br_some h with ⟨_, h⟩ | ⟨_, h⟩
      · simp only [M.get_ret, Option.some.injEq] at h; subst h; exact Keeps.append _ _
      · cases h
  · rcases M.get_br_some h with ⟨_, h⟩ | ⟨_, h⟩
    · simp only [M.get_ret, Option.some.injEq] at h; subst h; exact Keeps.refl _
    · rcases M.get_br_some h with ⟨_, h⟩ | ⟨_, h⟩
      · simp only [M.get_ret, Option.some.injEq] at h; subst h; exact Keeps.append _ _
      · cases h
  · rcases M.get_br_some h with ⟨_, h⟩ | ⟨_, h⟩
    · rcases M.get_br_some h with ⟨_, h⟩ | ⟨_, h⟩
      · cases h
      · obtain ⟨ys, _, h⟩ := M.get_bind_some h
        rcases M.get_br_some h with ⟨_, h⟩ | ⟨_, h⟩
        · simp only [M.get_ret, Option.some.injEq] at h; subst h; exact Keeps.append _ _
        · cases h
    · cases h
  · split at h
    · rename_i hl
      rcases M.get_br_some h with ⟨_, h⟩ | ⟨_, h⟩
      · rcases M.get_br_some h with ⟨_, h⟩ | ⟨_, h⟩
        · simp only [M.get_ret, Option.some.injEq] at h; subst h; exact Keeps.refl _
        · rcases M.get_br_some h with ⟨_, h⟩ | ⟨_, h⟩
          · simp only [M.get_ret, Option.some.injEq] at h; subst h
            exact (Keeps.set _ _ (by rw [hl]; rfl)).trans (Keeps.append _ _)
          · cases h
      · cases h
    · cases h
  · cases h
theorem appendRow_keeps {m : Nat} {s : Value} {c : List Value} {lh : List Blk} {r : Value × List Blk} (h : (appendRow m s c lh).get = some r) : Keeps lh r.2 := by
  unfold appendRow at h
  split at h
  · simp only [M.get_ret, Option.some.injEq] at h; subst h; exact Keeps.append _ _
  · split at h
    · rename_i hl
      rcases M.get_br_some h with ⟨_, h⟩ | ⟨_, h⟩
      · rcases M.get_br_some h with ⟨_, h⟩ | ⟨_, h⟩
        · rcases M.get_br_some h with ⟨_, h⟩ | ⟨_, h⟩
          · simp only [M.get_ret, Option.some.injEq] at h; subst h
            exact (Keeps.set _ _ (by rw [hl]; rfl)).trans (Keeps.append _ _)
          · cases h
        · cases h
      · cases h
    · cases h
  · cases h
theorem appendM_keeps {P : Program} {t u : TypeId} {s x : Value} {lh : List Blk} {r : Value × List Blk} (h : (appendM P t u s x lh).get = some r) : Keeps lh r.2 := by
  unfold appendM at h
  split at h
  · split at h
    · rcases M.get_br_some h with ⟨_, h⟩ | ⟨_, h⟩
      · obtain ⟨ys, _, h⟩ := M.get_bind_some h
        exact appendInts_keeps h
      · cases h
    · split at h
      · split at h
        · rcases M.get_br_some h with ⟨_, h⟩ | ⟨_, h⟩
          · exact appendRow_keeps h
          · cases h
        · cases h
      · cases h
    · cases h
  · cases h
theorem appendM_sound {P : Program} {σ : Nat → Option Pl} {lh : List Blk} {w : World} (hr : HR n w0 G σ lh w) {t u ty : TypeId} {s s' x x' : Value} {r : Value × List Blk} (hs : VR σ s s') (hx : VR σ x x') (h : (appendM P t u s x lh).get = some r) :
    ∃ v' w', (Builtin.append_ #[t, u] ty #[s', x']).run P w = .ok v' w' ∧ Good n w0 G σ lh.length r v' w' := by
  unfold appendM at h
  split at h
  · rename_i e e2 ht hu
    split at h
    · rename_i i hi hk hz
      rcases M.get_br_some h with ⟨hb, h⟩ | ⟨_, h⟩
      · obtain ⟨ys, hy, h⟩ := M.get_bind_some h
        simp only [Bool.and_eq_true] at hb
        exact appendInts_sound hr ht hu hi hz (beq_true hb.1) (beq_true hb.2) hs (srcInts_sound hr hx hy) h
      · cases h
    · rename_i i fs z hi hk hz
      split at h
      · rename_i k
        split at h
        · rename_i ow wr c hl
          rcases M.get_br_some h with ⟨hb, h⟩ | ⟨_, h⟩
          · simp only [Bool.and_eq_true] at hb
            obtain ⟨⟨⟨⟨b1, b2⟩, b3⟩, b4⟩, b5⟩ := hb
            obtain ⟨p, hkp, rfl⟩ := hx.slice_inv
            have := appendRow_sound (ty := ty) hr ht hu hi hz (beq_true b1) (beq_true b2) (ble_true b3) (ble_true b4) b5 hs hkp hl h
            simpa using this
          · cases h
        · cases h
      · cases h
    · cases h
  · cases h

theorem insertM_keeps {P : Program} {t : TypeId} {m k v : Value} {lh lh' : List Blk} (h : (insertM P t m k v lh).get = some lh') : Keeps lh lh' := by
  unfold insertM at h
  split at h
  · split at h
    · split at h
      · rename_i hl
        obtain ⟨u, hf, h⟩ := M.get_bind_some h
        simp only [M.get_ret, Option.some.injEq] at h; subst h
        exact Keeps.set lh _ (by rw [hl]; rfl)
      · cases h
    · cases h
  · cases h
theorem loudM_keeps {E : Env} {callF : FuncId → List Value → List Blk → M (Value × List Blk)} (hc : CallsOK E.P n w0 G callF) {ev : Operand → Value} {lh : List Blk} {op : Op} {r : Value × List Blk} (h : (loudM E callF ev lh op).get = some r) : Keeps lh r.2 := by
  unfold loudM at h
  split at h
  · obtain ⟨l, hl, h⟩ := M.get_bind_some h
    simp only [M.get_ret, Option.some.injEq] at h; subst h
    exact storeM_keeps hl
  · obtain ⟨l, hl, h⟩ := M.get_bind_some h
    simp only [M.get_ret, Option.some.injEq] at h; subst h
    exact insertM_keeps hl
  · split at h
    · split at h
      · exact (hc _ _ _ _ h).2.1
      · cases h
    · split at h
      · exact appendM_keeps h
      · cases h
    · cases h
  · cases h

theorem loudM_sound {E : Env} {callF : FuncId → List Value → List Blk → M (Value × List Blk)} (hc : CallsOK E.P n w0 G callF) {σ : Nat → Option Pl} {lh : List Blk} {w : World} (hr : HR n w0 G σ lh w) {ev : Operand → Value} {a : Act} {o : Oper}
    (hop : ∀ x ∈ o.op.operands, VR σ (ev x) (a.eval x)) {r : Value × List Blk} (h : (loudM E callF ev lh o.op).get = some r) {next : Act → World → Prop} {Q : Exit → Act → World → Prop}
    (hn : ∀ v' w', Good n w0 G σ lh.length r v' w' → next (a.put o.dst v') w') : o.wp E.P a w next Q := by
  obtain ⟨dst, op, ty, pos, after, guard⟩ := o
  simp only at h hop hn
  unfold loudM at h
  split at h
  · rename_i t x y
    obtain ⟨l, hl, h⟩ := M.get_bind_some h
    simp only [M.get_ret, Option.some.injEq] at h; subst h
    obtain ⟨w', h1, h2⟩ := storeM_sound hr (hop x (by simp [Op.operands])) (hop y (by simp [Op.operands])) hl
    unfold Oper.wp
    simp only [execOp, Sem.run_bind, h1, Result.andThen_ok, Sem.run_pure, Oper.upon_skip]
    exact hn _ _ ⟨σ, Ext.refl _ _, VR.any _, h2⟩
  · rename_i t m k x
    obtain ⟨l, hl, h⟩ := M.get_bind_some h
    simp only [M.get_ret, Option.some.injEq] at h; subst h
    obtain ⟨w', h1, h2⟩ := insertM_sound hr (hop m (by simp [Op.operands])) (hop k (by simp [Op.operands])) (hop x (by simp [Op.operands])) hl
    unfold Oper.wp
    simp only [execOp, Sem.run_bind, h1, Result.andThen_ok, Sem.run_pure, Oper.upon_skip]
    exact hn _ _ ⟨σ, Ext.refl _ _, VR.any _, h2⟩
  · rename_i c
    obtain ⟨callee, args, ats⟩ := c
    simp only at h
    split at h
    · rename_i f
      split at h
      · rename_i g fa cp hf
        obtain ⟨⟨fn, hfn⟩, _, hcall⟩ := hc _ _ _ _ h
        have hfv := hop f (by simp [Op.operands, Call.operands])
        rw [hf] at hfv
        obtain ⟨fa', cp', hev, ha, hcp⟩ : ∃ fa' cp', a.eval f = .func (.func g) fa' cp' ∧ VRA σ fa fa' ∧ VRA σ cp cp' := by
          cases he : a.eval f <;> rw [he] at hfv <;> cases hfv
          rename_i a1 a2 a3 a4 a5 a6
          exact ⟨_, _, rfl, ⟨a3, a4⟩, ⟨a5, a6⟩⟩
        have hargs := VRA.map (σ := σ) ev a.eval args fun x hx => hop x (by simp [Op.operands, Call.operands, hx])
        have hall : VRA σ (fa.toList ++ args.toList.map ev ++ cp.toList).toArray (fa' ++ args.map a.eval ++ cp') := by
          have := (ha.append hargs).append hcp
          have e : (fa.toList ++ args.toList.map ev ++ cp.toList).toArray = fa ++ args.map ev ++ cp := by
            apply Array.toList_inj.1; simp
          rw [e]; exact this
        have := hcall σ w _ hr hall
        unfold Oper.wp
        simp only [execOp, resolve, hev, Deferred.ofValue, Sem.run_bind, Sem.run_pure, Result.andThen_ok, invoke, hfn.run, Oper.upon_enter]
        refine this.mono fun e w' hh => ?_
        obtain ⟨v', rfl, hg⟩ := hh
        exact hn _ _ hg
      · cases h
    · split at h
      · rename_i hargs hats
        obtain rfl : args = #[_, _] := Array.toList_inj.1 hargs
        obtain rfl : ats = #[_, _] := Array.toList_inj.1 hats
        obtain ⟨v', w', h1, h2⟩ := appendM_sound (ty := ty) hr (hop _ (by simp [Op.operands, Call.operands])) (hop _ (by simp [Op.operands, Call.operands])) h
        unfold Oper.wp
        simp only [execOp, resolve, invoke, builtin, Sem.run_bind, Sem.run_pure, Result.andThen_ok, List.map_toArray, List.map_cons, List.map_nil, h1, Oper.upon_value]
        exact hn _ _ h2
      · cases h
    · cases h
  · cases h

theorem opM_keeps {E : Env} {callF : FuncId → List Value → List Blk → M (Value × List Blk)} (hc : CallsOK E.P n w0 G callF) {ev : Operand → Value} {lh : List Blk} {op : Op} {r : Value × List Blk} (h : (opM E callF ev lh op).get = some r) : Keeps lh r.2 := by
  unfold opM at h
  split at h
  · obtain ⟨v, _, h⟩ := M.get_bind_some h
    simp only [M.get_ret, Option.some.injEq] at h; subst h
    exact Keeps.refl _
  · obtain ⟨v, _, h⟩ := M.get_bind_some h
    simp only [M.get_ret, Option.some.injEq] at h; subst h
    exact Keeps.append _ _
  · exact loudM_keeps hc h
theorem opM_sound {E : Env} (hE : EqsOK E) {callF : FuncId → List Value → List Blk → M (Value × List Blk)} (hc : CallsOK E.P n w0 G callF) {σ : Nat → Option Pl} {lh : List Blk} {w : World} (hr : HR n w0 G σ lh w) {ev : Operand → Value} {a : Act} {o : Oper}
    (hop : ∀ x ∈ o.op.operands, VR σ (ev x) (a.eval x)) {r : Value × List Blk} (h : (opM E callF ev lh o.op).get = some r) {next : Act → World → Prop} {Q : Exit → Act → World → Prop}
    (hn : ∀ v' w', Good n w0 G σ lh.length r v' w' → next (a.put o.dst v') w') : o.wp E.P a w next Q := by
  unfold opM at h
  split at h
  · obtain ⟨v, hv, h⟩ := M.get_bind_some h
    simp only [M.get_ret, Option.some.injEq] at h; subst h
    obtain ⟨v', h1, h2⟩ := valM_sound hE hr hop hv
    unfold Oper.wp
    rw [h1, Oper.upon_value]
    exact hn _ _ ⟨σ, Ext.refl _ _, h2, hr⟩
  · obtain ⟨q, hq, h⟩ := M.get_bind_some h
    simp only [M.get_ret, Option.some.injEq] at h; subst h
    obtain ⟨v', ob, h1, h2⟩ := newM_sound hr.size hop hq
    unfold Oper.wp
    rw [h1, Oper.upon_value]
    exact hn _ _ (h2.good hr)
  · exact loudM_sound hc hr hop h hn

/-! ### States -/
structure Rel (n : Nat → Prop) (w0 : World) (G : Nat) (σ : Nat → Option Pl) (s : St) (a : Act) (w : World) : Prop where
  sz : a.tmps.size = s.tmps.length
  tm : ∀ t, VR σ (s.tmps.getD t undef) (a.tmps.getD t undef)
  df : a.defers = []
  hr : HR n w0 G σ s.lh w

theorem getD_putL (tm : List Value) (dst : Option Tmp) (v : Value) (t : Nat) : (putL tm dst v).getD t undef = if dst = some t ∧ t < tm.length then v else tm.getD t undef := by
  cases dst with
  | none => simp [putL]
  | some d =>
    simp only [putL, List.getD_eq_getElem?_getD, List.getElem?_set]
    by_cases e : d = t
    · subst e
      by_cases hl : d < tm.length
      · simp [hl]
      · simp [hl]
    · simp [e]
theorem getD_put (a : Act) (dst : Option Tmp) (v : Value) (t : Nat) : (a.put dst v).tmps.getD t undef = if dst = some t ∧ t < a.tmps.size then v else a.tmps.getD t undef := by
  cases dst with
  | none => simp [Act.put]
  | some d =>
    simp only [Act.put, Array.getD_eq_getD_getElem?, Array.getElem?_setIfInBounds]
    by_cases e : d = t
    · subst e
      by_cases hl : d < a.tmps.size
      · simp [hl]
      · simp [hl]
    · simp [e]
theorem putL_length (tm : List Value) (dst : Option Tmp) (v : Value) : (putL tm dst v).length = tm.length := by cases dst <;> simp [putL]
theorem put_size (a : Act) (dst : Option Tmp) (v : Value) : (a.put dst v).tmps.size = a.tmps.size := by cases dst <;> simp [Act.put]
theorem put_defers (a : Act) (dst : Option Tmp) (v : Value) : (a.put dst v).defers = a.defers := by cases dst <;> rfl

theorem Rel.put {σ σ' : Nat → Option Pl} {s : St} {a : Act} {w w' : World} (h : Rel n w0 G σ s a w) (hs : Le σ σ') (dst : Option Tmp) {v v' : Value} (hv : VR σ' v v') {lh' : List Blk} (hr : HR n w0 G σ' lh' w') :
    Rel n w0 G σ' ⟨putL s.tmps dst v, lh'⟩ (a.put dst v') w' := by
  refine ⟨by rw [put_size, putL_length]; exact h.sz, fun t => ?_, by rw [put_defers]; exact h.df, hr⟩
  rw [getD_putL, getD_put, h.sz]
  split
  · exact hv
  · exact (h.tm t).mono hs
theorem Rel.ev {σ : Nat → Option Pl} {s : St} {a : Act} {w : World} (h : Rel n w0 G σ s a w) (x : Operand) : VR σ (evx G s.tmps x) (a.eval x) := by
  cases x with
  | tmp t => exact h.tm t
  | const v =>
    simp only [evx, Act.eval]
    cases hp : plain v with
    | true => exact VR.plain σ hp
    | false => exact VR.any _
  | global g =>
    simp only [evx, Act.eval]
    cases hb : Nat.blt g G with
    | true =>
      obtain ⟨p, h1, h2, h3⟩ := h.hr.glob g (blt_true hb)
      have := VR.ptr (off := 0) h1
      rw [h2, h3] at this
      exact this
    | false => exact VR.any _
  | func f => exact VR.func f rfl rfl (fun i x y hx => by simp at hx) fun i x y hx => by simp at hx

theorem Rel.bool_at {σ : Nat → Option Pl} {s : St} {a : Act} {w : World} (h : Rel n w0 G σ s a w) {t : Nat} {b : Bool} (hb : s.tmps.getD t undef = .bool b) : a.tmps[t]? = some (.bool b) := by
  have := h.tm t
  rw [hb] at this
  have e := this.plain1_eq rfl
  rw [Array.getD_eq_getD_getElem?] at e
  cases hx : a.tmps[t]? with
  | none => rw [hx] at e; simp [undef] at e
  | some v => rw [hx] at e; simp at e; rw [e]
theorem set_same (tm : List Value) {t : Nat} {v : Value} (h : tm.getD t undef = v) (hv : v ≠ undef) : tm.set t v = tm := by
  have hl : t < tm.length := by
    rcases Nat.lt_or_ge t tm.length with h1 | h1
    · exact h1
    · exact absurd (by rw [← h]; simp [List.getElem?_eq_none h1]) hv
  have : tm[t] = v := by simpa [hl] using h
  rw [← this]
  exact List.set_getElem_self hl

/-- Behind a guard that didn't run nothing runs. -/
theorem wanted_skip {σ : Nat → Option Pl} {ops : Array Oper} {o : Oper} {j : Nat} {want : Bool} {t : Tmp} {tm : Array Value} {x : Option Nat} (hg : o.guard = some (j, want)) (ht : (ops[j]?).bind (·.dst) = some t) (hv : VR σ (.chan x) (tm.getD t undef)) : Region.wanted o (yielded ops tm) = false := by
  have e : tm.getD t undef = undef := by
    generalize tm.getD t undef = v at hv
    cases hv with
    | skip => rfl
  simp only [Region.wanted, hg, yielded, ht, Option.bind_some]
  cases hx : tm[t]? with
  | none => rfl
  | some v =>
    rw [Array.getD_eq_getD_getElem?, hx] at e
    simp at e
    subst e
    rfl
/-- Behind a guard: what is wanted runs, what isn't doesn't. -/
theorem guardM_some {α : Type} {ops : Array Oper} {o : Oper} {s : St} {yes no : St → M α} {x : α} (h : (guardM ops o s yes no).get = some x) :
    ∃ g : Bool, (g = true → (yes s).get = some x) ∧ (g = false → (no s).get = some x) ∧ (∀ σ a w, Rel n w0 G σ s a w → Region.wanted o (yielded ops a.tmps) = g) ∧
      (o.guard = none ∧ g = true ∨ (∃ j want t b, o.guard = some (j, want) ∧ (ops[j]?).bind (·.dst) = some t ∧ s.tmps.getD t undef = .bool b ∧ g = (b == want)) ∨ ∃ j want t x, o.guard = some (j, want) ∧ (ops[j]?).bind (·.dst) = some t ∧ s.tmps.getD t undef = .chan x ∧ g = false) := by
  unfold guardM at h
  split at h
  · rename_i hg
    exact ⟨true, fun _ => h, fun e => (by cases e), fun _ _ _ _ => (by simp [Region.wanted, hg]), .inl ⟨hg, rfl⟩⟩
  · rename_i j want hg
    split at h
    · cases h
    · rename_i t ht
      split at h
      · rename_i b hb
        have hw : ∀ σ a w, Rel n w0 G σ s a w → Region.wanted o (yielded ops a.tmps) = (b == want) := by
          intro σ a w hrel
          simp only [Region.wanted, hg, yielded, ht, Option.bind_some, hrel.bool_at hb]
          cases b <;> cases want <;> rfl
        have hset : ∀ c, b = c → (⟨s.tmps.set t (.bool c), s.lh⟩ : St) = s := by
          rintro c rfl
          rw [set_same _ hb (by simp [undef])]
        rcases M.get_br_some h with ⟨rfl, h⟩ | ⟨rfl, h⟩
        · rw [hset true rfl] at h
          refine ⟨_, ?_, ?_, hw, .inr (.inl ⟨j, want, t, true, hg, ht, hb, rfl⟩)⟩
          · intro e; cases want <;> first | exact h | cases e
          · intro e; cases want <;> first | exact h | cases e
        · rw [hset false rfl] at h
          refine ⟨_, ?_, ?_, hw, .inr (.inl ⟨j, want, t, false, hg, ht, hb, rfl⟩)⟩
          · intro e; cases want <;> first | exact h | cases e
          · intro e; cases want <;> first | exact h | cases e
      · rename_i x hb
        refine ⟨false, fun e => (by cases e), fun _ => h, fun σ a w hrel => ?_, .inr (.inr ⟨j, want, t, x, hg, ht, hb, rfl⟩)⟩
        have hv := hrel.tm t
        rw [hb] at hv
        exact wanted_skip hg ht hv
      · cases h

/-- The operations of a region whose order is that of the text. -/
theorem steps_sound {E : Env} (hE : EqsOK E) (hG : E.G = G) {callF : FuncId → List Value → List Blk → M (Value × List Blk)} (hc : CallsOK E.P n w0 G callF) (ops : Array Oper) : ∀ (l : List Nat) (s s' : St), (stepsM (stepOp E callF ops) l s).get = some s' →
    Keeps s.lh s'.lh ∧ ∀ σ a w (Q : Exit → Act → World → Prop), Rel n w0 G σ s a w → (∀ σ' a' w', Ext s.lh.length σ σ' → Rel n w0 G σ' s' a' w' → Q .normal a' w') → wpOps E.P ops Q l a w
  | [], s, s', h => by
    simp only [stepsM, M.get_ret, Option.some.injEq] at h; subst h
    exact ⟨Keeps.refl _, fun σ a w Q hrel hq => hq σ a w (Ext.refl _ _) hrel⟩
  | i :: r, s, s', h => by
    obtain ⟨s1, h1, h2⟩ := M.get_bind_some h
    obtain ⟨ik, ih⟩ := steps_sound hE hG hc ops r s1 s' h2
    unfold stepOp at h1
    split at h1
    · rename_i ho
      simp only [M.get_ret, Option.some.injEq] at h1; subst h1
      refine ⟨ik, fun σ a w Q hrel hq => ?_⟩
      simp only [wpOps, ho]
      exact ih σ a w Q hrel hq
    · rename_i o ho
      obtain ⟨g, hy, hno, hw, _⟩ := guardM_some (n := n) (w0 := w0) (G := G) h1
      cases g with
      | true =>
        obtain ⟨q, hq, hs1⟩ := M.get_bind_some (hy rfl)
        simp only [M.get_ret, Option.some.injEq] at hs1; subst hs1
        refine ⟨(opM_keeps hc hq).trans ik, fun σ a w Q hrel hfin => ?_⟩
        simp only [wpOps, ho, hw σ a w hrel, if_true]
        refine .inl (opM_sound hE hc hrel.hr (fun x _ => by rw [hG]; exact hrel.ev x) hq fun v' w' hgood => ?_)
        obtain ⟨σ', hle, hv, hr⟩ := hgood
        exact ih σ' _ w' Q (hrel.put hle.1 o.dst hv hr) fun σ'' a' w'' hle' hrel' => hfin σ'' a' w'' (hle.trans hle' (opM_keeps hc hq).1) hrel'
      | false =>
        have h3 := hno rfl
        simp only [skipOp, M.get_ret, Option.some.injEq] at h3; subst h3
        refine ⟨ik, fun σ a w Q hrel hfin => ?_⟩
        simp only [wpOps, ho, hw σ a w hrel, Bool.false_eq_true, if_false]
        exact ih σ _ w Q (hrel.put (Le.refl _) o.dst VR.skip hrel.hr) hfin
end
end Go.Sx
