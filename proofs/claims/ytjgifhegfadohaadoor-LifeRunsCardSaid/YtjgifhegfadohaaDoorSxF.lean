/- The operations of the symbolic run are the model's: values. No condition of its own. -/
import Derived.Test.YtjgifhegfadohaaDoorSxE
namespace Go.Sx
open Go Go.RowKit
set_option linter.unusedVariables false
section
variable {P : Program} {n : Nat} {w0 : World} {G : Nat} {σ : Nat → Option Pl} {lh : List Blk} {w : World}

theorem cellsOf_cells {v : Value} {xs : List Value} (h : cellsOf v = some xs) : v.cells = xs.toArray := by
  unfold cellsOf at h
  split at h
  · rename_i c
    cases hc : c.all isCell <;> simp [hc] at h
    subst h; simp [Value.cells]
  · cases h
  · cases h
  · rename_i h1 h2 h3
    cases h
    cases v <;> first | rfl | exact absurd rfl (h1 _)
theorem known_VRA {v v' : Value} (h : VR σ v v') (hk : (cellsOf v).isSome = true) : VRA σ v.cells v'.cells := by
  obtain ⟨xs, hx⟩ := Option.isSome_iff_exists.1 hk
  obtain ⟨xs', h1, h2, h3, _⟩ := cellsOf_VR h hx
  rw [cellsOf_cells hx, h1]
  exact ⟨by simp [h2], fun i x y hx hy => h3 i x y (by simpa using hx) (by simpa using hy)⟩
theorem VRA.set {a a' : Array Value} (h : VRA σ a a') (i : Nat) {v v' : Value} (hv : VR σ v v') : VRA σ (a.setIfInBounds i v) (a'.setIfInBounds i v') := by
  refine ⟨by simp [h.1], fun j x y hx hy => ?_⟩
  rw [Array.getElem?_setIfInBounds] at hx hy
  rw [← h.1] at hy
  split at hx
  · rename_i e
    rw [if_pos e] at hy
    split at hx
    · rename_i e2
      rw [if_pos e2] at hy
      cases hx; cases hy; exact hv
    · cases hx
  · rename_i e
    rw [if_neg e] at hy
    exact h.2 j x y hx hy
theorem foldl_VRA (off : Nat) : ∀ (cs cs' : List Value) (k : Nat) (z z' : Array Value), VRA σ z z' → cs.length = cs'.length → (∀ (i : Nat) (x y : Value), cs[i]? = some x → cs'[i]? = some y → VR σ x y) →
    VRA σ ((cs.zipIdx k).foldl (fun acc (c, j) => acc.setIfInBounds (off + j) c) z) ((cs'.zipIdx k).foldl (fun acc (c, j) => acc.setIfInBounds (off + j) c) z')
  | [], [], k, z, z', hz, _, _ => hz
  | [], _ :: _, _, _, _, _, h, _ => by simp at h
  | _ :: _, [], _, _, _, _, h, _ => by simp at h
  | c :: cs, c' :: cs', k, z, z', hz, hl, h => by
    simp only [List.zipIdx_cons, List.foldl_cons]
    exact foldl_VRA off cs cs' (k + 1) _ _ (hz.set _ (h 0 c c' rfl rfl)) (by simpa using hl) fun i x y hx hy => h (i + 1) x y (by simpa using hx) (by simpa using hy)
theorem fill_VRA (f : Nat → Option (Nat × Nat)) : ∀ (ps ps' : List (Nat × Value)) (z z' : Array Value) (cs : Array Value), VRA σ z z' → ps.map (·.1) = ps'.map (·.1) →
    (∀ (i : Nat) (x y : Nat × Value), ps[i]? = some x → ps'[i]? = some y → VR σ x.2 y.2) → allKnown (ps.map (·.2)) = true → Instr.fill f z ps = some cs → ∃ cs', Instr.fill f z' ps' = some cs' ∧ VRA σ cs cs'
  | [], [], z, z', cs, hz, _, _, _, h => by simp [Instr.fill] at h; subst h; exact ⟨z', rfl, hz⟩
  | [], _ :: _, _, _, _, _, h, _, _, _ => by simp at h
  | _ :: _, [], _, _, _, _, h, _, _, _ => by simp at h
  | (i, v) :: r, (i', v') :: r', z, z', cs, hz, hi, hv, hk, h => by
    simp only [List.map_cons, List.cons.injEq] at hi
    obtain ⟨rfl, hi⟩ := hi
    simp only [allKnown, List.map_cons, List.all_cons, Bool.and_eq_true] at hk
    have hvv := known_VRA (hv 0 _ _ rfl rfl) hk.1
    simp only [Instr.fill] at h ⊢
    cases hf : f i with
    | none => rw [hf] at h; cases h
    | some os =>
      obtain ⟨off, size⟩ := os
      rw [hf] at h
      simp only at h ⊢
      rw [← hvv.1, ← hz.1]
      split at h
      · cases h
      · rename_i hc
        rw [if_neg hc]
        refine fill_VRA f r r' _ _ cs ?_ hi (fun i x y hx hy => hv (i + 1) x y (by simpa using hx) (by simpa using hy)) hk.2 h
        rw [← Array.foldl_toList, ← Array.foldl_toList, Array.toList_zipIdx, Array.toList_zipIdx]
        exact foldl_VRA off _ _ 0 _ _ hz (by simpa using hvv.1) fun j x y hx hy => hvv.2 j x y (by simpa using hx) (by simpa using hy)

theorem plain_cells {z : Value} (hz : plain z = true) (hk : ∀ c, z ≠ .tuple c) : VRA σ z.cells z.cells := by
  have := VR.plain σ hz
  refine ⟨rfl, fun i x y hx hy => ?_⟩
  obtain rfl : x = y := Option.some.inj (hx.symm.trans hy)
  cases z <;> first
    | exact absurd rfl (hk _)
    | (simp only [Value.cells] at hx hy
       match i, hx with
       | 0, hx => simp at hx; subst hx; exact this
       | i + 1, hx => simp at hx)
    | (rename_i c
       simp only [plain] at hz
       rw [Array.all_eq_true] at hz
       obtain ⟨hi, rfl⟩ := Array.getElem?_eq_some_iff.1 hx
       exact VR.plain1 σ (hz i hi))

theorem run_places {fs : List Field} {ps : List (Nat × Nat)} (h : places P fs = some ps) (w : World) :
    (fs.mapM fun f => (do pure (f.offset, ← sizeOf f.type) : Sem (Nat × Nat))).run P w = .ok ps w := by
  induction fs generalizing ps with
  | nil => simp [places] at h; subst h; simp
  | cons f r ih =>
    simp only [places] at h
    cases hi : P.info? f.type with
    | none => simp [hi] at h
    | some i =>
      cases hp : places P r with
      | none => simp [hi, hp] at h
      | some qs =>
        simp [hi, hp] at h
        subst h
        simp only [List.mapM_cons, Sem.run_bind, run_sizeOf hi, Result.andThen_ok, Sem.run_pure, ih hp]

theorem parts_map {α : Type} (parts : Array (Nat × α)) (f g : α → Value) (h : ∀ p ∈ parts, VR σ (f p.2) (g p.2)) :
    ((parts.map fun (i, x) => (i, f x)).toList.map (·.1)) = ((parts.map fun (i, x) => (i, g x)).toList.map (·.1)) ∧
    ∀ (i : Nat) (x y : Nat × Value), (parts.map fun (i, x) => (i, f x)).toList[i]? = some x → (parts.map fun (i, x) => (i, g x)).toList[i]? = some y → VR σ x.2 y.2 := by
  refine ⟨by simp [Function.comp_def], fun i x y hx hy => ?_⟩
  simp only [Array.toList_map, List.getElem?_map] at hx hy
  cases hp : parts.toList[i]? with
  | none => rw [hp] at hx; cases hx
  | some u => rw [hp] at hx hy; cases hx; cases hy; exact h u (Array.mem_toList_iff.1 (List.mem_of_getElem? hp))

theorem plainTuple (z : Value) : (∃ c, z = .tuple c) ∨ ∀ c, z ≠ .tuple c := by
  cases z <;> first | exact .inl ⟨_, rfl⟩ | exact .inr fun c => by simp

theorem zero_cells {z : Value} (h : plain z = true) : VRA σ z.cells z.cells := by
  rcases plainTuple z with ⟨c, rfl⟩ | hz
  · refine ⟨rfl, fun i x y hx hy => ?_⟩
    obtain rfl : x = y := Option.some.inj (hx.symm.trans hy)
    simp only [Value.cells] at hx
    match i, hx with
    | 0, hx => simp at hx; subst hx; exact VR.plain σ h
    | i + 1, hx => simp at hx
  · exact plain_cells h hz

theorem buildM_sound {t : TypeId} {α : Type} (parts : Array (Nat × α)) (f g : α → Value) (hfg : ∀ p ∈ parts, VR σ (f p.2) (g p.2)) {v : Value} (h : (buildM P t (parts.map fun (i, x) => (i, f x))).get = some v) (w : World) :
    ∃ v', (Instr.build t (parts.map fun (i, x) => (i, g x))).run P w = .ok v' w ∧ VR σ v v' := by
  obtain ⟨p1, p2⟩ := parts_map parts f g hfg
  unfold buildM at h
  split at h
  · rename_i z fs hz hu
    obtain ⟨hz1, hz2⟩ := run_zero hz w
    split at h
    · rename_i ps hps hk
      split at h
      · rename_i cs hf
        simp at h; subst h
        obtain ⟨cs', h1, h2⟩ := fill_VRA _ _ _ z.cells z.cells cs (zero_cells (σ := σ) hz2) p1 p2 hk hf
        refine ⟨.agg cs', ?_, VR.agg h2.1 h2.2⟩
        have hm := run_places hps w
        simp only [Instr.build, Sem.run_bind, hz1, Result.andThen_ok, run_underlying hu, Array.mapM_eq_mapM_toList, Sem.run_map, hm]
        have e : (fun (x : Nat) => (List.toArray ps)[x]?) = fun (i : Nat) => ps[i]? := by funext i; simp
        rw [e, h1]
        rfl
      · cases h
    · cases h
  · rename_i z len e hz hu
    obtain ⟨hz1, hz2⟩ := run_zero hz w
    split at h
    · rename_i i hi hk
      split at h
      · rename_i cs hf
        simp at h; subst h
        obtain ⟨cs', h1, h2⟩ := fill_VRA _ _ _ z.cells z.cells cs (zero_cells (σ := σ) hz2) p1 p2 hk hf
        refine ⟨.agg cs', ?_, VR.agg h2.1 h2.2⟩
        simp only [Instr.build, Sem.run_bind, hz1, Result.andThen_ok, run_underlying hu, run_sizeOf hi]
        rw [h1]
        rfl
      · cases h
    · cases h
  · cases h

theorem buildSliceM_sound (hn : n ≤ w.heap.size) {t : TypeId} {len : Nat} {α : Type} (parts : Array (Nat × α)) (f g : α → Value) (hfg : ∀ p ∈ parts, VR σ (f p.2) (g p.2)) {r : (Nat → Value) × Blk} (h : (buildSliceM P t len (parts.map fun (i, x) => (i, f x))).get = some r) :
    ∃ v' o, (Instr.buildSlice t len (parts.map fun (i, x) => (i, g x))).run P w = .ok v' (w.alloc o) ∧ GoodNew n σ r v' w o := by
  obtain ⟨p1, p2⟩ := parts_map parts f g hfg
  unfold buildSliceM at h
  split at h
  · rename_i e hu
    split at h
    · rename_i i z hi hz hk
      obtain ⟨hz1, hz2⟩ := run_zero hz w
      split at h
      · rename_i cs hle hf
        simp at h; subst h
        have hzz := zero_cells (σ := σ) hz2
        have hv : VRA σ ((Array.range (len * i.size)).map fun j => z.cells[j % z.cells.size]!) ((Array.range (len * i.size)).map fun j => z.cells[j % z.cells.size]!) := by
          refine ⟨rfl, fun j x y hx hy => ?_⟩
          obtain rfl : x = y := Option.some.inj (hx.symm.trans hy)
          rw [Array.getElem?_map] at hx
          cases hj : (Array.range (len * i.size))[j]? with
          | none => rw [hj] at hx; cases hx
          | some q =>
            rw [hj] at hx; cases hx
            show VR σ (z.cells[q % z.cells.size]!) (z.cells[q % z.cells.size]!)
            rw [getElem!_def]
            cases hq : z.cells[q % z.cells.size]? with
            | none => exact VR.bool _
            | some u => exact hzz.2 _ u u hq hq
        obtain ⟨cs', h1, h2⟩ := fill_VRA _ _ _ _ _ cs hv p1 p2 hk hf
        refine ⟨.slice (some ⟨w.heap.size, 0, none⟩) len len, .cells cs' e, ?_, ⟨w.heap.size, 0, 0, 0⟩, rfl, fun σ' a hs ha => ⟨VR.slice (off := 0) ha, BR.newCells hn e (by simp [h2.1]) fun j x y hx hy => (h2.2 j x y (by simpa using hx) hy).mono hs⟩⟩
        · have hle' : ¬ len * i.size > 2 ^ 24 := by have := ble_true hle; omega
          by_cases h0 : len * i.size = 0
          · have e0 : ((Array.range (len * i.size)).map fun j => z.cells[j % z.cells.size]!) = ((Array.range (len * i.size)).map fun j => (#[] : Array Value)[j % (#[] : Array Value).size]!) := by rw [h0]; simp
            rw [e0] at h1
            simp only [Instr.buildSlice, Sem.run_bind, run_underlying hu, Result.andThen_ok, run_sizeOf hi]
            rw [if_neg hle', if_pos h0]
            simp only [Sem.run_bind, Sem.run_pure, Result.andThen_ok]
            rw [h1]
            simp [newRow]
          · simp only [Instr.buildSlice, Sem.run_bind, run_underlying hu, Result.andThen_ok, run_sizeOf hi]
            rw [if_neg hle', if_neg h0]
            simp only [Sem.run_bind, Sem.run_pure, Result.andThen_ok, hz1]
            rw [h1]
            simp [newRow]
      · cases h
    · cases h
  · cases h

theorem fieldAddrM_sound {s : TypeId} {x x' v : Value} {f : Nat} (hx : VR σ x x') (h : (fieldAddrM P s x f).get = some v) (w : World) : ∃ v', (Instr.fieldAt s x' f).run P w = .ok v' w ∧ VR σ v v' := by
  unfold fieldAddrM at h
  split at h
  · rename_i fs hu
    split at h
    · rename_i fd hfd
      split at h
      · rename_i i hi
        split at h
        · rename_i k off hb
          have hs : i.size ≠ 0 := fun e => by rw [e] at hb; cases hb
          simp at h; subst h
          obtain ⟨p, hk, rfl⟩ := hx.ptr_inv
          refine ⟨_, by simp [Instr.fieldAt, run_underlying hu, hfd, Instr.sureAddr, fieldPlace, run_sizeOf hi, hs]; rfl, ?_⟩
          rw [Addr.add_lit, Nat.add_assoc]
          exact VR.ptr hk
        · rename_i k r j hb
          have hs : i.size ≠ 0 := fun e => by rw [e] at hb; cases hb
          simp at h; subst h
          obtain ⟨p, hk, rfl⟩ := hx.ptrRow_inv
          refine ⟨_, by simp [Instr.fieldAt, run_underlying hu, hfd, Instr.sureAddr, fieldPlace, run_sizeOf hi, hs]; rfl, ?_⟩
          rw [Addr.add_lit, show p.o + (r * p.wd + j) + fd.offset = p.o + (r * p.wd + (j + fd.offset)) by omega]
          exact VR.ptrRow hk
        · cases h
      · cases h
    · cases h
  · cases h

theorem partM_sound {t : TypeId} {a a' : Array Value} {off : Nat} {v : Value} (ha : VRA σ a a') (h : (partM P t a off).get = some v) (w : World) : ∃ v', (part t a' off).run P w = .ok v' w ∧ VR σ v v' := by
  unfold partM at h
  split at h
  · rename_i hag
    simp at h
    obtain ⟨y, h1, h2⟩ := ha.get off h
    exact ⟨y, by simp [part, isAgg_one hag, h1], h2⟩
  · rename_i m hag
    simp at h; subst h
    obtain ⟨h1, h2⟩ := isAgg_agg hag w
    refine ⟨.agg (a'.extract off (off + m)), by simp [part, h1, h2], VR.agg (by simp [ha.1]) fun i x y hx hy => ?_⟩
    rw [Array.getElem?_extract] at hx hy
    rw [← ha.1] at hy
    split at hx
    · rename_i hi
      rw [if_pos hi] at hy
      exact ha.2 _ x y hx hy
    · cases hx
  · cases h
theorem fieldM_sound {s : TypeId} {x x' v : Value} {f : Nat} (hx : VR σ x x') (h : (fieldM P s x f).get = some v) (w : World) : ∃ v', (Instr.field s x' f).run P w = .ok v' w ∧ VR σ v v' := by
  unfold fieldM at h
  split at h
  · rename_i fs cs hu
    split at h
    · rename_i fd hfd
      cases hx with
      | agg hs hp =>
        obtain ⟨v', h1, h2⟩ := partM_sound (P := P) ⟨hs, hp⟩ h w
        exact ⟨v', by simp [Instr.field, run_underlying hu, hfd, asAgg, h1], h2⟩
    · cases h
  · cases h

theorem idxM_some {α : Type} {i : Int} {f : Nat → M α} {a : α} : ∀ n, (idxM i n f).get = some a → ∃ j, j < n ∧ i = (j : Int) ∧ (f j).get = some a
  | 0, h => by cases h
  | n + 1, h => by
    rcases M.get_br_some h with ⟨hb, h⟩ | ⟨_, h⟩
    · exact ⟨n, by omega, by simpa using hb, h⟩
    · obtain ⟨j, h1, h2⟩ := idxM_some n h
      exact ⟨j, by omega, h2⟩
theorem inRange_spec {i : Int} {n : Nat} (h : inRange i n = true) : 0 ≤ i ∧ i < (n : Int) := by
  unfold inRange at h
  simpa using h
theorem run_indexAt_in {t e : TypeId} {inf : TypeInfo} {a : Addr} {len cap : Nat} {k : IntKind} {i : Int} (hu : P.underlying t = some (.slice e)) (hi : P.info? e = some inf) (h : 0 ≤ i ∧ i < (len : Int)) (w : World) :
    (Instr.indexAt t (.slice (some a) len cap) (.int k i)).run P w = .ok (.pointer (some (a.add (i.toNat * inf.size)))) w := by
  simp [Instr.indexAt, run_underlying hu, asIntOf, run_sizeOf hi, h]
theorem run_indexAt_arr {t e : TypeId} {inf : TypeInfo} {a : Addr} {len : Nat} {k : IntKind} {i : Int} (hu : P.underlying t = some (.array len e)) (hi : P.info? e = some inf) (h : 0 ≤ i ∧ i < (len : Int)) (w : World) :
    (Instr.indexAt t (.pointer (some a)) (.int k i)).run P w = .ok (.pointer (some (a.add (i.toNat * inf.size)))) w := by
  simp [Instr.indexAt, run_underlying hu, asIntOf, run_sizeOf hi, h, Instr.sureAddr]

theorem VR.int_inv {k : IntKind} {i : Int} {v' : Value} (h : VR σ (.int k i) v') : v' = .int k i := h.plain1_eq rfl
theorem VR.slice_inv {k off l c : Nat} {v' : Value} (h : VR σ (.slice (some ⟨k, off, none⟩) l c) v') : ∃ p, σ k = some p ∧ v' = .slice (some ⟨p.b, p.o + off, none⟩) l c := by
  cases h with
  | slice h => exact ⟨_, h, rfl⟩
theorem VR.sliceRow_inv {k i l c : Nat} {v' : Value} (h : VR σ (.slice (some ⟨k, i, some 0⟩) l c) v') : ∃ p, σ k = some p ∧ v' = .slice (some ⟨p.b, p.o + i * p.wd, none⟩) l c := by
  cases h with
  | sliceRow h => exact ⟨_, h, rfl⟩
theorem VR.vec_inv {k l : Nat} {v' : Value} (h : VR σ (.slice (some ⟨k, 0, some 1⟩) l 0) v') : ∃ p, σ k = some p ∧ l ≤ p.cap ∧ v' = .slice (some ⟨p.b, p.o, none⟩) l p.cap := by
  cases h with
  | vec h hl => exact ⟨_, h, hl, rfl⟩

theorem indexAddrM_sound (hr : HR n w0 G σ lh w) {t : TypeId} {x x' ix ix' v : Value} (hx : VR σ x x') (hix : VR σ ix ix') (h : (indexAddrM P t x ix lh).get = some v) :
    ∃ v', (Instr.indexAt t x' ix').run P w = .ok v' w ∧ VR σ v v' := by
  unfold indexAddrM at h
  split at h
  · rename_i ik i
    obtain rfl := hix.int_inv
    split at h
    · rename_i len e k off hu
      obtain ⟨p, hk, rfl⟩ := hx.ptr_inv
      split at h
      · rename_i inf hi
        obtain ⟨j, hj, rfl, hv⟩ := idxM_some _ h
        simp at hv; subst hv
        refine ⟨_, run_indexAt_arr hu hi ⟨by omega, by omega⟩ w, ?_⟩
        rw [Addr.add_lit, Int.toNat_natCast, Nat.add_assoc]
        exact VR.ptr hk
      · cases h
    · rename_i e k off len cap hu
      obtain ⟨p, hk, rfl⟩ := hx.slice_inv
      split at h
      · rename_i inf hi
        split at h
        · obtain ⟨j, hj, rfl, hv⟩ := idxM_some _ h
          simp at hv; subst hv
          refine ⟨_, run_indexAt_in hu hi ⟨by omega, by omega⟩ w, ?_⟩
          rw [Addr.add_lit, Int.toNat_natCast, Nat.add_assoc]
          exact VR.ptr hk
        · split at h
          · rename_i hsz
            rcases M.get_br_some h with ⟨hb, hv⟩ | ⟨_, hv⟩
            · simp at hv; subst hv
              refine ⟨_, run_indexAt_in hu hi (inRange_spec hb) w, ?_⟩
              rw [Addr.add_lit, hsz, Nat.mul_one, Nat.add_assoc]
              exact VR.ptr hk
            · cases hv
          · cases h
        · cases h
      · cases h
    · rename_i e k r len cap hu
      obtain ⟨p, hk, rfl⟩ := hx.sliceRow_inv
      split at h
      · rename_i inf hi
        split at h
        · rename_i ow wr wd m g hl
          rcases M.get_br_some h with ⟨hb, h⟩ | ⟨_, hv⟩
          · rcases M.get_br_some h with ⟨hb2, hv⟩ | ⟨_, hv⟩
            · simp at hv; subst hv
              refine ⟨_, run_indexAt_in hu hi (inRange_spec hb2) w, ?_⟩
              have hwd := (hr.rows_at hk hl).1
              rw [Addr.add_lit, ← beq_true hb, ← hwd, show p.o + r * p.wd + i.toNat * p.wd = p.o + ((r + i.toNat) * p.wd + 0) by rw [Nat.add_mul]; omega]
              exact VR.ptrRow hk
            · cases hv
          · cases hv
        · cases h
      · cases h
    · rename_i e k len cap hu
      split at h
      · rename_i inf hi
        have hx0 := hx
        obtain ⟨p, hk, hl0, rfl⟩ : ∃ p, σ k = some p ∧ len ≤ p.cap ∧ x' = .slice (some ⟨p.b, p.o, none⟩) len p.cap := by
          cases hx with
          | vec h hl => exact ⟨_, h, hl, rfl⟩
        split at h
        · split at h
          · rename_i hsz
            rcases M.get_br_some h with ⟨hb, hv⟩ | ⟨_, hv⟩
            · simp at hv; subst hv
              refine ⟨_, run_indexAt_in hu hi (inRange_spec hb) w, ?_⟩
              rw [Addr.add_lit, hsz, Nat.mul_one]
              exact VR.ptr hk
            · cases hv
          · cases h
        · rename_i ow wr wd m g hl
          rcases M.get_br_some h with ⟨hb, h⟩ | ⟨_, hv⟩
          · rcases M.get_br_some h with ⟨hb2, hv⟩ | ⟨_, hv⟩
            · simp at hv; subst hv
              refine ⟨_, run_indexAt_in hu hi (inRange_spec hb2) w, ?_⟩
              have hwd := (hr.rows_at hk hl).1
              rw [Addr.add_lit, ← beq_true hb, ← hwd, show p.o + i.toNat * p.wd = p.o + (i.toNat * p.wd + 0) by omega]
              exact VR.ptrRow hk
            · cases hv
          · cases hv
        · cases h
      · cases h
    · cases h
  · cases h

theorem indexM_sound {t : TypeId} {x x' ix ix' v : Value} (hx : VR σ x x') (hix : VR σ ix ix') (h : (indexM P t x ix).get = some v) (w : World) :
    ∃ v', (Instr.index t x' ix').run P w = .ok v' w ∧ VR σ v v' := by
  unfold indexM at h
  split at h
  · rename_i k i len e cs hu
    obtain rfl := hix.int_inv
    split at h
    · rename_i inf hi
      obtain ⟨j, hj, rfl, hv⟩ := idxM_some _ h
      cases hx with
      | agg hs hp =>
        obtain ⟨v', h1, h2⟩ := partM_sound (P := P) ⟨hs, hp⟩ hv w
        refine ⟨v', ?_, h2⟩
        have hb : (0 : Int) ≤ (j : Int) ∧ (j : Int) < (len : Int) := ⟨by omega, by omega⟩
        simp only [Instr.index, asIntOf, Sem.run_bind, Sem.run_pure, Result.andThen_ok, run_underlying hu]
        rw [if_pos hb]
        simp [run_sizeOf hi, h1]
    · cases h
  · cases h

theorem boundM_sound {x x' : Value} {y r : Nat} (c : BoundsCode) (hx : VR σ x x') (h : (boundM x y).get = some r) (w : World) : (Instr.sliceBound x' y c).run P w = .ok r w := by
  unfold boundM at h
  split at h
  · rename_i k i
    obtain rfl := hx.int_inv
    rcases M.get_br_some h with ⟨hb, hv⟩ | ⟨_, hv⟩
    · simp at hv hb; subst hv
      simp [Instr.sliceBound, asIntOf, hb]
    · cases hv
  · cases h
def VRO (σ : Nat → Option Pl) : Option Value → Option Value → Prop
  | none, none => True
  | some x, some y => VR σ x y
  | _, _ => False
theorem boundsM_sound {lo lo' hi hi' mx mx' : Option Value} {len cap : Nat} {r : Nat × Nat × Nat} (b : Bool) (h1 : VRO σ lo lo') (h2 : VRO σ hi hi') (h3 : VRO σ mx mx') (h : (boundsM len cap lo hi mx).get = some r) (w : World) :
    (Instr.sliceBounds b len cap lo' hi' mx').run P w = .ok r w := by
  unfold boundsM at h
  obtain ⟨m, hm, h⟩ := M.get_bind_some h
  obtain ⟨q, hq, h⟩ := M.get_bind_some h
  obtain ⟨l, hl, h⟩ := M.get_bind_some h
  simp at h; subst h
  unfold Instr.sliceBounds
  cases mx <;> cases mx' <;> simp only [VRO] at h3 <;> try exact h3.elim
  · simp at hm; subst hm
    cases hi <;> cases hi' <;> simp only [VRO] at h2 <;> try exact h2.elim
    · simp at hq; subst hq
      cases lo <;> cases lo' <;> simp only [VRO] at h1 <;> try exact h1.elim
      · simp at hl; subst hl; simp
      · simp [boundM_sound _ h1 hl]
    · cases lo <;> cases lo' <;> simp only [VRO] at h1 <;> try exact h1.elim
      · simp at hl; subst hl; simp [boundM_sound _ h2 hq]
      · simp [boundM_sound _ h2 hq, boundM_sound _ h1 hl]
  · cases hi <;> cases hi' <;> simp only [VRO] at h2 <;> try exact h2.elim
    · cases hq
    · cases lo <;> cases lo' <;> simp only [VRO] at h1 <;> try exact h1.elim
      · simp at hl; subst hl; simp [boundM_sound _ h3 hm, boundM_sound _ h2 hq]
      · simp [boundM_sound _ h3 hm, boundM_sound _ h2 hq, boundM_sound _ h1 hl]

theorem VRO.map (f g : Operand → Value) (o : Option Operand) (h : ∀ x ∈ o, VR σ (f x) (g x)) : VRO σ (o.map f) (o.map g) := by
  cases o with
  | none => trivial
  | some x => exact h x rfl
end
end Go.Sx
