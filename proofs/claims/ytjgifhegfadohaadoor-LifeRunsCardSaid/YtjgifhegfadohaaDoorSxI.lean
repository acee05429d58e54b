/- append in the symbolic run is the model's. No condition of its own. -/
import Derived.Test.YtjgifhegfadohaaDoorSxH
import Derived.Deep.AppendSrc
namespace Go.Sx
open Go Go.RowKit
set_option linter.unusedVariables false
section
variable {P : Program} {n : Nat} {w0 : World} {G : Nat} {σ : Nat → Option Pl} {lh : List Blk} {w : World}

theorem intsOfCells_spec : ∀ (c : List Value) (l : List Int), intsOfCells c = some l → c = l.map (Value.int .i64)
  | [], l, h => by simp [intsOfCells] at h; subst h; rfl
  | x :: r, l, h => by
    have hx : ∃ a, x = .int .i64 a := by
      cases x <;> first | (rename_i k a; cases k <;> first | exact ⟨_, rfl⟩ | (simp [intsOfCells] at h)) | (simp [intsOfCells] at h)
    obtain ⟨a, rfl⟩ := hx
    simp only [intsOfCells] at h
    cases hr : intsOfCells r with
    | none => rw [hr] at h; cases h
    | some l' =>
      rw [hr] at h; cases h
      rw [intsOfCells_spec r l' hr]; rfl

/-- A slice that holds the values cs, m cells to an element. -/
def Holds (P : Program) (w : World) (m : Nat) (x' : Value) (len : Nat) (cs : List Value) : Prop :=
  (∀ u ∈ cs, u.oneCell' = true) ∧ cs.length = len * m ∧ ((∃ c, x' = .slice none 0 c ∧ len = 0) ∨ ∃ a c, x' = .slice (some a) len c ∧ ∀ j v, cs[j]? = some v → w.cell? (a.add j) = some v)

theorem holds_of_cells {b o len c m : Nat} {cs : List Value} (h1 : ∀ u ∈ cs, u.oneCell' = true) (hl : cs.length = len * m) (h : ∀ j v, cs[j]? = some v → w.cell? ⟨b, o + j, none⟩ = some v) : Holds P w m (.slice (some ⟨b, o, none⟩) len c) len cs :=
  ⟨h1, hl, .inr ⟨_, _, rfl, fun j v hv => by rw [Addr.add_lit]; exact h j v hv⟩⟩
theorem one_ints (xs : List Int) : ∀ u ∈ xs.map (Value.int .i64), u.oneCell' = true := fun u hu => by
  obtain ⟨_, _, rfl⟩ := List.mem_map.1 hu
  rfl
theorem Holds.src {m len : Nat} {x' : Value} {cs : List Value} (h : Holds P w m x' len cs) {tx e' : TypeId} (hk : P.underlying tx = some (.slice e')) : Src P m tx x' len cs w := by
  obtain ⟨h1, hl, ⟨c, rfl, rfl⟩ | ⟨a, c, rfl, hc⟩⟩ := h
  · obtain rfl : cs = [] := List.eq_nil_of_length_eq_zero (by simpa using hl)
    exact Src.ofNil w hk c
  · exact Src.ofSlice w hk a len c cs hl hc h1
theorem Holds.old {m len : Nat} {x' : Value} {cs : List Value} (h : Holds P w m x' len cs) : (Builtin.firstCells m len x').run P w.drew = .ok cs.toArray w.drew := by
  obtain ⟨h1, hl, ⟨c, rfl, rfl⟩ | ⟨a, c, rfl, hc⟩⟩ := h
  · obtain rfl : cs = [] := List.eq_nil_of_length_eq_zero (by simpa using hl)
    exact run_firstCells_none w.drew m 0 0 c
  · exact run_firstCells_some w.drew m len a len c cs hl (by simpa using hc)

theorem srcInts_sound (hr : HR n w0 G σ lh w) {x x' : Value} {xs : List Int} (hx : VR σ x x') (h : (srcInts lh x).get = some xs) : Holds P w 1 x' xs.length (xs.map (Value.int .i64)) := by
  unfold srcInts at h
  split at h
  · simp at h; subst h
    obtain rfl := hx.plain1_eq rfl
    exact ⟨by simp, rfl, .inl ⟨0, rfl, rfl⟩⟩
  · simp at h; subst h
    cases hx with
    | empty a => exact ⟨by simp, rfl, .inr ⟨a, 0, rfl, fun j v hv => by simp at hv⟩⟩
  · rename_i k off l c
    obtain ⟨p, hk, rfl⟩ := hx.slice_inv
    split at h
    · rename_i ow wr ys hl
      rcases M.get_br_some h with ⟨hb, h⟩ | ⟨_, h⟩
      · simp at h; subst h
        have hle := ble_true hb
        have hlen : ((ys.drop off).take l).length = l := by simp; omega
        rw [hlen]
        refine holds_of_cells (one_ints _) (by simp; omega) fun j v hv => ?_
        simp only [List.getElem?_map, Option.map_eq_some_iff] at hv
        obtain ⟨u, hu, rfl⟩ := hv
        rw [List.getElem?_take] at hu
        split at hu
        · rw [List.getElem?_drop] at hu
          rw [Nat.add_assoc]
          exact (hr.ints_at hk hl).2 _ _ hu
        · cases hu
      · cases h
    · rename_i ow wr ys hl
      rcases M.get_br_some h with ⟨hb, h⟩ | ⟨_, h⟩
      · simp at h
        have hle := ble_true hb
        have hs := intsOfCells_spec _ _ h
        have hlen : xs.length = l := by
          have := congrArg List.length hs
          simp at this; omega
        rw [hlen]
        refine holds_of_cells (one_ints _) (by simp; omega) fun j v hv => ?_
        rw [← hs, List.getElem?_take] at hv
        split at hv
        · rw [List.getElem?_drop] at hv
          obtain ⟨v', h1, h2⟩ := hr.cells_at hk hl hv
          rw [Nat.add_assoc, h1]
          have hpl : plain1 v = true := by
            have : v ∈ xs.map (Value.int .i64) := by
              rw [← hs]
              refine List.mem_of_getElem? (i := j) ?_
              rw [List.getElem?_take, if_pos (by assumption), List.getElem?_drop]; exact hv
            obtain ⟨u, _, rfl⟩ := List.mem_map.1 this
            rfl
          rw [h2.plain1_eq hpl]
        · cases hv
      · cases h
    · cases h
  · rename_i k l
    obtain ⟨p, hk, hl0, rfl⟩ : ∃ p, σ k = some p ∧ l ≤ p.cap ∧ x' = .slice (some ⟨p.b, p.o, none⟩) l p.cap := by
      cases hx with
      | vec h hl => exact ⟨_, h, hl, rfl⟩
    split at h
    · rename_i ow wr ys hl
      rcases M.get_br_some h with ⟨hb, h⟩ | ⟨_, h⟩
      · simp at h; subst h
        have hle := ble_true hb
        have hlen : (ys.take l).length = l := by simp; omega
        rw [hlen]
        refine holds_of_cells (one_ints _) (by simp; omega) fun j v hv => ?_
        simp only [List.getElem?_map, Option.map_eq_some_iff] at hv
        obtain ⟨u, hu, rfl⟩ := hv
        rw [List.getElem?_take] at hu
        split at hu
        · exact (hr.ints_at hk hl).2 _ _ hu
        · cases hu
      · cases h
    · cases h
  · cases h

theorem zero_one {e : TypeId} {i : TypeInfo} {z : Value} (hi : P.info? e = some i) (hz : zeroOf P e = some z) : i.zero = some z := by
  unfold zeroOf at hz
  rw [hi] at hz
  simp only [Option.bind_some] at hz
  cases hq : i.zero with
  | none => rw [hq] at hz; cases hz
  | some u =>
    rw [hq] at hz
    cases hp : plain u <;> simp [hp] at hz
    rw [hz]

/-- What grows anew: ints. -/
theorem grow_ints (hr : HR n w0 G σ lh w) {t u e e2 ty : TypeId} {i : TypeInfo} {base : Option Addr} {sLen sCap : Nat} {x' : Value} {ys xs : List Int} (ht : P.underlying t = some (.slice e)) (hu : P.underlying u = some (.slice e2)) (hi : P.info? e = some i) (hz : zeroOf P e = some (.int .i64 0))
    (hsz : i.size = 1) (hby : i.bytes = 8) (ho : Holds P w 1 (.slice base sLen sCap) sLen (ys.map (Value.int .i64))) (hx : Holds P w 1 x' xs.length (xs.map (Value.int .i64))) (hneed : sCap < sLen + xs.length) (hsm : sLen + xs.length ≤ 1073741824) :
    ∃ v' w', (Builtin.append_ #[t, u] ty #[.slice base sLen sCap, x']).run P w = .ok v' w' ∧ Good n w0 G σ lh.length (vecOf lh.length (sLen + xs.length), lh ++ [.ints true true (ys ++ xs)]) v' w' := by
  have hfit := growslice_fits hneed (bytes := i.bytes) (by rw [hby]; omega)
  have hyl : ys.length = sLen := by have := ho.2.1; simpa using this
  have run := run_append_grow_src (P := P) w t u ty e i (.int .i64 0) ht hi (zero_one hi hz) base sLen sCap (ys.map (Value.int .i64)) (by rw [hsz]; exact ho.old) x' xs.length (xs.map (Value.int .i64)) (by rw [hsz]; exact hx.src hu) hneed (by omega) hfit
  refine ⟨_, _, run, ?_⟩
  have hcap := grownCap_ge w (sLen + xs.length) sCap e
  generalize grownCap w (sLen + xs.length) sCap e = cap at *
  have hsize : (((ys.map (Value.int .i64) ++ xs.map (Value.int .i64)).toArray ++ Builtin.zeroCells (Value.int .i64 0).cells (cap - (sLen + xs.length)))).size = cap := by
    simp [size_zeroCells, Value.cells]; omega
  have hb := BR.newInts (σ := upd σ lh.length ⟨w.drew.heap.size, 0, 1, cap⟩) (w := w.drew) hr.drew.size (ys ++ xs) e (c' := (ys.map (Value.int .i64) ++ xs.map (Value.int .i64)).toArray ++ Builtin.zeroCells (Value.int .i64 0).cells (cap - (sLen + xs.length))) fun j x hj => by
    rw [Array.getElem?_append_left (by simp; have := (List.getElem?_eq_some_iff.1 hj).1; simpa using this)]
    rw [← List.map_append]
    simp only [List.getElem?_toArray, List.getElem?_map, hj, Option.map_some]
  rw [hsize] at hb
  exact ⟨_, hr.drew.ext_upd _, VR.vec (p := ⟨w.drew.heap.size, 0, 1, cap⟩) (upd_same _ _ _) hcap, hr.drew.new _ _ _ rfl hb⟩

/-- An own block, seen anew under a new number. -/
theorem HR.alias (h : HR n w0 G σ lh w) {p : Pl} (hfree : ∀ i q, σ i = some q → (lh.getD i .dead).alive = true → q.b ≠ p.b) (hlt : p.b < w.heap.size) (blk : Blk) (hb : BR n (upd σ lh.length p) blk p w) :
    HR n w0 G (upd σ lh.length p) (lh ++ [blk]) w := by
  have hle := h.le_upd p
  refine ⟨h.hn, h.below, fun g hg => ?_, fun k q hk => ?_, fun k q hk => ?_, fun k k' q q' hk hk' ho ha hbb => ?_, fun k q hk => ?_⟩
  · obtain ⟨q, h1, h2⟩ := h.glob g hg
    exact ⟨q, hle g q h1, h2⟩
  · by_cases e : k = lh.length
    · subst e; simp
    · rw [upd_other _ _ e] at hk
      have := h.dom k q hk
      simp; omega
  · by_cases e : k = lh.length
    · subst e
      rw [upd_same] at hk; cases hk
      exact hlt
    · rw [upd_other _ _ e] at hk
      exact h.lt k q hk
  · by_cases e : k = lh.length
    · by_cases e' : k' = lh.length
      · rw [e, e']
      · rw [e, upd_same] at hk; cases hk
        rw [upd_other _ _ e'] at hk'
        rw [getD_append_one _ _ _ (h.dom k' q' hk')] at ha
        exact absurd hbb.symm (hfree k' q' hk' ha)
    · rw [upd_other _ _ e] at hk
      by_cases e' : k' = lh.length
      · rw [e', upd_same] at hk'; cases hk'
        rw [getD_append_one _ _ _ (h.dom k q hk)] at ho
        refine absurd hbb (hfree k q hk ?_)
        cases hx : lh.getD k .dead with
        | dead => rw [hx] at ho; cases ho
        | _ => rfl
      · rw [upd_other _ _ e'] at hk'
        rw [getD_append_one _ _ _ (h.dom k q hk)] at ho
        rw [getD_append_one _ _ _ (h.dom k' q' hk')] at ha
        exact h.inj k k' q q' hk hk' ho ha hbb
  · by_cases e : k = lh.length
    · subst e
      rw [upd_same] at hk; cases hk
      rw [getD_append_new]; exact hb
    · rw [upd_other _ _ e] at hk
      rw [getD_append_one _ _ _ (h.dom k q hk)]
      exact (h.blk k q hk).mono hle (fun _ _ hv => hv) fun _ => rfl

/-- Where a row of one's own grows in place: what is behind the stores. -/
theorem HR.regrow (hr : HR n w0 G σ lh w) {k : Nat} {p : Pl} (hk : σ k = some p) (ho : (lh.getD k .dead).owned = true) (o : Nat) (vs : List Value) (blk : Blk) (hb : BR n (upd σ lh.length p) blk p (w.setCells p.b o vs)) :
    HR n w0 G (upd σ lh.length p) (lh.set k .dead ++ [blk]) (w.setCells p.b o vs) := by
  have h1 := hr.stores hk ho o vs .dead (fun e => by cases e) ⟨fun e => (by cases e), trivial⟩
  have hl : (lh.set k .dead).length = lh.length := by simp
  have h2 := h1.alias (p := p) (fun i q hi ha e => ?_) (h1.lt k p hk) blk (by rw [hl]; exact hb)
  · rw [hl] at h2; exact h2
  · by_cases hik : i = k
    · subst hik
      rw [getD_set_same _ _ _ (hr.dom i p hk)] at ha; cases ha
    · rw [getD_set_other _ _ hik] at ha
      exact hik (hr.inj k i p q hk hi ho ha e.symm).symm

theorem appendInts_sound (hr : HR n w0 G σ lh w) {t u e e2 ty : TypeId} {i : TypeInfo} {s s' x' : Value} {xs : List Int} {r : Value × List Blk} (ht : P.underlying t = some (.slice e)) (hu : P.underlying u = some (.slice e2)) (hi : P.info? e = some i) (hz : zeroOf P e = some (.int .i64 0))
    (hsz : i.size = 1) (hby : i.bytes = 8) (hs : VR σ s s') (hx : Holds P w 1 x' xs.length (xs.map (Value.int .i64))) (h : (appendInts s xs lh).get = some r) :
    ∃ v' w', (Builtin.append_ #[t, u] ty #[s', x']).run P w = .ok v' w' ∧ Good n w0 G σ lh.length r v' w' := by
  have stay : ∀ (base : Option Addr) (l c : Nat), xs.length = 0 → l ≤ c → VR σ s (.slice base l c) → ∃ v' w', (Builtin.append_ #[t, u] ty #[.slice base l c, x']).run P w = .ok v' w' ∧ Good n w0 G σ lh.length (s, lh) v' w' := by
    intro base l c hl hlc hv
    refine ⟨.slice base l c, w, ?_, σ, Ext.refl _ _, hv, hr⟩
    have hsrc := hx.src hu
    rw [hl] at hsrc
    obtain rfl : xs = [] := List.eq_nil_of_length_eq_zero hl
    have h1 := hsrc.len w
    have h2 := hsrc.cells
    simp only [List.map_nil] at h2
    cases base <;> simp [Builtin.append_, run_underlying ht, run_underlying hu, sizeOf, typeInfo, hi, h1, hlc, hsz, h2, storeCells]
  unfold appendInts at h
  split at h
  · obtain rfl := hs.plain1_eq rfl
    rcases M.get_br_some h with ⟨hb, hv⟩ | ⟨hb, h⟩
    · simp only [M.get_ret, Option.some.injEq] at hv; subst hv
      exact stay _ _ _ (beq_true hb) (Nat.le_refl _) hs
    · rcases M.get_br_some h with ⟨hc, hv⟩ | ⟨_, hv⟩
      · simp only [M.get_ret, Option.some.injEq] at hv; subst hv
        have hpos : 0 < xs.length := Nat.pos_of_ne_zero fun e => by rw [e] at hb; cases hb
        have := grow_ints (ty := ty) hr (sCap := 0) (base := none) (sLen := 0) (ys := []) ht hu hi hz hsz hby ⟨by simp, rfl, .inl ⟨0, rfl, rfl⟩⟩ hx (by omega) (by have := ble_true hc; omega)
        simpa using this
      · cases hv
  · obtain ⟨a, rfl⟩ : ∃ a, s' = .slice (some a) 0 0 := by
      cases hs with
      | empty a => exact ⟨a, rfl⟩
    rcases M.get_br_some h with ⟨hb, hv⟩ | ⟨hb, h⟩
    · simp only [M.get_ret, Option.some.injEq] at hv; subst hv
      exact stay _ _ _ (beq_true hb) (Nat.le_refl _) hs
    · rcases M.get_br_some h with ⟨hc, hv⟩ | ⟨_, hv⟩
      · simp only [M.get_ret, Option.some.injEq] at hv; subst hv
        have hpos : 0 < xs.length := Nat.pos_of_ne_zero fun e => by rw [e] at hb; cases hb
        have := grow_ints (ty := ty) hr (sCap := 0) (base := some a) (sLen := 0) (ys := []) ht hu hi hz hsz hby ⟨by simp, rfl, .inr ⟨a, 0, rfl, fun j v hv => by simp at hv⟩⟩ hx (by omega) (by have := ble_true hc; omega)
        simpa using this
      · cases hv
  · rename_i k off l c
    rcases M.get_br_some h with ⟨hlc, h⟩ | ⟨_, h⟩
    · obtain rfl := beq_true hlc
      obtain ⟨p, hk, rfl⟩ := hs.slice_inv
      rcases M.get_br_some h with ⟨hb, hv⟩ | ⟨hb, h⟩
      · simp only [M.get_ret, Option.some.injEq] at hv; subst hv
        exact stay _ _ _ (beq_true hb) (Nat.le_refl _) hs
      · obtain ⟨ys, hy, h⟩ := M.get_bind_some h
        rcases M.get_br_some h with ⟨hc, hv⟩ | ⟨_, hv⟩
        · simp only [M.get_ret, Option.some.injEq] at hv; subst hv
          have hpos : 0 < xs.length := Nat.pos_of_ne_zero fun e => by rw [e] at hb; cases hb
          have ho := srcInts_sound (P := P) hr hs hy
          obtain ⟨h1, h2, h3⟩ := ho
          have hyl : ys.length = l := by
            rcases h3 with ⟨c, hc0, _⟩ | ⟨a, c, hc0, _⟩
            · cases hc0
            · cases hc0; rfl
          rw [hyl] at h3 h2
          exact grow_ints (ty := ty) hr ht hu hi hz hsz hby ⟨h1, h2, h3⟩ hx (by omega) (ble_true hc)
        · cases hv
    · cases h
  · rename_i k l
    obtain ⟨p, hk, hl0, rfl⟩ : ∃ p, σ k = some p ∧ l ≤ p.cap ∧ s' = .slice (some ⟨p.b, p.o, none⟩) l p.cap := by
      cases hs with
      | vec h hl => exact ⟨_, h, hl, rfl⟩
    split at h
    · rename_i ys hl
      rcases M.get_br_some h with ⟨hly, h⟩ | ⟨_, h⟩
      · obtain rfl := beq_true hly
        rcases M.get_br_some h with ⟨hb, hv⟩ | ⟨hb, h⟩
        · simp only [M.get_ret, Option.some.injEq] at hv; subst hv
          exact stay _ _ _ (beq_true hb) hl0 hs
        · rcases M.get_br_some h with ⟨hc, hv⟩ | ⟨_, hv⟩
          · simp only [M.get_ret, Option.some.injEq] at hv; subst hv
            have hpos : 0 < xs.length := Nat.pos_of_ne_zero fun e => by rw [e] at hb; cases hb
            have hown : (lh.getD k .dead).owned = true := by rw [hl]; rfl
            obtain ⟨hnb, hfz, hroom⟩ := (hr.blk k p hk).1 hown
            obtain ⟨hwd, hat⟩ := hr.ints_at hk hl
            rw [hwd] at hroom
            by_cases hroom0 : ys.length + xs.length ≤ p.cap
            · have hsome : ∀ j, j < (xs.map (Value.int .i64)).length → (w.cell? ⟨p.b, p.o + ys.length + j, none⟩).isSome = true := fun j hj => by
                rw [Nat.add_assoc]; exact hroom _ (by simp at hj; omega)
              have run := run_append_room_src (P := P) w t u ty e i ht hi p.b p.o ys.length p.cap x' xs.length (xs.map (Value.int .i64)) (by rw [hsz]; exact hx.src hu) hroom0 (by rw [hsz, Nat.mul_one]; exact hsome) (fun j _ => hfz _)
              rw [hsz, Nat.mul_one] at run
              refine ⟨_, _, run, _, hr.ext_upd p, VR.vec (upd_same _ _ _) hroom0, hr.regrow hk hown _ _ _ ⟨fun _ => ⟨hnb, fun o => (World.frozen?_setCells _ _ _ _ _).trans (hfz o), fun j hj => setCells_some _ _ _ _ hsome _ (hroom j (by rw [hwd] at hj; exact hj))⟩, hwd, fun j v hv => ?_⟩⟩
              rcases Nat.lt_or_ge j ys.length with hj | hj
              · rw [List.getElem?_append_left hj] at hv
                rw [World.cell?_setCells_out _ _ _ _ ⟨p.b, p.o + j, none⟩ (fun _ _ => by simp; omega)]
                exact hat j v hv
              · rw [List.getElem?_append_right hj] at hv
                have hj2 := (List.getElem?_eq_some_iff.1 hv).1
                have := World.cell?_setCells_in p.b (xs.map (Value.int .i64)) (p.o + ys.length) w hsome (j - ys.length) (by simpa using hj2)
                rw [show p.o + ys.length + (j - ys.length) = p.o + j by omega] at this
                rw [this]
                simp only [List.getElem_map]
                obtain ⟨_, rfl⟩ := List.getElem?_eq_some_iff.1 hv
                rfl
            · have hdead : HR n w0 G σ (lh.set k .dead) w := hr.re hk .dead (fun e => by cases e) (fun e => by cases e) ⟨fun e => (by cases e), trivial⟩
              have ho : Holds P w 1 (.slice (some ⟨p.b, p.o, none⟩) ys.length p.cap) ys.length (ys.map (Value.int .i64)) := holds_of_cells (one_ints _) (by simp) fun j v hv => by
                simp only [List.getElem?_map, Option.map_eq_some_iff] at hv
                obtain ⟨q, hq, rfl⟩ := hv
                exact hat j q hq
              have := grow_ints (ty := ty) hdead ht hu hi hz hsz hby ho hx (by omega) (ble_true hc)
              simpa using this
          · cases hv
      · cases h
    · cases h
  · cases h
end
end Go.Sx
