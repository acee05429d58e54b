/- The operations of the symbolic run are the model's: loads, stores, new blocks. No condition of its own. -/
import Derived.Test.YtjgifhegfadohaaDoorSxD
namespace Go.Sx
open Go Go.RowKit
set_option linter.unusedVariables false

theorem exists_list {α : Type} {Q : Nat → α → Prop} : ∀ n, (∀ j, j < n → ∃ v, Q j v) → ∃ cs : List α, cs.length = n ∧ ∀ j v, cs[j]? = some v → Q j v
  | 0, _ => ⟨[], rfl, fun j v h => by simp at h⟩
  | n + 1, h => by
    obtain ⟨cs, hl, hc⟩ := exists_list n fun j hj => h j (by omega)
    obtain ⟨v, hv⟩ := h n (by omega)
    refine ⟨cs ++ [v], by simp [hl], fun j u hu => ?_⟩
    rcases Nat.lt_or_ge j n with hj | hj
    · rw [List.getElem?_append_left (by omega)] at hu
      exact hc j u hu
    · rw [List.getElem?_append_right (by omega)] at hu
      have hjn : j = n := by
        have := (List.getElem?_eq_some_iff.1 hu).1
        simp at this; omega
      subst hjn
      simp [hl] at hu
      subst hu; exact hv

theorem isAgg_one {P : Program} {t : TypeId} (h : aggSize P t = some none) (w : World) : (isAgg t).run P w = .ok false w := by
  unfold aggSize at h
  split at h
  · cases h
  · cases hi : P.info? t <;> simp [hi] at h
  · cases hi : P.info? t <;> simp [hi] at h
  · rename_i d h1 h2 hu
    simp only [isAgg, Sem.run_bind, run_underlying hu, Result.andThen_ok]
    cases d <;> first | rfl | exact absurd rfl (h1 _) | exact absurd rfl (h2 _ _)
theorem isAgg_agg {P : Program} {t : TypeId} {m : Nat} (h : aggSize P t = some (some m)) (w : World) : (isAgg t).run P w = .ok true w ∧ (sizeOf t).run P w = .ok m w := by
  unfold aggSize at h
  split at h
  · cases h
  · rename_i hu
    cases hi : P.info? t with
    | none => simp [hi] at h
    | some i =>
      simp [hi] at h
      refine ⟨by simp [isAgg, run_underlying hu], by simp [sizeOf, typeInfo, hi, h]⟩
  · rename_i hu
    cases hi : P.info? t with
    | none => simp [hi] at h
    | some i =>
      simp [hi] at h
      refine ⟨by simp [isAgg, run_underlying hu], by simp [sizeOf, typeInfo, hi, h]⟩
  · cases h
theorem run_loadVar_one {P : Program} {t : TypeId} (h : aggSize P t = some none) {w : World} {a : Addr} {v : Value} (hc : w.cell? a = some v) : (loadVar t a).run P w = .ok v w := by
  simp [loadVar, isAgg_one h, hc]
theorem run_loadVar_agg {P : Program} {t : TypeId} {m : Nat} (h : aggSize P t = some (some m)) {w : World} {a : Addr} (cs : List Value) (hl : cs.length = m) (hc : ∀ j v, cs[j]? = some v → w.cell? (a.add j) = some v) :
    (loadVar t a).run P w = .ok (.agg cs.toArray) w := by
  obtain ⟨h1, h2⟩ := isAgg_agg h w
  subst hl
  simp [loadVar, h1, h2, run_loadCells_list (P := P) w a cs hc]
theorem run_sizeOf {P : Program} {t : TypeId} {i : TypeInfo} (h : P.info? t = some i) (w : World) : (sizeOf t).run P w = .ok i.size w := by simp [sizeOf, typeInfo, h]
theorem run_typeInfo {P : Program} {t : TypeId} {i : TypeInfo} (h : P.info? t = some i) (w : World) : (typeInfo t).run P w = .ok i w := by simp [typeInfo, h]
theorem run_zero {P : Program} {t : TypeId} {z : Value} (h : zeroOf P t = some z) (w : World) : (zeroValue t).run P w = .ok z w ∧ plain z = true := by
  unfold zeroOf at h
  cases hi : P.info? t with
  | none => simp [hi] at h
  | some i =>
    simp [hi] at h
    cases hz : i.zero with
    | none => simp [hz] at h
    | some u =>
      simp [hz] at h
      cases hp : plain u with
      | false => simp [hp] at h
      | true =>
        simp [hp] at h; subst h
        exact ⟨by simp [zeroValue, typeInfo, hi, hz], hp⟩

theorem blt_true {a b : Nat} (h : Nat.blt a b = true) : a < b := by simpa [Nat.blt_eq] using h
theorem ble_true {a b : Nat} (h : Nat.ble a b = true) : a ≤ b := Nat.le_of_ble_eq_true h
theorem beq_true {a b : Nat} (h : Nat.beq a b = true) : a = b := Nat.eq_of_beq_eq_true h

section
variable {P : Program} {n : Nat} {w0 : World} {G : Nat} {σ : Nat → Option Pl} {lh : List Blk} {w : World}

theorem VR.ptr_inv {k off : Nat} {a' : Value} (h : VR σ (.pointer (some ⟨k, off, none⟩)) a') : ∃ p, σ k = some p ∧ a' = .pointer (some ⟨p.b, p.o + off, none⟩) := by
  cases h with
  | ptr h => exact ⟨_, h, rfl⟩
theorem VR.ptrRow_inv {k i j : Nat} {a' : Value} (h : VR σ (.pointer (some ⟨k, i, some j⟩)) a') : ∃ p, σ k = some p ∧ a' = .pointer (some ⟨p.b, p.o + (i * p.wd + j), none⟩) := by
  cases h with
  | ptrRow h => exact ⟨_, h, rfl⟩

theorem HR.cells_at (h : HR n w0 G σ lh w) {k : Nat} {p : Pl} (hk : σ k = some p) {ow wr : Bool} {c : List Value} (hl : lh.getD k .dead = .cells ow wr c) {i : Nat} {v : Value} (hv : c[i]? = some v) :
    ∃ v', w.cell? ⟨p.b, p.o + i, none⟩ = some v' ∧ VR σ v v' := by
  have := (h.blk k p hk).2
  rw [hl] at this
  exact this i v hv
theorem HR.ints_at (h : HR n w0 G σ lh w) {k : Nat} {p : Pl} (hk : σ k = some p) {ow wr : Bool} {c : List Int} (hl : lh.getD k .dead = .ints ow wr c) : p.wd = 1 ∧ ∀ i v, c[i]? = some v → w.cell? ⟨p.b, p.o + i, none⟩ = some (.int .i64 v) := by
  have := (h.blk k p hk).2
  rw [hl] at this
  exact this
theorem HR.rows_at (h : HR n w0 G σ lh w) {k : Nat} {p : Pl} (hk : σ k = some p) {ow wr : Bool} {wd m : Nat} {g : Nat → Nat → Value} (hl : lh.getD k .dead = .rows ow wr wd m g) :
    p.wd = wd ∧ ∀ i j, i < m → j < wd → ∃ v', w.cell? ⟨p.b, p.o + (i * wd + j), none⟩ = some v' ∧ VR σ (g i j) v' := by
  have := (h.blk k p hk).2
  rw [hl] at this
  exact this

theorem loadM_sound (hr : HR n w0 G σ lh w) {t : TypeId} {a a' v : Value} (ha : VR σ a a') (h : (loadM P t a lh).get = some v) :
    ∃ v', (Instr.loadAt t a').run P w = .ok v' w ∧ VR σ v v' := by
  unfold loadM at h
  split at h
  · rename_i k off hag
    obtain ⟨p, hk, rfl⟩ := ha.ptr_inv
    split at h
    · rename_i ow wr c hl
      simp at h
      obtain ⟨v', h1, h2⟩ := hr.cells_at hk hl h
      exact ⟨v', by simp [Instr.loadAt, Instr.sureAddr, run_loadVar_one hag h1], h2⟩
    · rename_i ow wr l hl
      rcases M.get_br_some h with ⟨hb, hv⟩ | ⟨_, hv⟩
      · simp at hv; subst hv
        have hlt := blt_true hb
        have h1 := (hr.ints_at hk hl).2 off (l.getD off 0) (by simp [hlt])
        exact ⟨.int .i64 (l.getD off 0), by simp only [Instr.loadAt, Instr.sureAddr, Sem.run_bind, Sem.run_pure, Result.andThen_ok, run_loadVar_one hag h1], by simpa using VR.int _ _⟩
      · cases hv
    · cases h
  · rename_i k i j hag
    obtain ⟨p, hk, rfl⟩ := ha.ptrRow_inv
    split at h
    · rename_i ow wr wd m g hl
      rcases M.get_br_some h with ⟨hb, h⟩ | ⟨_, hv⟩
      · rcases M.get_br_some h with ⟨hb2, hv⟩ | ⟨_, hv⟩
        · simp at hv; subst hv
          obtain ⟨hw, hc⟩ := hr.rows_at hk hl
          obtain ⟨v', h1, h2⟩ := hc i j (blt_true hb) (blt_true hb2)
          rw [← hw] at h1
          exact ⟨v', by simp [Instr.loadAt, Instr.sureAddr, run_loadVar_one hag h1], h2⟩
        · cases hv
      · cases hv
    · cases h
  · rename_i m k off hag
    obtain ⟨p, hk, rfl⟩ := ha.ptr_inv
    split at h
    · rename_i ow wr c hl
      rcases M.get_br_some h with ⟨hb, hv⟩ | ⟨_, hv⟩
      · simp at hv; subst hv
        have hle := ble_true hb
        obtain ⟨cs, hcl, hcs⟩ := exists_list (Q := fun j v' => w.cell? ⟨p.b, p.o + off + j, none⟩ = some v' ∧ ∀ x, c[off + j]? = some x → VR σ x v') m (fun j hj => by
          obtain ⟨v', h1, h2⟩ := hr.cells_at hk hl (List.getElem?_eq_getElem (show off + j < c.length by omega))
          exact ⟨v', by rw [Nat.add_assoc]; exact h1, fun x hx => by rw [List.getElem?_eq_getElem (show off + j < c.length by omega)] at hx; cases hx; exact h2⟩)
        refine ⟨.agg cs.toArray, ?_, ?_⟩
        · simp only [Instr.loadAt, Instr.sureAddr, Sem.run_bind, Sem.run_pure, Result.andThen_ok]
          exact run_loadVar_agg hag cs hcl fun j v hv => by rw [Addr.add_lit]; exact (hcs j v hv).1
        · refine VR.agg (by simp [hcl]; omega) fun i x y hx hy => ?_
          simp only [List.getElem?_toArray] at hx hy
          rw [List.getElem?_take] at hx
          split at hx
          · rw [List.getElem?_drop] at hx
            exact (hcs i y hy).2 x hx
          · cases hx
      · cases hv
    · cases h
  · rename_i m k i j hag
    obtain ⟨p, hk, rfl⟩ := ha.ptrRow_inv
    split at h
    · rename_i ow wr wd mm g hl
      rcases M.get_br_some h with ⟨hb, h⟩ | ⟨_, hv⟩
      · rcases M.get_br_some h with ⟨hb2, hv⟩ | ⟨_, hv⟩
        · simp at hv; subst hv
          have hi := blt_true hb
          have hle := ble_true hb2
          obtain ⟨hw, hc⟩ := hr.rows_at hk hl
          obtain ⟨cs, hcl, hcs⟩ := exists_list (Q := fun q v' => w.cell? ⟨p.b, p.o + (i * p.wd + j) + q, none⟩ = some v' ∧ VR σ (g i (j + q)) v') m (fun q hq => by
            obtain ⟨v', h1, h2⟩ := hc i (j + q) hi (by omega)
            exact ⟨v', by rw [hw, show p.o + (i * wd + j) + q = p.o + (i * wd + (j + q)) by omega]; exact h1, h2⟩)
          refine ⟨.agg cs.toArray, ?_, ?_⟩
          · simp only [Instr.loadAt, Instr.sureAddr, Sem.run_bind, Sem.run_pure, Result.andThen_ok]
            exact run_loadVar_agg hag cs hcl fun q v hv => by rw [Addr.add_lit]; exact (hcs q v hv).1
          · refine VR.agg (by simp [hcl]) fun q x y hx hy => ?_
            simp only [List.getElem?_toArray, List.getElem?_map] at hx hy
            have hq : q < m := by have := (List.getElem?_eq_some_iff.1 hy).1; omega
            simp [List.getElem?_range hq] at hx
            subst hx
            exact (hcs q y hy).2
        · cases hv
      · cases hv
    · cases h
  · cases h

theorem isCell_of_VR {v v' : Value} (h : VR σ v v') (hc : isCell v = true) : v'.oneCell' = true := by
  cases h <;> first | rfl | (simp [isCell, undef] at hc)
theorem cellsOf_VR {x x' : Value} {xs : List Value} (h : VR σ x x') (hc : cellsOf x = some xs) :
    ∃ xs' : List Value, x'.cells = xs'.toArray ∧ xs'.length = xs.length ∧ (∀ (i : Nat) (u u' : Value), xs[i]? = some u → xs'[i]? = some u' → VR σ u u') ∧ ∀ v ∈ xs', v.oneCell' = true := by
  have one : isCell x = true → xs = [x] → ∃ xs' : List Value, x'.cells = xs'.toArray ∧ xs'.length = xs.length ∧ (∀ (i : Nat) (u u' : Value), xs[i]? = some u → xs'[i]? = some u' → VR σ u u') ∧ ∀ v ∈ xs', v.oneCell' = true := by
    intro h1 h2
    have h3 := isCell_of_VR h h1
    refine ⟨[x'], ?_, by simp [h2], fun i u u' hu hu' => ?_, fun v hv => by simp at hv; subst hv; exact h3⟩
    · cases x' <;> first | rfl | (simp [Value.oneCell'] at h3)
    · subst h2
      match i with
      | 0 => simp at hu hu'; subst hu hu'; exact h
      | i + 1 => simp at hu
  unfold cellsOf at hc
  split at hc
  · rename_i c
    cases ha : c.all isCell with
    | false => simp [ha] at hc
    | true =>
      simp [ha] at hc
      subst hc
      cases h with
      | agg hs hp =>
        rename_i a'
        refine ⟨a'.toList, by simp [Value.cells], by simp [hs], fun i u u' hu hu' => hp i u u' (by simpa using hu) (by simpa using hu'), fun v hv => ?_⟩
        obtain ⟨i, hi, rfl⟩ := List.mem_iff_getElem.1 hv
        have hi' : i < c.size := by simp at hi; omega
        rw [Array.all_eq_true] at ha
        exact isCell_of_VR (hp i c[i] _ (Array.getElem?_eq_getElem hi') (by simp)) (ha i hi')
  · cases hc
  · cases hc
  · rename_i h1 h2 h3
    cases hc
    refine one ?_ rfl
    cases x <;> first | rfl | exact absurd rfl (h1 _) | exact absurd rfl (h2 _) | exact absurd rfl (h3 _)

theorem setCells_some (b : Nat) (vs : List Value) (o : Nat) (w : World) (hc : ∀ j, j < vs.length → (w.cell? ⟨b, o + j, none⟩).isSome = true) (i : Nat) (h : (w.cell? ⟨b, i, none⟩).isSome = true) :
    ((w.setCells b o vs).cell? ⟨b, i, none⟩).isSome = true := by
  by_cases hi : o ≤ i ∧ i < o + vs.length
  · have := World.cell?_setCells_in b vs o w hc (i - o) (by omega)
    rw [show o + (i - o) = i by omega] at this
    rw [this]; rfl
  · rw [World.cell?_setCells_out b vs o w ⟨b, i, none⟩ (fun _ _ => by simp; omega)]; exact h

theorem storeM_sound (hr : HR n w0 G σ lh w) {t : TypeId} {a a' x x' : Value} {lh' : List Blk} (ha : VR σ a a') (hx : VR σ x x') (h : (storeM P t a x lh).get = some lh') :
    ∃ w', (Instr.storeAt t a' x').run P w = .ok () w' ∧ HR n w0 G σ lh' w' := by
  unfold storeM at h
  split at h
  · rename_i i xs k off hi hxs
    obtain ⟨p, hk, rfl⟩ := ha.ptr_inv
    obtain ⟨xs', hcells, hlen, hvr, hone⟩ := cellsOf_VR hx hxs
    have fin : ∀ blk, (lh.getD k .dead).owned = true → xs.length = i.size → (∀ j, j < xs'.length → (w.cell? ⟨p.b, p.o + off + j, none⟩).isSome = true) →
        (blk.owned = true → (lh.getD k .dead).owned = true) → BR n σ blk p (w.setCells p.b (p.o + off) xs') → ∃ w', (Instr.storeAt t (.pointer (some ⟨p.b, p.o + off, none⟩)) x').run P w = .ok () w' ∧ HR n w0 G σ (lh.set k blk) w' := by
      intro blk ho hsz hsome hoo hb
      obtain ⟨_, hfz, _⟩ := (hr.blk k p hk).1 ho
      refine ⟨w.setCells p.b (p.o + off) xs', ?_, hr.stores hk ho _ _ _ hoo hb⟩
      have hst := run_storeCells_cells (P := P) p.b (p.o + off) xs' 0 w (by simpa using hsome) (fun j _ => hfz _) hone
      have hxl : x'.cells.size = i.size := by rw [hcells]; simp; omega
      simp only [Instr.storeAt, Instr.sureAddr, storeVar, Sem.run_bind, Sem.run_pure, Result.andThen_ok, run_sizeOf hi, hxl, ne_eq, not_true_eq_false, if_false]
      rw [hcells]
      simpa using hst
    split at h
    · rename_i c hl
      rcases M.get_br_some h with ⟨hb, h⟩ | ⟨_, hv⟩
      · rcases M.get_br_some h with ⟨hb2, hv⟩ | ⟨_, hv⟩
        · simp at hv; subst hv
          have hle := ble_true hb2
          have hown : (lh.getD k .dead).owned = true := by rw [hl]; rfl
          obtain ⟨hnb, hfz, hroom⟩ := (hr.blk k p hk).1 hown
          have hsome : ∀ j, j < xs'.length → (w.cell? ⟨p.b, p.o + off + j, none⟩).isSome = true := by
            intro j hj
            obtain ⟨v', h1, _⟩ := hr.cells_at hk hl (List.getElem?_eq_getElem (show off + j < c.length by omega))
            rw [Nat.add_assoc, h1]; rfl
          refine fin _ hown (beq_true hb) hsome (fun _ => hown) ⟨fun _ => ⟨hnb, fun o => (World.frozen?_setCells _ _ _ _ _).trans (hfz o), fun j hj => setCells_some _ _ _ _ hsome _ (hroom j hj)⟩, fun j v hv => ?_⟩
          by_cases hin : off ≤ j ∧ j < off + xs.length
          · have h1 := World.cell?_setCells_in p.b xs' (p.o + off) w hsome (j - off) (by omega)
            rw [show p.o + off + (j - off) = p.o + j by omega] at h1
            refine ⟨_, h1, hvr (j - off) v _ ?_ (List.getElem?_eq_getElem _)⟩
            rw [List.getElem?_append_right (by simp; omega), List.getElem?_append_left (by simp; omega)] at hv
            rw [← hv]; congr 1; simp; omega
          · rw [World.cell?_setCells_out p.b xs' (p.o + off) w ⟨p.b, p.o + j, none⟩ (fun _ _ => by simp; omega)]
            refine hr.cells_at hk hl ?_
            rw [← hv]
            rcases Nat.lt_or_ge j off with hj | hj
            · rw [List.getElem?_append_left (by simp; omega), List.getElem?_take_of_lt hj]
            · rw [List.getElem?_append_right (by simp; omega), List.getElem?_append_right (by simp; omega), List.getElem?_drop]
              congr 1; simp; omega
        · cases hv
      · cases hv
    · rename_i l hl
      split at h
      · rename_i v
        rcases M.get_br_some h with ⟨hb, h⟩ | ⟨_, hv⟩
        · rcases M.get_br_some h with ⟨hb2, hv⟩ | ⟨_, hv⟩
          · simp at hv; subst hv
            have hlt := blt_true hb2
            have hown : (lh.getD k .dead).owned = true := by rw [hl]; rfl
            obtain ⟨hnb, hfz, hroom⟩ := (hr.blk k p hk).1 hown
            obtain ⟨hwd, hat⟩ := hr.ints_at hk hl
            have hl1 : xs'.length = 1 := by simpa using hlen
            have hsome : ∀ j, j < xs'.length → (w.cell? ⟨p.b, p.o + off + j, none⟩).isSome = true := by
              intro j hj
              obtain rfl : j = 0 := by omega
              rw [Nat.add_zero, hat off _ (List.getElem?_eq_getElem hlt)]; rfl
            refine fin _ hown (by simpa using beq_true hb) hsome (fun _ => hown) ⟨fun _ => ⟨hnb, fun o => (World.frozen?_setCells _ _ _ _ _).trans (hfz o), fun j hj => setCells_some _ _ _ _ hsome _ (hroom j hj)⟩, hwd, fun j u hu => ?_⟩
            by_cases hj : j = off
            · subst hj
              have h1 := World.cell?_setCells_in p.b xs' (p.o + j) w hsome 0 (by omega)
              rw [Nat.add_zero] at h1
              rw [h1]
              have := hvr 0 (.int .i64 v) _ rfl (List.getElem?_eq_getElem (by omega))
              have e := this.plain1_eq rfl
              rw [e]
              simp [hlt] at hu
              rw [hu]
            · rw [World.cell?_setCells_out p.b xs' (p.o + off) w ⟨p.b, p.o + j, none⟩ (fun _ _ => by simp; omega)]
              rw [List.getElem?_set_ne (by omega)] at hu
              exact hat j u hu
          · cases hv
        · cases hv
      · cases h
    · cases h
  · cases h

/-- More blocks lie in the world than did; of the first m numbers none that did not. -/
def Ext (m : Nat) (σ σ' : Nat → Option Pl) : Prop := Le σ σ' ∧ ∀ k, k < m → σ' k = σ k
theorem Ext.refl (m : Nat) (σ : Nat → Option Pl) : Ext m σ σ := ⟨Le.refl _, fun _ _ => rfl⟩
theorem Ext.trans {m m' : Nat} {a b c : Nat → Option Pl} (h : Ext m a b) (k : Ext m' b c) (hm : m ≤ m') : Ext m a c :=
  ⟨h.1.trans k.1, fun i hi => (k.2 i (Nat.lt_of_lt_of_le hi hm)).trans (h.2 i hi)⟩
theorem HR.ext_upd (h : HR n w0 G σ lh w) (p : Pl) : Ext lh.length σ (upd σ lh.length p) := ⟨h.le_upd p, fun k hk => upd_other _ _ (Nat.ne_of_lt hk)⟩
/-- What an operation leaves: a value, and known blocks. -/
def Good (n : Nat) (w0 : World) (G : Nat) (σ : Nat → Option Pl) (m : Nat) (r : Value × List Blk) (v' : Value) (w' : World) : Prop :=
  ∃ σ', Ext m σ σ' ∧ VR σ' r.1 v' ∧ HR n w0 G σ' r.2 w'

/-- What an operation leaves that makes a block: whatever number the block has. -/
def GoodNew (n : Nat) (σ : Nat → Option Pl) (r : (Nat → Value) × Blk) (v' : Value) (w : World) (o : Obj) : Prop :=
  ∃ p : Pl, p.b = w.heap.size ∧ ∀ σ' a, Le σ σ' → σ' a = some p → VR σ' (r.1 a) v' ∧ BR n σ' r.2 p (w.alloc o)

theorem boxM_sound (hn : n ≤ w.heap.size) {t : TypeId} {x x' : Value} {r : (Nat → Value) × Blk} (hx : VR σ x x') (h : (boxM x).get = some r) :
    ∃ v' o, (Instr.box t x').run P w = .ok v' (w.alloc o) ∧ GoodNew n σ r v' w o := by
  unfold boxM at h
  split at h
  · rename_i xs hxs
    simp at h; subst h
    obtain ⟨xs', hcells, hlen, hvr, hone⟩ := cellsOf_VR hx hxs
    refine ⟨.pointer (some ⟨w.heap.size, 0, none⟩), .cells xs'.toArray t, by simp [Instr.box, newVar, newRow, hcells], ⟨w.heap.size, 0, 0, 0⟩, rfl, fun σ' a hs ha => ⟨VR.ptr (off := 0) ha, BR.newCells hn t (by simp [hlen]) fun i u u' hu hu' => (hvr i u u' hu (by simpa using hu')).mono hs⟩⟩
  · cases h
theorem allocM_sound (hn : n ≤ w.heap.size) {t : TypeId} {r : (Nat → Value) × Blk} (h : (allocM P t).get = some r) :
    ∃ v' o, (Instr.alloc t true (.tuple #[])).run P w = .ok v' (w.alloc o) ∧ GoodNew n σ r v' w o := by
  unfold allocM at h
  split at h
  · rename_i z hz
    obtain ⟨h1, h2⟩ := run_zero hz w
    obtain ⟨v', o, h3, h4⟩ := boxM_sound (P := P) (t := t) hn (VR.plain σ h2) h
    refine ⟨v', o, ?_, h4⟩
    rw [← h3]
    simp [Instr.alloc, h1, Instr.box]
  · cases h
theorem GoodNew.good (hr : HR n w0 G σ lh w) {r : (Nat → Value) × Blk} {v' : Value} {o : Obj} (h : GoodNew n σ r v' w o) : Good n w0 G σ lh.length (r.1 lh.length, lh ++ [r.2]) v' (w.alloc o) := by
  obtain ⟨p, hp, h⟩ := h
  obtain ⟨h1, h2⟩ := h _ lh.length (hr.le_upd p) (upd_same _ _ _)
  exact ⟨_, hr.ext_upd p, h1, hr.new _ _ _ hp h2⟩
end
end Go.Sx
