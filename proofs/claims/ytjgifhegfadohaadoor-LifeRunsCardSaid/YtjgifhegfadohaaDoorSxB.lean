/- How known blocks stand in a world, and what new blocks and stores do to that. No condition of its own. -/
import Derived.Test.YtjgifhegfadohaaDoorSxA
namespace Go.Sx
open Go Go.RowKit
set_option linter.unusedVariables false

def BR (n : Nat) (σ : Nat → Option Pl) (blk : Blk) (p : Pl) (w : World) : Prop :=
  (blk.owned = true → n ≤ p.b ∧ (∀ o, w.frozen? ⟨p.b, o, none⟩ = false) ∧ ∀ j, j < p.cap * p.wd → (w.cell? ⟨p.b, p.o + j, none⟩).isSome = true) ∧
  match blk with
  | .cells _ _ c => ∀ (i : Nat) (v : Value), c[i]? = some v → ∃ v', w.cell? ⟨p.b, p.o + i, none⟩ = some v' ∧ VR σ v v'
  | .ints _ _ l => p.wd = 1 ∧ ∀ (i : Nat) (x : Int), l[i]? = some x → w.cell? ⟨p.b, p.o + i, none⟩ = some (.int .i64 x)
  | .rows _ _ wd m g => p.wd = wd ∧ ∀ i j, i < m → j < wd → ∃ v', w.cell? ⟨p.b, p.o + (i * wd + j), none⟩ = some v' ∧ VR σ (g i j) v'
  | .dead => True

theorem BR.mono {n : Nat} {σ σ' : Nat → Option Pl} {blk : Blk} {p : Pl} {w w' : World} (h : BR n σ blk p w) (hs : Le σ σ')
    (hc : ∀ o v, w.cell? ⟨p.b, o, none⟩ = some v → w'.cell? ⟨p.b, o, none⟩ = some v) (hf : ∀ o, w'.frozen? ⟨p.b, o, none⟩ = w.frozen? ⟨p.b, o, none⟩) : BR n σ' blk p w' := by
  have room : ∀ o, (w.cell? ⟨p.b, o, none⟩).isSome = true → (w'.cell? ⟨p.b, o, none⟩).isSome = true := by
    intro o ho
    obtain ⟨v, hv⟩ := Option.isSome_iff_exists.1 ho
    rw [hc o v hv]; rfl
  refine ⟨fun ho => ?_, ?_⟩
  · obtain ⟨h1, h2, h3⟩ := h.1 ho
    exact ⟨h1, fun o => (hf o).trans (h2 o), fun j hj => room _ (h3 j hj)⟩
  · have hb := h.2
    cases blk with
    | cells ow wr c => exact fun i v hv => let ⟨v', h1, h2⟩ := hb i v hv; ⟨v', hc _ _ h1, h2.mono hs⟩
    | ints ow wr l => exact ⟨hb.1, fun i x hx => hc _ _ (hb.2 i x hx)⟩
    | rows ow wr wd m g => exact ⟨hb.1, fun i j hi hj => let ⟨v', h1, h2⟩ := hb.2 i j hi hj; ⟨v', hc _ _ h1, h2.mono hs⟩⟩
    | dead => trivial

structure HR (n : Nat) (w0 : World) (G : Nat) (σ : Nat → Option Pl) (lh : List Blk) (w : World) : Prop where
  hn : n ≤ w0.heap.size
  below : Below n w0 w
  glob : ∀ g, g < G → ∃ p, σ g = some p ∧ p.b = g ∧ p.o = 0
  dom : ∀ k p, σ k = some p → k < lh.length
  lt : ∀ k p, σ k = some p → p.b < w.heap.size
  inj : ∀ k k' p p', σ k = some p → σ k' = some p' → (lh.getD k .dead).owned = true → (lh.getD k' .dead).alive = true → p.b = p'.b → k = k'
  blk : ∀ k p, σ k = some p → BR n σ (lh.getD k .dead) p w

def upd (σ : Nat → Option Pl) (k : Nat) (p : Pl) : Nat → Option Pl := fun i => if i = k then some p else σ i
theorem upd_same (σ : Nat → Option Pl) (k : Nat) (p : Pl) : upd σ k p k = some p := by simp [upd]
theorem upd_other (σ : Nat → Option Pl) {k i : Nat} (p : Pl) (h : i ≠ k) : upd σ k p i = σ i := by simp [upd, h]

section
variable {n : Nat} {w0 : World} {G : Nat} {σ : Nat → Option Pl} {lh : List Blk} {w : World}

theorem HR.size (h : HR n w0 G σ lh w) : n ≤ w.heap.size := Nat.le_trans h.hn h.below.size
theorem HR.le_upd (h : HR n w0 G σ lh w) (p : Pl) : Le σ (upd σ lh.length p) := fun k q hk => by
  rw [upd_other _ _ (Nat.ne_of_lt (h.dom k q hk))]; exact hk

theorem getD_append_one (lh : List Blk) (blk : Blk) (k : Nat) (hk : k < lh.length) : (lh ++ [blk]).getD k .dead = lh.getD k .dead := by
  simp [List.getElem?_append_left hk]
theorem getD_append_new (lh : List Blk) (blk : Blk) : (lh ++ [blk]).getD lh.length .dead = blk := by simp
theorem getD_set_same (lh : List Blk) (blk : Blk) (k : Nat) (hk : k < lh.length) : (lh.set k blk).getD k .dead = blk := by simp [hk]
theorem getD_set_other (lh : List Blk) (blk : Blk) {k i : Nat} (h : i ≠ k) : (lh.set k blk).getD i .dead = lh.getD i .dead := by
  simp [List.getElem?_set_ne (Ne.symm h)]

/-- Entries of which nothing lies in the world yet. -/
theorem HR.extend (h : HR n w0 G σ lh w) (N : List Blk) : HR n w0 G σ (lh ++ N) w := by
  have hg : ∀ k q, σ k = some q → (lh ++ N).getD k .dead = lh.getD k .dead := fun k q hk => by
    simp [List.getElem?_append_left (h.dom k q hk)]
  refine ⟨h.hn, h.below, h.glob, fun k q hk => by have := h.dom k q hk; simp; omega, h.lt, fun k k' q q' hk hk' ho ha hbb => ?_, fun k q hk => ?_⟩
  · rw [hg k q hk] at ho
    rw [hg k' q' hk'] at ha
    exact h.inj k k' q q' hk hk' ho ha hbb
  · rw [hg k q hk]; exact h.blk k q hk
theorem le_upd_none {a : Nat} (ha : σ a = none) (p : Pl) : Le σ (upd σ a p) := fun k q hk => by
  by_cases e : k = a
  · subst e; rw [ha] at hk; cases hk
  · rw [upd_other _ _ e]; exact hk
/-- An entry's block is made. -/
theorem HR.fill (h : HR n w0 G σ lh w) {a : Nat} (ha : a < lh.length) (hna : σ a = none) (p : Pl) (o : Obj) (hp : p.b = w.heap.size) (hb : BR n (upd σ a p) (lh.getD a .dead) p (w.alloc o)) :
    HR n w0 G (upd σ a p) lh (w.alloc o) := by
  have hle := le_upd_none hna p
  refine ⟨h.hn, h.below.alloc h.size o, fun g hg => ?_, fun k q hk => ?_, fun k q hk => ?_, fun k k' q q' hk hk' ho haa hbb => ?_, fun k q hk => ?_⟩
  · obtain ⟨q, h1, h2⟩ := h.glob g hg
    exact ⟨q, hle g q h1, h2⟩
  · by_cases e : k = a
    · subst e; exact ha
    · rw [upd_other _ _ e] at hk
      exact h.dom k q hk
  · by_cases e : k = a
    · subst e
      rw [upd_same] at hk; cases hk
      simp [hp]
    · rw [upd_other _ _ e] at hk
      have := h.lt k q hk
      simp; omega
  · by_cases e : k = a
    · by_cases e' : k' = a
      · rw [e, e']
      · rw [e, upd_same] at hk; cases hk
        rw [upd_other _ _ e'] at hk'
        have := h.lt k' q' hk'
        omega
    · rw [upd_other _ _ e] at hk
      by_cases e' : k' = a
      · rw [e', upd_same] at hk'; cases hk'
        have := h.lt k q hk
        omega
      · rw [upd_other _ _ e'] at hk'
        exact h.inj k k' q q' hk hk' ho haa hbb
  · by_cases e : k = a
    · subst e
      rw [upd_same] at hk; cases hk
      exact hb
    · rw [upd_other _ _ e] at hk
      have hl := h.lt k q hk
      refine (h.blk k q hk).mono hle (fun i v hv => ?_) fun i => ?_
      · rw [World.cell?_alloc_lt _ _ _ hl]; exact hv
      · exact World.frozen?_alloc_old _ _ _ (Nat.ne_of_lt hl)
theorem HR.none_len (h : HR n w0 G σ lh w) : σ lh.length = none := by
  cases e : σ lh.length with
  | none => rfl
  | some p => exact absurd (h.dom _ _ e) (by omega)
/-- A new block. -/
theorem HR.new (h : HR n w0 G σ lh w) (blk : Blk) (p : Pl) (o : Obj) (hp : p.b = w.heap.size) (hb : BR n (upd σ lh.length p) blk p (w.alloc o)) :
    HR n w0 G (upd σ lh.length p) (lh ++ [blk]) (w.alloc o) :=
  (h.extend [blk]).fill (by simp) h.none_len p o hp (by rw [getD_append_new]; exact hb)

/-- A new block of cells. -/
theorem BR.newCells (hn : n ≤ w.heap.size) {c : List Value} {c' : Array Value} (t : TypeId) (hs : c.length = c'.size) (hc : ∀ (i : Nat) (x y : Value), c[i]? = some x → c'[i]? = some y → VR σ x y) :
    BR n σ (.cells true true c) ⟨w.heap.size, 0, 0, 0⟩ (w.alloc (.cells c' t)) := by
  refine ⟨fun _ => ⟨hn, fun o => World.frozen?_alloc_new _ _ _ _, fun j hj => by simp at hj⟩, fun i v hv => ?_⟩
  have hi : i < c'.size := by rw [← hs]; exact (List.getElem?_eq_some_iff.1 hv).1
  refine ⟨c'[i], ?_, hc i v _ hv (Array.getElem?_eq_getElem hi)⟩
  rw [Nat.zero_add, World.cell?_alloc_new]
  exact Array.getElem?_eq_getElem hi

/-- A new block of ints. -/
theorem BR.newInts (hn : n ≤ w.heap.size) (l : List Int) (t : TypeId) {c' : Array Value} (hc : ∀ (i : Nat) (x : Int), l[i]? = some x → c'[i]? = some (.int .i64 x)) :
    BR n σ (.ints true true l) ⟨w.heap.size, 0, 1, c'.size⟩ (w.alloc (.cells c' t)) := by
  refine ⟨fun _ => ⟨hn, fun o => World.frozen?_alloc_new _ _ _ _, fun j hj => ?_⟩, rfl, fun i v hv => ?_⟩
  · rw [Nat.zero_add, World.cell?_alloc_new]
    simp at hj
    simp [hj]
  · rw [Nat.zero_add, World.cell?_alloc_new]
    exact hc i v hv

theorem HR.drew (h : HR n w0 G σ lh w) : HR n w0 G σ lh w.drew :=
  ⟨h.hn, h.below.drew, h.glob, h.dom, h.lt, h.inj, fun k p hk => (h.blk k p hk).mono (Le.refl _) (fun _ _ hv => hv) fun _ => rfl⟩

/-- What turns none of the blocks that are there turns none that is known. -/
theorem HR.kept (h : HR n w0 G σ lh w) {w' : World} (hb : Below w.heap.size w w') : HR n w0 G σ lh w' := by
  refine ⟨h.hn, h.below.trans (hb.mono h.size), h.glob, h.dom, fun k p hk => Nat.lt_of_lt_of_le (h.lt k p hk) hb.size, h.inj, fun k p hk => ?_⟩
  have hl := h.lt k p hk
  exact (h.blk k p hk).mono (Le.refl _) (fun o v hv => (hb.cell (p := ⟨p.b, o, none⟩) hl).trans hv) fun o => hb.frozen (p := ⟨p.b, o, none⟩) hl

/-- Another block at a known place, of which less, or other, is known. -/
theorem HR.re (h : HR n w0 G σ lh w) {k : Nat} {p : Pl} (hk : σ k = some p) (blk : Blk) (ho : blk.owned = true → (lh.getD k .dead).owned = true) (ha : blk.alive = true → (lh.getD k .dead).alive = true) (hb : BR n σ blk p w) :
    HR n w0 G σ (lh.set k blk) w := by
  have hkl := h.dom k p hk
  refine ⟨h.hn, h.below, h.glob, fun i q hi => by simpa using h.dom i q hi, h.lt, fun i i' q q' hi hi' hoo haa hbb => ?_, fun i q hi => ?_⟩
  · refine h.inj i i' q q' hi hi' ?_ ?_ hbb
    · by_cases e : i = k
      · subst e; rw [getD_set_same _ _ _ hkl] at hoo; exact ho hoo
      · rwa [getD_set_other _ _ e] at hoo
    · by_cases e : i' = k
      · subst e; rw [getD_set_same _ _ _ hkl] at haa; exact ha haa
      · rwa [getD_set_other _ _ e] at haa
  · by_cases e : i = k
    · subst e
      rw [hk] at hi; cases hi
      rw [getD_set_same _ _ _ hkl]; exact hb
    · rw [getD_set_other _ _ e]; exact h.blk i q hi

/-- Stores into one owned block: what is known of the others stays. -/
theorem HR.stores (h : HR n w0 G σ lh w) {k : Nat} {p : Pl} (hk : σ k = some p) (ho : (lh.getD k .dead).owned = true) (o : Nat) (vs : List Value) (blk : Blk) (hoo : blk.owned = true → (lh.getD k .dead).owned = true) (hb : BR n σ blk p (w.setCells p.b o vs)) :
    HR n w0 G σ (lh.set k blk) (w.setCells p.b o vs) := by
  have hkl := h.dom k p hk
  have hal : (lh.getD k .dead).alive = true := by
    cases hx : lh.getD k .dead with
    | dead => rw [hx] at ho; cases ho
    | _ => rfl
  obtain ⟨hnb, hfz, _⟩ := (h.blk k p hk).1 ho
  have hsz : ∀ (vs : List Value) (o : Nat) (w : World), (w.setCells p.b o vs).heap.size = w.heap.size := by
    intro vs
    induction vs with
    | nil => intro o w; rfl
    | cons v r ih => intro o w; rw [World.setCells, ih, World.size_setCell]
  have hbel : ∀ (vs : List Value) (o : Nat) (w : World), Below n w0 w → Below n w0 (w.setCells p.b o vs) := by
    intro vs
    induction vs with
    | nil => intro o w hw; exact hw
    | cons v r ih => intro o w hw; rw [World.setCells]; exact ih _ _ (hw.setCell hnb v)
  have hoth : ∀ i q, σ i = some q → i ≠ k → (lh.getD i .dead).alive = true → BR n σ (lh.getD i .dead) q (w.setCells p.b o vs) := by
    intro i q hi hne hali
    have hne' : q.b ≠ p.b := fun e => hne (h.inj k i p q hk hi ho hali e.symm).symm
    refine (h.blk i q hi).mono (Le.refl _) (fun o' v hv => ?_) fun o' => World.frozen?_setCells _ _ _ _ _
    rw [World.cell?_setCells_out _ _ _ _ _ (fun e => absurd e hne')]; exact hv
  refine ⟨h.hn, hbel vs o w h.below, h.glob, fun i q hi => by simpa using h.dom i q hi, fun i q hi => by rw [hsz]; exact h.lt i q hi, fun i i' q q' hi hi' hoo' haa hbb => ?_, fun i q hi => ?_⟩
  · refine h.inj i i' q q' hi hi' ?_ ?_ hbb
    · by_cases e : i = k
      · subst e; exact ho
      · rwa [getD_set_other _ _ e] at hoo'
    · by_cases e : i' = k
      · subst e; exact hal
      · rwa [getD_set_other _ _ e] at haa
  · by_cases e : i = k
    · subst e
      rw [hk] at hi; cases hi
      rw [getD_set_same _ _ _ hkl]; exact hb
    · rw [getD_set_other _ _ e]
      cases hx : lh.getD i .dead with
      | dead => exact ⟨fun e => (by cases e), trivial⟩
      | cells ow wr c => rw [← hx]; exact hoth i q hi e (by rw [hx]; rfl)
      | ints ow wr c => rw [← hx]; exact hoth i q hi e (by rw [hx]; rfl)
      | rows ow wr a b c => rw [← hx]; exact hoth i q hi e (by rw [hx]; rfl)
end
end Go.Sx
