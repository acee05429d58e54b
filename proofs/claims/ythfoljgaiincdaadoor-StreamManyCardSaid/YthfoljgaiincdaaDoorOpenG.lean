
/- Slices that come in, opened for the symbolic run. No condition of its own. -/
import Derived.Test.YthfoljgaiincdaaDoorSlotOpen
import Derived.Test.YthfoljgaiincdaaDoorSlotOrc
namespace Go.Proofs.YthfoljgaiincdaaDoor
open Go.ChangeShapes Go.WideShapes Go.ChangeAt Go.RowKit Go.Joins Go.Fld Go.Deep Go.Sx
set_option linter.unusedVariables false
set_option linter.unusedSimpArgs false
/-- A slice that came in reads as rows. -/
structure ArgRow (w : World) (A : Option Addr) (n cap wd : Nat) (R : Go.Sx.Rows) : Prop where
  le : n ≤ cap
  cells : n = 0 ∨ ∃ b off, A = some ⟨b, off, none⟩ ∧ b < w.heap.size ∧ ∀ i j, i < n → j < wd → w.cell? ⟨b, off + (i * wd + j), none⟩ = some (R.at i j).val
  wf : ∀ i j k, i < n → j < wd → R.ks.getD j .bo = .it k → (Lit.int k (R.gi i j)).wf = true
def kdT (P : Program) (t : TypeId) : Kd → Bool
  | .it k => match P.underlying t with
    | some (.int k') => decide (k = k')
    | _ => false
  | .bo => match P.underlying t with
    | some .bool => true
    | _ => false
def kdsT (P : Program) (fs : Array Field) (ks : List Kd) : Bool := Nat.beq ks.length fs.size && (List.range fs.size).all fun j => match fs[j]? with
  | some f => kdT P f.type (ks.getD j .bo)
  | none => false
section
variable {H : Type} {enc : TypeId × Value → H} {P : Program} {w : World} {base : Nat} {held : Bool} {spare : Nat → Bool}
def readR (w : World) (a : Addr) (wd : Nat) (ks : List Kd) : Go.Sx.Rows := ⟨ks, fun i j => intVal ((w.cell? (a.add (i * wd + j))).getD undef), fun i j => boolVal ((w.cell? (a.add (i * wd + j))).getD undef)⟩
theorem trod_kd {t : TypeId} {kd : Kd} (h : kdT P t kd = true) {fuel : Nat} {v : Value} {x : DataW H × List MemPlace} (ht : DataW.trod enc P w base spare held fuel t [v] = some x) :
    (match kd with | .it k => Scal.int k (intVal v) | .bo => .bool (boolVal v)).val = v ∧ ∀ k, kd = .it k → (Lit.int k (intVal v)).wf = true := by
  cases kd with
  | it k =>
    unfold kdT at h
    simp only at h
    split at h
    · rename_i k' hu
      have := of_decide_eq_true h
      subst this
      obtain ⟨n, e, _, hw⟩ := DataW.trod_int hu ht
      simp only [List.cons.injEq, and_true] at e
      subst e
      exact ⟨rfl, fun k' hk => by cases hk; exact hw⟩
    · cases h
  | bo =>
    unfold kdT at h
    simp only at h
    split at h
    · rename_i hu
      obtain ⟨b, e, _⟩ := DataW.trod_bool hu ht
      simp only [List.cons.injEq, and_true] at e
      subst e
      exact ⟨rfl, fun k' hk => by cases hk⟩
    · cases h
theorem argRow_of {a : Addr} {n cap wd : Nat} {ks : List Kd} (hle : n ≤ cap) (hwd : 0 < wd) (h : ∀ i j, i < n → j < wd → ∃ v, w.cell? (a.add (i * wd + j)) = some v ∧ (match ks.getD j .bo with | .it k => Scal.int k (intVal v) | .bo => .bool (boolVal v)).val = v ∧ ∀ k, ks.getD j .bo = .it k → (Lit.int k (intVal v)).wf = true) :
    ArgRow w (some a) n cap wd (readR w a wd ks) := by
  refine ⟨hle, ?_, fun i j k hi hj hk => ?_⟩
  · rcases Nat.eq_zero_or_pos n with h0 | h0
    · exact .inl h0
    right
    obtain ⟨v0, hc0, _⟩ := h 0 0 h0 hwd
    obtain ⟨b, off, spot⟩ := a
    have hspot : spot = none := by simpa [Addr.add] using World.cell?_spot hc0
    subst hspot
    have hb : b < w.heap.size := by simpa [Addr.add] using cell_lt (b := b) (o := off) (by simpa [Addr.add] using hc0)
    refine ⟨b, off, rfl, hb, fun i j hi hj => ?_⟩
    obtain ⟨v, hc, hv, _⟩ := h i j hi hj
    have hc' := hc
    rw [Addr.add_lit] at hc
    rw [hc]
    unfold readR Go.Sx.Rows.at
    simp only [hc', Option.getD_some]
    exact congrArg some hv.symm
  · obtain ⟨v, hc, _, hw⟩ := h i j hi hj
    unfold readR
    simp only [hc, Option.getD_some]
    exact hw k hk
/-- A slice of structs. -/
theorem open_rows {t e : TypeId} {fs : Array Field} {ks : List Kd} {fuel : Nat} {v : Value} {x : DataW H × List MemPlace} (ht : P.underlying t = some (.slice e)) (he : P.underlying e = some (.struct fs)) (hone : oneCellFields P fs = true) (hC : P.cellsOf e = fs.size) (hk : kdsT P fs ks = true) (h0 : 0 < fs.size)
    (h : DataW.trod enc P w base (fun _ => true) held fuel t [v] = some x) : ∃ A n cap R, v = .slice A n cap ∧ R.ks = ks ∧ ArgRow w A n cap fs.size R := by
  rcases open_slice_fields ht he hone hC h with ⟨hcs, _⟩ | ⟨a, l, c, m, D, Pl, hcs, _, hl, hm, hmm, _, hcell⟩
  · simp only [List.cons.injEq, and_true] at hcs
    subst hcs
    exact ⟨none, 0, 0, ⟨ks, fun _ _ => 0, fun _ _ => false⟩, rfl, rfl, Nat.le_refl _, .inl rfl, fun i j k hi => by omega⟩
  · simp only [List.cons.injEq, and_true] at hcs
    subst hcs
    simp only [if_true] at hmm
    subst hmm
    refine ⟨some a, l, m, readR w a fs.size ks, rfl, rfl, argRow_of hl h0 fun i j hi hj => ?_⟩
    obtain ⟨ys, n, _, _, _, hfl⟩ := hcell i (by omega)
    obtain ⟨f, hf⟩ : ∃ f, fs[j]? = some f := ⟨fs[j], Array.getElem?_eq_getElem hj⟩
    obtain ⟨v0, y0, hc0, _, t0⟩ := hfl j f hf
    refine ⟨v0, hc0, trod_kd ?_ t0⟩
    unfold kdsT at hk
    rw [Bool.and_eq_true, List.all_eq_true] at hk
    have := hk.2 j (List.mem_range.2 hj)
    rw [hf] at this
    exact this
/-- A slice of numbers, or of Bools. -/
theorem open_row1 {t e : TypeId} {kd : Kd} {fuel : Nat} {v : Value} {x : DataW H × List MemPlace} (ht : P.underlying t = some (.slice e)) (hC : P.cellsOf e = 1) (hk : kdT P e kd = true)
    (h : DataW.trod enc P w base (fun _ => true) held fuel t [v] = some x) : ∃ A n cap R, v = .slice A n cap ∧ R.ks = [kd] ∧ ArgRow w A n cap 1 R := by
  rcases open_slice1 ht hC h with ⟨hcs, _⟩ | ⟨a, l, c, m, n, V, D, Pl, hcs, _, hl, hm, hmm, _, hcell⟩
  · simp only [List.cons.injEq, and_true] at hcs
    subst hcs
    exact ⟨none, 0, 0, ⟨[kd], fun _ _ => 0, fun _ _ => false⟩, rfl, rfl, Nat.le_refl _, .inl rfl, fun i j k hi => by omega⟩
  · simp only [List.cons.injEq, and_true] at hcs
    subst hcs
    simp only [if_true] at hmm
    subst hmm
    refine ⟨some a, l, m, readR w a 1 [kd], rfl, rfl, argRow_of hl (by decide) fun i j hi hj => ?_⟩
    obtain rfl : j = 0 := by omega
    obtain ⟨h1, h2⟩ := hcell i (by omega)
    refine ⟨V i, by rw [Nat.mul_one, Nat.add_zero]; exact h1, ?_⟩
    exact trod_kd (kd := kd) hk h2
end
/-! ### Blocks that came in -/
def plOf (A : Option Addr) (n wd : Nat) : Option Pl :=
  match n, A with
  | 0, _ => none
  | _ + 1, some ⟨b, off, none⟩ => some ⟨b, off, wd, 0⟩
  | _ + 1, _ => none
theorem plOf_some {w : World} {A : Option Addr} {n cap wd : Nat} {R : Go.Sx.Rows} (h : ArgRow w A n cap wd R) {p : Pl} (hp : plOf A n wd = some p) :
    p.b < w.heap.size ∧ p.wd = wd ∧ A = some ⟨p.b, p.o, none⟩ ∧ ∀ i j, i < n → j < wd → w.cell? ⟨p.b, p.o + (i * wd + j), none⟩ = some (R.at i j).val := by
  unfold plOf at hp
  split at hp
  · cases hp
  · cases hp
    rcases h.cells with h0 | ⟨b', off', e, hb, hc⟩
    · omega
    · cases e
      exact ⟨hb, rfl, rfl, hc⟩
  · cases hp
theorem plOf_or {w : World} {A : Option Addr} {n cap wd : Nat} {R : Go.Sx.Rows} (h : ArgRow w A n cap wd R) : (∃ p, plOf A n wd = some p ∧ A = some ⟨p.b, p.o, none⟩) ∨ n = 0 := by
  rcases h.cells with h0 | ⟨b, off, rfl, hb, hc⟩
  · exact .inr h0
  · cases n with
    | zero => exact .inr rfl
    | succ n => exact .inl ⟨_, rfl, rfl⟩
theorem VR.argRow {w : World} {A : Option Addr} {n cap wd : Nat} {R : Go.Sx.Rows} (h : ArgRow w A n cap wd R) {σ : Nat → Option Pl} {k : Nat} (hσ : σ k = plOf A n wd) (c : Nat) : Go.Sx.VR σ (.slice (some ⟨k, 0, some 2⟩) n c) (.slice A n cap) := by
  refine .arg ?_ h.le
  rw [hσ]
  exact plOf_or h
/-- All that came in, as blocks. -/
theorem args_hr {w : World} {σ : Nat → Option Pl} (es : List (Nat × Nat × Go.Sx.Rows)) (h : ∀ k p, σ k = some p → ∃ e, es[k]? = some e ∧ p.b < w.heap.size ∧ p.wd = e.1 ∧ ∀ i j, i < e.2.1 → j < e.1 → w.cell? ⟨p.b, p.o + (i * e.1 + j), none⟩ = some (e.2.2.at i j).val) :
    HR (· < w.heap.size) w 0 σ (es.map fun e => .rows false false e.1 e.2.1 e.2.2) w := by
  refine ⟨fun _ hk => hk, Kept.refl _ _, fun g hg => by omega, fun k p hk => ?_, fun k p hk => ?_, fun k k' p p' hk hk' ho _ _ => ?_, fun k p hk => ?_⟩
  · obtain ⟨e, he, _⟩ := h k p hk
    simp only [List.length_map]
    exact (List.getElem?_eq_some_iff.1 he).1
  · obtain ⟨e, _, hb, _⟩ := h k p hk
    exact hb
  · exfalso
    rw [List.getD_eq_getElem?_getD, List.getElem?_map] at ho
    cases hq : es[k]? with
    | none => rw [hq] at ho; cases ho
    | some e => rw [hq] at ho; cases ho
  · obtain ⟨e, he, hb, hwd, hc⟩ := h k p hk
    rw [List.getD_eq_getElem?_getD, List.getElem?_map, he]
    refine ⟨fun ho => (by cases ho), hwd, fun i j hi hj => ⟨_, hc i j hi hj, ?_⟩⟩
    cases e.2.2.at i j with
    | int k n => exact .int k n
    | bool b => exact .bool b
abbrev ArgE := Option Addr × Nat × Nat × Nat × Go.Sx.Rows
theorem plOfs_some {w : World} : ∀ (L : List ArgE), (∀ e ∈ L, ArgRow w e.1 e.2.1 e.2.2.1 e.2.2.2.1 e.2.2.2.2) → ∀ (k : Nat) (p : Pl), ((L[k]?).bind fun e : ArgE => plOf e.1 e.2.1 e.2.2.2.1) = some p →
    ∃ e : Nat × Nat × Go.Sx.Rows, (L.map fun e : ArgE => (e.2.2.2.1, e.2.1, e.2.2.2.2))[k]? = some e ∧ p.b < w.heap.size ∧ p.wd = e.1 ∧ ∀ i j, i < e.2.1 → j < e.1 → w.cell? ⟨p.b, p.o + (i * e.1 + j), none⟩ = some (e.2.2.at i j).val := by
  intro L hL k p hp
  cases hq : L[k]? with
  | none => rw [hq] at hp; cases hp
  | some e =>
    rw [hq] at hp
    obtain ⟨h1, h2, _, h4⟩ := plOf_some (hL e (List.mem_of_getElem? hq)) hp
    exact ⟨_, by rw [List.getElem?_map, hq]; rfl, h1, h2, h4⟩
end Go.Proofs.YthfoljgaiincdaaDoor
