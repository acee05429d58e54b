
import Derived.Test.YthfoljgaiincdaaDoorFieldPlain
import Derived.ProofKit
import Derived.OpenShut
import Derived.ShutString
import Derived.ChangeOld
import Derived.Lib.SmallJoins
import Derived.Deep.Slices
import Derived.Deep.Fields
import Derived.ChangeSame
namespace Go.Proofs.YthfoljgaiincdaaDoor
open Go.ChangeShapes Go.WideShapes Go.ChangeAt Go.RowKit Go.Joins Go.Fld Go.Deep
set_option linter.unusedVariables false

theorem own : ownKnob Tryd.prog.godebug = none := by kernel_rfl
theorem laidOut : laidOutB Tryd.prog = true := by kernel_rfl
theorem I64_of_wf {n : Int} (h : (Lit.int .i64 n).wf = true) : I64 n := by
  simp [Lit.wf, IntKind.min, IntKind.max, IntKind.signed, IntKind.bits] at h
  unfold I64; omega
theorem U8_of_wf {n : Int} (h : (Lit.int .u8 n).wf = true) : 0 ≤ n ∧ n ≤ 255 := by
  simp [Lit.wf, IntKind.min, IntKind.max, IntKind.signed, IntKind.bits] at h
  omega
theorem U16_of_wf {n : Int} (h : (Lit.int .u16 n).wf = true) : 0 ≤ n ∧ n ≤ 65535 := by
  simp [Lit.wf, IntKind.min, IntKind.max, IntKind.signed, IntKind.bits] at h
  omega

theorem list_of {α : Type} (P : Nat → α → Prop) : ∀ n, (∀ i, i < n → ∃ x, P i x) → ∃ l : List α, l.length = n ∧ ∀ i (h : i < l.length), P i l[i]
  | 0, _ => ⟨[], rfl, fun i h => by simp at h⟩
  | n + 1, h => by
    obtain ⟨l, hl, hp⟩ := list_of P n fun i hi => h i (by omega)
    obtain ⟨x, hx⟩ := h n (by omega)
    refine ⟨l ++ [x], by simp [hl], fun i hi => ?_⟩
    rcases Nat.lt_or_ge i n with h1 | h1
    · rw [List.getElem_append_left (by omega)]; exact hp i _
    · obtain rfl : i = n := by simp at hi; omega
      rw [List.getElem_append_right (by omega)]; simpa [hl] using hx

/-- A slice's elements, found one by one, as a list that reads. -/
theorem rowAt_of {α : Type} {enc : α → List Value} {size : Nat} {w : World} {a : Addr} {n : Nat} (good : α → Prop) (hne : ∀ x, 0 < (enc x).length)
    (h : ∀ i, i < n → ∃ x, good x ∧ ∀ j u, (enc x)[j]? = some u → w.cell? (a.add (i * size + j)) = some u) :
    ∃ l : List α, l.length = n ∧ (∀ x ∈ l, good x) ∧ RowAt enc size w w.heap.size (some a) l := by
  obtain ⟨l, hl, hp⟩ := list_of _ n h
  refine ⟨l, hl, fun x hx => ?_, fun hnil => ?_⟩
  · obtain ⟨i, hi, rfl⟩ := List.mem_iff_getElem.1 hx
    exact (hp i hi).1
  · have h0 : 0 < l.length := List.length_pos_iff.2 hnil
    obtain ⟨b, off, spot⟩ := a
    have hx := hne l[0]
    have hc0 := (hp 0 h0).2 0 _ (List.getElem?_eq_getElem hx)
    have hspot : spot = none := by simpa [Addr.add] using World.cell?_spot hc0
    subst hspot
    have hb : b < w.heap.size := by simpa [Addr.add] using cell_lt (b := b) (o := off) (by simpa [Addr.add] using hc0)
    refine ⟨b, off, rfl, hb, fun k x hx j u hu => ?_⟩
    obtain ⟨hk, rfl⟩ := List.getElem?_eq_some_iff.1 hx
    have := (hp k hk).2 j u hu
    unfold Addr.add at this
    split at this
    · rename_i hz
      rw [show off + k * size + j = off by omega]; exact this
    · rw [show off + k * size + j = off + (k * size + j) by omega]; exact this

section
variable {H : Type} {enc : TypeId × Value → H} {P : Program} {w : World} {base : Nat} {spare : Nat → Bool} {held : Bool}
theorem open_slice_fields {t e : TypeId} {fs : Array Field} {fuel : Nat} {cs : List Value} {x : DataW H × List MemPlace} (ht : P.underlying t = some (.slice e)) (he : P.underlying e = some (.struct fs))
    (hone : oneCellFields P fs = true) (hC : P.cellsOf e = fs.size) (h : DataW.trod enc P w base spare held fuel t cs = some x) :
    (cs = [.slice none 0 0] ∧ x = (.nil, [])) ∨
    ∃ (a : Addr) (len cap m : Nat) (D : Nat → DataW H) (Pl : Nat → List MemPlace), cs = [.slice (some a) len cap] ∧ base ≤ a.block ∧ len ≤ cap ∧ cap ≤ maxLen ∧ m = (if spare a.block then cap else len) ∧
      x = (.slice ((List.range len).map D) ((List.range (m - len)).map fun j => D (len + j)), MemPlace.row a (m * fs.size) ++ (List.range m).flatMap Pl) ∧
      ∀ i, i < m → ∃ (ys : List (DataW H × List MemPlace)) (n : Nat), D i = .agg (ys.map (·.1)) ∧ Pl i = ys.flatMap (·.2) ∧ ys.length = fs.size ∧
        ∀ (j : Nat) (f : Field), fs[j]? = some f → ∃ (v : Value) (y : DataW H × List MemPlace), w.cell? (a.add (i * fs.size + j)) = some v ∧ ys[j]? = some y ∧ DataW.trod enc P w base spare held n f.type [v] = some y := by
  rcases open_slice ht h with h0 | ⟨a, len, cap, m, n, D, Pl, hcs, hb, hl, hm, hmm, hx, hi⟩
  · exact .inl h0
  · refine .inr ⟨a, len, cap, m, D, Pl, hcs, hb, hl, hm, hmm, by rw [hC] at hx; exact hx, fun i him => ?_⟩
    obtain ⟨cs', hc, ht'⟩ := hi i him
    rw [hC] at hc
    obtain ⟨ys, n', hn', hy, hlen, hyl, hf⟩ := DataW.trod_struct he ht'
    obtain ⟨_, hcl, hat⟩ := World.cells?_some hc
    simp only [Prod.mk.injEq] at hy
    refine ⟨ys, n', hy.1, hy.2, hyl, fun j f hj => ?_⟩
    obtain ⟨ho, hk⟩ := hone_of hone j f hj
    have hjl : j < fs.size := (Array.getElem?_eq_some_iff.1 hj).1
    have hcell := hat j hjl
    have hv : cs'[j]? = some (cs'[j]'(by omega)) := List.getElem?_eq_getElem (by omega)
    have h1 := hf j f hj
    rw [ho, hk] at h1
    have hone' : (cs'.drop j).take 1 = [cs'[j]'(by omega)] := by
      rw [List.drop_eq_getElem_cons (by omega)]
      rfl
    rw [hone'] at h1
    have hys : ys[j]? = some (ys[j]'(by omega)) := List.getElem?_eq_getElem (by omega)
    refine ⟨_, _, ?_, hys, h1.trans hys⟩
    rw [← Go.Deep.add_add, hcell, hv]

/-- A slice of fields that came in reads as a list. -/
theorem open_rowF {t e i : TypeId} {f0 f1 : Field} {a : Option Addr} {len cap : Nat} {d : DataW H} {p : List MemPlace} (ht : P.underlying t = some (.slice e)) (he : P.underlying e = some (.struct #[f0, f1])) (hone : oneCellFields P #[f0, f1] = true) (hC : P.cellsOf e = 2)
    (h0 : f0.type = i) (h1 : f1.type = i) (hi : P.underlying i = some (.int .i64)) (h : DataW.Trod enc P w base spare held t (.slice a len cap) d p) :
    ∃ l : List (Int × Int), len = l.length ∧ len ≤ cap ∧ (∀ f ∈ l, I64 f.1 ∧ I64 f.2) ∧ RowAt encF 2 w w.heap.size a l := by
  obtain ⟨fuel, hf⟩ := h
  rcases open_slice_fields ht he hone (hC.trans rfl) hf with ⟨hcs, _⟩ | ⟨x, l, c, m, D, Pl, hcs, _, hl, hm, hmm, _, hcell⟩
  · simp [Value.cells] at hcs
    obtain ⟨rfl, rfl, rfl⟩ := hcs
    exact ⟨[], rfl, Nat.le_refl _, by simp, fun h => absurd rfl h⟩
  · simp [Value.cells] at hcs
    obtain ⟨rfl, rfl, rfl⟩ := hcs
    have hlm : len ≤ m := by rw [hmm]; split <;> omega
    obtain ⟨l, h1, h2, h3⟩ := rowAt_of (enc := encF) (size := 2) (w := w) (a := x) (n := len) (fun f => I64 f.1 ∧ I64 f.2) (fun _ => by simp [encF]) (fun k hk => by
      obtain ⟨ys, n, _, _, _, hfl⟩ := hcell k (by omega)
      obtain ⟨v0, y0, hc0, _, t0⟩ := hfl 0 f0 rfl
      obtain ⟨v1, y1, hc1, _, t1⟩ := hfl 1 f1 rfl
      rw [h0] at t0
      rw [h1] at t1
      obtain ⟨n0, e0, rfl, w0⟩ := DataW.trod_int hi t0
      obtain ⟨n1, e1, rfl, w1⟩ := DataW.trod_int hi t1
      simp at e0 e1
      subst e0 e1
      refine ⟨(n0, n1), ⟨I64_of_wf w0, I64_of_wf w1⟩, fun j u hu => ?_⟩
      match j, hu with
      | 0, hu => simp [encF] at hu; subst hu; simpa using hc0
      | 1, hu => simp [encF] at hu; subst hu; simpa using hc1
      | j + 2, hu => simp [encF] at hu)
    exact ⟨l, h1.symm, hl, h2, h3⟩
/-- A slice of ints that came in reads as a list. -/
theorem open_rowI {t e : TypeId} {a : Option Addr} {len cap : Nat} {d : DataW H} {p : List MemPlace} (ht : P.underlying t = some (.slice e)) (he : P.underlying e = some (.int .i64)) (hC : P.cellsOf e = 1) (h : DataW.Trod enc P w base spare held t (.slice a len cap) d p) :
    ∃ l : List Int, len = l.length ∧ len ≤ cap ∧ (∀ x ∈ l, I64 x) ∧ RowAt encI 1 w w.heap.size a l := by
  obtain ⟨fuel, hf⟩ := h
  rcases open_slice ht hf with ⟨hcs, _⟩ | ⟨x, l, c, m, n, D, Pl, hcs, _, hl, hm, hmm, _, hi⟩
  · simp [Value.cells] at hcs
    obtain ⟨rfl, rfl, rfl⟩ := hcs
    exact ⟨[], rfl, Nat.le_refl _, by simp, fun h => absurd rfl h⟩
  · simp [Value.cells] at hcs
    obtain ⟨rfl, rfl, rfl⟩ := hcs
    have hlm : len ≤ m := by rw [hmm]; split <;> omega
    obtain ⟨l, h1, h2, h3⟩ := rowAt_of (enc := encI) (size := 1) (w := w) (a := x) (n := len) (fun f => I64 f) (fun _ => by simp [encI]) (fun k hk => by
      obtain ⟨cs', hc, ht'⟩ := hi k (by omega)
      rw [hC] at hc
      obtain ⟨_, hcl, hat⟩ := World.cells?_some hc
      have h0 := hat 0 (by omega)
      obtain ⟨y, hy⟩ : ∃ y, cs' = [y] := by
        match cs', hcl with
        | [y], _ => exact ⟨y, rfl⟩
      subst hy
      obtain ⟨n0, e0, _, w0⟩ := DataW.trod_int he ht'
      simp at e0
      subst e0
      refine ⟨n0, I64_of_wf w0, fun j u hu => ?_⟩
      match j, hu with
      | 0, hu =>
        simp [encI] at hu; subst hu
        rw [← Go.Deep.add_add]; exact h0
      | j + 1, hu => simp [encI] at hu)
    exact ⟨l, h1.symm, hl, h2, h3⟩
end
end Go.Proofs.YthfoljgaiincdaaDoor
