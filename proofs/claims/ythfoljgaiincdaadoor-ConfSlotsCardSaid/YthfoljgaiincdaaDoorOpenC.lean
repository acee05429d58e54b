
/- Structs of five numbers that come in, opened. No condition of its own. -/
import Derived.Test.YthfoljgaiincdaaDoorOpenA
import Derived.Test.YthfoljgaiincdaaDoorRefConf
namespace Go.Proofs.YthfoljgaiincdaaDoor
open Go.ChangeShapes Go.WideShapes Go.ChangeAt Go.RowKit Go.Joins Go.Fld Go.Deep Go.Sx
set_option linter.unusedVariables false
set_option linter.unusedSimpArgs false
section
variable {H : Type} {enc : TypeId × Value → H} {w : World} {base : Nat} {held : Bool}
theorem list5 {α : Type} {l : List α} (h : l.length = 5) : ∃ v0 v1 v2 v3 v4, l = [v0, v1, v2, v3, v4] := by
  match l, h with
  | [v0, v1, v2, v3, v4], _ => exact ⟨v0, v1, v2, v3, v4, rfl⟩
theorem five_gen {P : Program} {t tu : TypeId} {κ : IntKind} {f0 f1 f2 f3 f4 : Field} (hs : P.underlying t = some (.struct #[f0, f1, f2, f3, f4])) (hone : oneCellFields P #[f0, f1, f2, f3, f4] = true) (hC : P.cellsOf t = 5) (hu : P.underlying tu = some (.int κ)) (t0 : f0.type = tu) (t1 : f1.type = tu) (t2 : f2.type = tu) (t3 : f3.type = tu) (t4 : f4.type = tu)
    {b0 : Nat} {r : Reach} {v : Value} {d : DataW H} {p : List MemPlace} (hv : Value.okWide P w r b0 t v) (h : DataW.Trod enc P w base (fun _ => true) held t v d p) :
    ∃ a b c d e, v = .agg #[.int κ a, .int κ b, .int κ c, .int κ d, .int κ e] ∧ (Lit.int κ a).wf = true ∧ (Lit.int κ b).wf = true ∧ (Lit.int κ c).wf = true ∧ (Lit.int κ d).wf = true ∧ (Lit.int κ e).wf = true := by
  obtain ⟨cs, rfl, hsz⟩ := okWide_struct hs hv
  rw [hC] at hsz
  obtain ⟨fuel, hf⟩ := h
  obtain ⟨l⟩ := cs
  obtain ⟨v0, v1, v2, v3, v4, rfl⟩ := list5 hsz
  obtain ⟨zs, m, _, _, _, hzl, hh⟩ := DataW.trod_struct hs hf
  have one : ∀ (i : Nat) (f : Field) (v : Value), (#[f0, f1, f2, f3, f4] : Array Field)[i]? = some f → ([v0, v1, v2, v3, v4] : List Value)[i]? = some v → f.type = tu → ∃ a, v = .int κ a ∧ (Lit.int κ a).wf = true := by
    intro i f v hf hv ht
    have h := hh i f hf
    obtain ⟨ho, hk⟩ := hone_of hone i f hf
    have hi : i < 5 := by have := (List.getElem?_eq_some_iff.1 hv).1; simpa using this
    rw [ho, hk] at h
    have hz : zs[i]? = some (zs[i]'(by rw [hzl]; exact hi)) := List.getElem?_eq_getElem _
    rw [hz] at h
    have h2 := h
    rw [show ((Value.agg [v0, v1, v2, v3, v4].toArray).cells.toList.drop i).take 1 = [v] from drop_take_at hv, ht] at h2
    obtain ⟨a, e0, _, w0⟩ := DataW.trod_int hu h2
    simp only [List.cons.injEq, and_true] at e0
    exact ⟨a, e0, w0⟩
  obtain ⟨a, e0, w0⟩ := one 0 f0 v0 rfl rfl t0
  obtain ⟨b, e1, w1⟩ := one 1 f1 v1 rfl rfl t1
  obtain ⟨c, e2, w2⟩ := one 2 f2 v2 rfl rfl t2
  obtain ⟨d, e3, w3⟩ := one 3 f3 v3 rfl rfl t3
  obtain ⟨e, e4, w4⟩ := one 4 f4 v4 rfl rfl t4
  subst e0 e1 e2 e3 e4
  exact ⟨a, b, c, d, e, rfl, w0, w1, w2, w3, w4⟩
set_option maxRecDepth 4000 in
theorem open_conf {b0 : Nat} {r : Reach} {v : Value} {d : DataW H} {p : List MemPlace} (hv : Value.okWide Tryd.prog w r b0 23 v) (h : DataW.Trod enc Tryd.prog w base (fun _ => true) held 23 v d p) : ∃ c : Cf, v = c.val := by
  obtain ⟨a, b, c, d', e, h1, _⟩ := five_gen (P := Tryd.prog) (t := 23) (w := w) (r := r) (b0 := b0) (v := v) (d := d) (p := p) Tryd.underlying23 (by kernel_rfl) (by kernel_rfl) Tryd.underlying3 rfl rfl rfl rfl rfl hv h
  exact ⟨⟨a, b, c, d', e⟩, h1⟩
set_option maxRecDepth 4000 in
theorem open_given12 {b0 : Nat} {r : Reach} {v : Value} {d : DataW H} {p : List MemPlace} (hv : Value.okWide Tryd.prog w r b0 37 v) (h : DataW.Trod enc Tryd.prog w base (fun _ => true) held 37 v d p) :
    ∃ a b c d e, v = .agg #[.int .u8 a, .int .u8 b, .int .u8 c, .int .u8 d, .int .u8 e] ∧ (0 ≤ a ∧ a ≤ 255) ∧ (0 ≤ b ∧ b ≤ 255) ∧ (0 ≤ c ∧ c ≤ 255) ∧ (0 ≤ d ∧ d ≤ 255) ∧ 0 ≤ e ∧ e ≤ 255 := by
  obtain ⟨a, b, c, d', e, h1, h2, h3, h4, h5, h6⟩ := five_gen (P := Tryd.prog) (t := 37) (w := w) (r := r) (b0 := b0) (v := v) (d := d) (p := p) Tryd.underlying37 (by kernel_rfl) (by kernel_rfl) Tryd.underlying5 rfl rfl rfl rfl rfl hv h
  exact ⟨a, b, c, d', e, h1, U8_of_wf h2, U8_of_wf h3, U8_of_wf h4, U8_of_wf h5, U8_of_wf h6⟩
end
end Go.Proofs.YthfoljgaiincdaaDoor
