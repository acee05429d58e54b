
/- The arguments of the laws over memory, opened. No condition of its own. -/
import Derived.Test.YthfoljgaiincdaaDoorOpenG
namespace Go.Proofs.YthfoljgaiincdaaDoor
open Go.ChangeShapes Go.WideShapes Go.ChangeAt Go.RowKit Go.Joins Go.Fld Go.Deep Go.Sx
set_option linter.unusedVariables false
set_option linter.unusedSimpArgs false
section
variable {H : Type} {enc : TypeId × Value → H} {w : World} {base : Nat} {held : Bool}
abbrev kSlot : List Kd := [.it .i64, .it .i64, .it .i64, .bo, .bo, .it .i64, .it .i64, .it .i64, .it .i64]
abbrev kWr : List Kd := [.it .u8, .it .u8, .it .i64]
/-- What a Given is made of. -/
structure GivenA (w : World) (v : Value) (a b c d e : Int) (A0 : Option Addr) (n0 c0 : Nat) (R0 : Go.Sx.Rows) (A1 : Option Addr) (n1 c1 : Nat) (R1 : Go.Sx.Rows) (A2 : Option Addr) (n2 c2 : Nat) (R2 : Go.Sx.Rows) : Prop where
  val : v = .agg #[.int .u8 a, .int .u8 b, .int .u8 c, .int .u8 d, .int .u8 e, .slice A0 n0 c0, .slice A1 n1 c1, .slice A2 n2 c2]
  ha : 0 ≤ a ∧ a ≤ 255
  hb : 0 ≤ b ∧ b ≤ 255
  hc : 0 ≤ c ∧ c ≤ 255
  hd : 0 ≤ d ∧ d ≤ 255
  he : 0 ≤ e ∧ e ≤ 255
  k0 : R0.ks = kSlot
  r0 : ArgRow w A0 n0 c0 9 R0
  k1 : R1.ks = [.it .u8]
  r1 : ArgRow w A1 n1 c1 1 R1
  k2 : R2.ks = [.it .u8]
  r2 : ArgRow w A2 n2 c2 1 R2
theorem open_slots {fuel : Nat} {v : Value} {x : DataW H × List MemPlace} (h : DataW.trod enc Tryd.prog w base (fun _ => true) held fuel 41 [v] = some x) : ∃ A n cap R, v = .slice A n cap ∧ R.ks = kSlot ∧ ArgRow w A n cap 9 R :=
  open_rows Tryd.underlying41 Tryd.underlying49 (by kernel_rfl) (by kernel_rfl) (by kernel_rfl) (by decide) h
theorem open_u8s {fuel : Nat} {v : Value} {x : DataW H × List MemPlace} (h : DataW.trod enc Tryd.prog w base (fun _ => true) held fuel 56 [v] = some x) : ∃ A n cap R, v = .slice A n cap ∧ R.ks = [.it .u8] ∧ ArgRow w A n cap 1 R :=
  open_row1 Tryd.underlying56 (by kernel_rfl) (by kernel_rfl) h
theorem open_writes {fuel : Nat} {v : Value} {x : DataW H × List MemPlace} (h : DataW.trod enc Tryd.prog w base (fun _ => true) held fuel 75 [v] = some x) : ∃ A n cap R, v = .slice A n cap ∧ R.ks = kWr ∧ ArgRow w A n cap 3 R :=
  open_rows Tryd.underlying75 Tryd.underlying77 (by kernel_rfl) (by kernel_rfl) (by kernel_rfl) (by decide) h
theorem drop_take_at {cs : List Value} {i : Nat} {v : Value} (h : cs[i]? = some v) : (cs.drop i).take 1 = [v] := by
  obtain ⟨hi, rfl⟩ := List.getElem?_eq_some_iff.1 h
  rw [List.drop_eq_getElem_cons hi]; rfl
theorem list8 {α : Type} {l : List α} (h : l.length = 8) : ∃ v0 v1 v2 v3 v4 v5 v6 v7, l = [v0, v1, v2, v3, v4, v5, v6, v7] := by
  match l, h with
  | [v0, v1, v2, v3, v4, v5, v6, v7], _ => exact ⟨v0, v1, v2, v3, v4, v5, v6, v7, rfl⟩
theorem given12_gen {P : Program} {tc tu : TypeId} {f0 f1 f2 f3 f4 : Field} (hs : P.underlying tc = some (.struct #[f0, f1, f2, f3, f4])) (hone : oneCellFields P #[f0, f1, f2, f3, f4] = true) (hu : P.underlying tu = some (.int .u8)) (t0 : f0.type = tu) (t1 : f1.type = tu) (t2 : f2.type = tu) (t3 : f3.type = tu) (t4 : f4.type = tu)
    {n : Nat} {v0 v1 v2 v3 v4 : Value} {y : DataW H × List MemPlace} (g0 : DataW.trod enc P w base (fun _ => true) held n tc [v0, v1, v2, v3, v4] = some y) :
    ∃ a b c d e, v0 = .int .u8 a ∧ v1 = .int .u8 b ∧ v2 = .int .u8 c ∧ v3 = .int .u8 d ∧ v4 = .int .u8 e ∧ (0 ≤ a ∧ a ≤ 255) ∧ (0 ≤ b ∧ b ≤ 255) ∧ (0 ≤ c ∧ c ≤ 255) ∧ (0 ≤ d ∧ d ≤ 255) ∧ 0 ≤ e ∧ e ≤ 255 := by
  obtain ⟨zs, m, _, _, _, hzl, hh⟩ := DataW.trod_struct hs g0
  have one : ∀ (i : Nat) (f : Field) (v : Value), (#[f0, f1, f2, f3, f4] : Array Field)[i]? = some f → ([v0, v1, v2, v3, v4] : List Value)[i]? = some v → f.type = tu → ∃ a, v = .int .u8 a ∧ 0 ≤ a ∧ a ≤ 255 := by
    intro i f v hf hv ht
    have h := hh i f hf
    obtain ⟨ho, hk⟩ := hone_of hone i f hf
    have hi : i < 5 := by have := (List.getElem?_eq_some_iff.1 hv).1; simpa using this
    rw [ho, hk, drop_take_at hv, ht] at h
    have hz : zs[i]? = some (zs[i]'(by rw [hzl]; exact hi)) := List.getElem?_eq_getElem _
    rw [hz] at h
    obtain ⟨a, e0, _, w0⟩ := DataW.trod_int hu h
    simp only [List.cons.injEq, and_true] at e0
    exact ⟨a, e0, U8_of_wf w0⟩
  obtain ⟨a, e0, w0⟩ := one 0 f0 v0 rfl rfl t0
  obtain ⟨b, e1, w1⟩ := one 1 f1 v1 rfl rfl t1
  obtain ⟨c, e2, w2⟩ := one 2 f2 v2 rfl rfl t2
  obtain ⟨d, e3, w3⟩ := one 3 f3 v3 rfl rfl t3
  obtain ⟨e, e4, w4⟩ := one 4 f4 v4 rfl rfl t4
  exact ⟨a, b, c, d, e, e0, e1, e2, e3, e4, w0, w1, w2, w3, w4⟩
theorem given_gen {P : Program} {t tc ts tb : TypeId} {f0 f1 f2 f3 : Field} (hs : P.underlying t = some (.struct #[f0, f1, f2, f3])) (hC : P.cellsOf t = 8) (t0 : f0.type = tc) (t1 : f1.type = ts) (t2 : f2.type = tb) (t3 : f3.type = tb)
    (o0 : f0.offset = 0) (o1 : f1.offset = 5) (o2 : f2.offset = 6) (o3 : f3.offset = 7) (c0 : P.cellsOf tc = 5) (c1 : P.cellsOf ts = 1) (c2 : P.cellsOf tb = 1)
    {b0 : Nat} {r : Reach} {v : Value} {d : DataW H} {p : List MemPlace} (hv : Value.okWide P w r b0 t v) (h : DataW.Trod enc P w base (fun _ => true) held t v d p) :
    ∃ (v0 v1 v2 v3 v4 v5 v6 v7 : Value) (n : Nat) (y0 y1 y2 y3 : DataW H × List MemPlace), v = .agg #[v0, v1, v2, v3, v4, v5, v6, v7] ∧ DataW.trod enc P w base (fun _ => true) held n tc [v0, v1, v2, v3, v4] = some y0 ∧
      DataW.trod enc P w base (fun _ => true) held n ts [v5] = some y1 ∧ DataW.trod enc P w base (fun _ => true) held n tb [v6] = some y2 ∧ DataW.trod enc P w base (fun _ => true) held n tb [v7] = some y3 := by
  obtain ⟨cs, rfl, hsz⟩ := okWide_struct hs hv
  rw [hC] at hsz
  obtain ⟨fuel, hf⟩ := h
  obtain ⟨l⟩ := cs
  obtain ⟨v0, v1, v2, v3, v4, v5, v6, v7, rfl⟩ := list8 hsz
  obtain ⟨xs, n, _, _, hl, hxl, hg⟩ := DataW.trod_struct hs hf
  have hx : ∀ i, i < 4 → ∃ y, xs[i]? = some y := fun i hi => ⟨_, List.getElem?_eq_getElem (by rw [hxl]; exact hi)⟩
  obtain ⟨y0, hy0⟩ := hx 0 (by decide)
  obtain ⟨y1, hy1⟩ := hx 1 (by decide)
  obtain ⟨y2, hy2⟩ := hx 2 (by decide)
  obtain ⟨y3, hy3⟩ := hx 3 (by decide)
  have g0 := (hg 0 f0 rfl).trans hy0
  have g1 := (hg 1 f1 rfl).trans hy1
  have g2 := (hg 2 f2 rfl).trans hy2
  have g3 := (hg 3 f3 rfl).trans hy3
  rw [t0, o0, c0] at g0
  rw [t1, o1, c1] at g1
  rw [t2, o2, c2] at g2
  rw [t3, o3, c2] at g3
  exact ⟨v0, v1, v2, v3, v4, v5, v6, v7, n, y0, y1, y2, y3, rfl, g0, g1, g2, g3⟩
set_option maxRecDepth 4000 in
theorem open_given {b0 : Nat} {r : Reach} {v : Value} {d : DataW H} {p : List MemPlace} (hv : Value.okWide Tryd.prog w r b0 62 v) (h : DataW.Trod enc Tryd.prog w base (fun _ => true) held 62 v d p) :
    ∃ a b c d' e A0 n0 c0 R0 A1 n1 c1 R1 A2 n2 c2 R2, GivenA w v a b c d' e A0 n0 c0 R0 A1 n1 c1 R1 A2 n2 c2 R2 := by
  obtain ⟨v0, v1, v2, v3, v4, v5, v6, v7, n, y0, y1, y2, y3, rfl, g0, g1, g2, g3⟩ := given_gen (P := Tryd.prog) (t := 62) (w := w) (r := r) (b0 := b0) (v := v) (d := d) (p := p) Tryd.underlying62 (tc := 37) (ts := 41) (tb := 56) (by kernel_rfl) rfl rfl rfl rfl rfl rfl rfl rfl (by kernel_rfl) (by kernel_rfl) (by kernel_rfl) hv h
  obtain ⟨a, b, c, d', e, e0, e1, e2, e3, e4, w0, w1, w2, w3, w4⟩ := given12_gen Tryd.underlying37 (by kernel_rfl) Tryd.underlying5 rfl rfl rfl rfl rfl g0
  obtain ⟨A0, n0, c0, R0, e5, q0, r0⟩ := open_slots g1
  obtain ⟨A1, n1, c1, R1, e6, q1, r1⟩ := open_u8s g2
  obtain ⟨A2, n2, c2, R2, e7, q2, r2⟩ := open_u8s g3
  subst e0 e1 e2 e3 e4 e5 e6 e7
  exact ⟨a, b, c, d', e, A0, n0, c0, R0, A1, n1, c1, R1, A2, n2, c2, R2, rfl, w0, w1, w2, w3, w4, q0, r0, q1, r1, q2, r2⟩
end
/-- Writes that came in may be stored. -/
theorem rows_eta {R : Go.Sx.Rows} {ks : List Kd} (h : R.ks = ks) : R = ⟨ks, R.gi, R.gb⟩ := by cases R; cases h; rfl
end Go.Proofs.YthfoljgaiincdaaDoor
