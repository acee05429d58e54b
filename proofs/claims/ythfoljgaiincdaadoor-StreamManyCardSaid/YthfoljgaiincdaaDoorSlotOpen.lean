
/- A slot that comes in as an argument is opened; the table slot.fields out of the row's list; a world for the witness. No condition of its own. -/
import Derived.Test.YthfoljgaiincdaaDoorOpen
import Derived.Test.YthfoljgaiincdaaDoorSlotD
import Derived.Test.YthfoljgaiincdaaDoorCards
import Derived.Test.YthfoljgaiincdaaDoorTie
import Derived.WalkKit
import Derived.Deep.DeepHandedRow
import Derived.Lib.LaidTab
namespace Go.Proofs.YthfoljgaiincdaaDoor
open Go.ChangeShapes Go.WideShapes Go.ChangeAt Go.RowKit Go.Joins Go.Fld Go.Deep
set_option linter.unusedVariables false
section
variable {H : Type} {enc : TypeId × Value → H} {P : Program} {w : World} {base : Nat} {spare : Nat → Bool} {held : Bool}
theorem open_agg9 {r : Reach} {b0 : Nat} {t : TypeId} {f0 f1 f2 f3 f4 f5 f6 f7 f8 : Field} {v : Value} {d : DataW H} {p : List MemPlace} (hs : P.underlying t = some (.struct #[f0, f1, f2, f3, f4, f5, f6, f7, f8])) (hone : oneCellFields P #[f0, f1, f2, f3, f4, f5, f6, f7, f8] = true) (hC : P.cellsOf t = 9)
    (hv : Value.okWide P w r b0 t v) (h : DataW.Trod enc P w base spare held t v d p) :
    ∃ (v0 v1 v2 v3 v4 v5 v6 v7 v8 : Value) (y0 y1 y2 y3 y4 y5 y6 y7 y8 : DataW H × List MemPlace) (n : Nat), v = .agg #[v0, v1, v2, v3, v4, v5, v6, v7, v8] ∧ d = .agg [y0.1, y1.1, y2.1, y3.1, y4.1, y5.1, y6.1, y7.1, y8.1] ∧ p = y0.2 ++ (y1.2 ++ (y2.2 ++ (y3.2 ++ (y4.2 ++ (y5.2 ++ (y6.2 ++ (y7.2 ++ y8.2))))))) ∧
      DataW.trod enc P w base spare held n f0.type [v0] = some y0 ∧ DataW.trod enc P w base spare held n f1.type [v1] = some y1 ∧ DataW.trod enc P w base spare held n f2.type [v2] = some y2 ∧ DataW.trod enc P w base spare held n f3.type [v3] = some y3 ∧ DataW.trod enc P w base spare held n f4.type [v4] = some y4 ∧ DataW.trod enc P w base spare held n f5.type [v5] = some y5 ∧ DataW.trod enc P w base spare held n f6.type [v6] = some y6 ∧ DataW.trod enc P w base spare held n f7.type [v7] = some y7 ∧ DataW.trod enc P w base spare held n f8.type [v8] = some y8 := by
  obtain ⟨cs, rfl, hsz⟩ := okWide_struct hs hv
  obtain ⟨l⟩ := cs
  match l, hsz.trans hC with
  | [c0, c1, c2, c3, c4, c5, c6, c7, c8], _ =>
    obtain ⟨fuel, hf⟩ := h
    obtain ⟨xs, n, _, hx, _, hlen, hg⟩ := DataW.trod_struct hs hf
    obtain ⟨o0, k0⟩ := hone_of hone 0 f0 rfl
    obtain ⟨o1, k1⟩ := hone_of hone 1 f1 rfl
    obtain ⟨o2, k2⟩ := hone_of hone 2 f2 rfl
    obtain ⟨o3, k3⟩ := hone_of hone 3 f3 rfl
    obtain ⟨o4, k4⟩ := hone_of hone 4 f4 rfl
    obtain ⟨o5, k5⟩ := hone_of hone 5 f5 rfl
    obtain ⟨o6, k6⟩ := hone_of hone 6 f6 rfl
    obtain ⟨o7, k7⟩ := hone_of hone 7 f7 rfl
    obtain ⟨o8, k8⟩ := hone_of hone 8 f8 rfl
    match xs, hlen with
    | [y0, y1, y2, y3, y4, y5, y6, y7, y8], _ =>
      simp only [Prod.mk.injEq] at hx
      exact ⟨c0, c1, c2, c3, c4, c5, c6, c7, c8, y0, y1, y2, y3, y4, y5, y6, y7, y8, n, rfl, by simpa using hx.1, by simpa using hx.2, by simpa [Value.cells, o0, k0] using hg 0 f0 rfl, by simpa [Value.cells, o1, k1] using hg 1 f1 rfl, by simpa [Value.cells, o2, k2] using hg 2 f2 rfl, by simpa [Value.cells, o3, k3] using hg 3 f3 rfl, by simpa [Value.cells, o4, k4] using hg 4 f4 rfl, by simpa [Value.cells, o5, k5] using hg 5 f5 rfl, by simpa [Value.cells, o6, k6] using hg 6 f6 rfl, by simpa [Value.cells, o7, k7] using hg 7 f7 rfl, by simpa [Value.cells, o8, k8] using hg 8 f8 rfl⟩
/-- A slot that came in. -/
theorem open_slot {r : Reach} {b0 : Nat} {t i b : TypeId} {f0 f1 f2 f3 f4 f5 f6 f7 f8 : Field} {v : Value} {d : DataW H} {p : List MemPlace} (hs : P.underlying t = some (.struct #[f0, f1, f2, f3, f4, f5, f6, f7, f8])) (hone : oneCellFields P #[f0, f1, f2, f3, f4, f5, f6, f7, f8] = true) (hC : P.cellsOf t = 9)
    (hi : P.underlying i = some (.int .i64)) (hb : P.underlying b = some .bool) (h0 : f0.type = i) (h1 : f1.type = i) (h2 : f2.type = i) (h3 : f3.type = b) (h4 : f4.type = b) (h5 : f5.type = i) (h6 : f6.type = i) (h7 : f7.type = i) (h8 : f8.type = i)
    (hv : Value.okWide P w r b0 t v) (h : DataW.Trod enc P w base spare held t v d p) : ∃ s : Slt, v = s.val ∧ I64 s.st ∧ I64 s.own ∧ I64 s.str ∧ I64 s.uses ∧ I64 s.gen ∧ I64 s.ep ∧ I64 s.ver := by
  obtain ⟨v0, v1, v2, v3, v4, v5, v6, v7, v8, y0, y1, y2, y3, y4, y5, y6, y7, y8, n, rfl, _, _, t0, t1, t2, t3, t4, t5, t6, t7, t8⟩ := open_agg9 hs hone hC hv h
  rw [h0] at t0
  rw [h1] at t1
  rw [h2] at t2
  rw [h3] at t3
  rw [h4] at t4
  rw [h5] at t5
  rw [h6] at t6
  rw [h7] at t7
  rw [h8] at t8
  obtain ⟨n0, e0, _, w0⟩ := DataW.trod_int hi t0
  obtain ⟨n1, e1, _, w1⟩ := DataW.trod_int hi t1
  obtain ⟨n2, e2, _, w2⟩ := DataW.trod_int hi t2
  obtain ⟨n3, e3, _⟩ := DataW.trod_bool hb t3
  obtain ⟨n4, e4, _⟩ := DataW.trod_bool hb t4
  obtain ⟨n5, e5, _, w5⟩ := DataW.trod_int hi t5
  obtain ⟨n6, e6, _, w6⟩ := DataW.trod_int hi t6
  obtain ⟨n7, e7, _, w7⟩ := DataW.trod_int hi t7
  obtain ⟨n8, e8, _, w8⟩ := DataW.trod_int hi t8
  simp only [List.cons.injEq, and_true] at e0 e1 e2 e3 e4 e5 e6 e7 e8
  subst e0 e1 e2 e3 e4 e5 e6 e7 e8
  exact ⟨⟨n0, n1, n2, n3, n4, n5, n6, n7, n8⟩, rfl, I64_of_wf w0, I64_of_wf w1, I64_of_wf w2, I64_of_wf w5, I64_of_wf w6, I64_of_wf w7, I64_of_wf w8⟩
end

def pairD {H : Type} (f : Int × Int) : DataW H := .agg [.lit (.int .i64 f.1), .lit (.int .i64 f.2)]
theorem pairs_len : ∀ zs : List (Int × Int), (zs.flatMap fun f => [Value.int .i64 f.1, Value.int .i64 f.2]).length = zs.length * 2
  | [] => rfl
  | a :: l => by rw [List.flatMap_cons, List.length_append, pairs_len l, List.length_cons]; simp; omega
/-- An array of pairs of ints that reads as a list holds the list's numbers, cell for cell. -/
theorem cells_of_pairs {H : Type} {enc : TypeId × Value → H} {P : Program} {w : World} {base : Nat} {sp : Nat → Bool} {held : Bool} {fuel : Nat} {t e i : TypeId} {f0 f1 : Field} {n : Nat} {cs : List Value} {zs : List (Int × Int)} {p : List MemPlace}
    (ht : P.underlying t = some (.array n e)) (he : P.underlying e = some (.struct #[f0, f1])) (hone : oneCellFields P #[f0, f1] = true) (hce : P.cellsOf e = 2) (hct : P.cellsOf t = n * 2) (h0 : f0.type = i) (h1 : f1.type = i) (hi : P.underlying i = some (.int .i64))
    (h : DataW.trod enc P w base sp held fuel t cs = some (.agg (zs.map pairD), p)) : cs = zs.flatMap fun f => [Value.int .i64 f.1, Value.int .i64 f.2] := by
  cases fuel with
  | zero => simp [DataW.trod] at h
  | succ fuel =>
    simp only [DataW.trod, ht, hce, hct] at h
    split at h
    · rename_i hl
      obtain ⟨xs, hm, hx⟩ := Option.map_eq_some_iff.1 h
      have hxs : xs.map (·.1) = zs.map fun z => (pairD z : DataW H) := by
        have := congrArg Prod.fst hx
        simpa using this
      have hxl : xs.length = n := by simpa using Lib.mapM_length hm
      have hzl : zs.length = n := by
        have := congrArg List.length hxs
        simp at this
        omega
      have hlen : (zs.flatMap fun f => [Value.int .i64 f.1, Value.int .i64 f.2]).length = n * 2 := by
        rw [← hzl]
        exact pairs_len zs
      apply List.ext_getElem?
      intro j
      by_cases hj : j < n * 2
      · obtain ⟨b, hb, hf⟩ := Lib.mapM_at hm (j / 2) (j / 2) (List.getElem?_range (by omega))
        have hz : zs[j / 2]? = some (zs[j / 2]'(by omega)) := List.getElem?_eq_getElem (by omega)
        have h2 : (xs.map (·.1))[j / 2]? = (zs.map fun z => (pairD z : DataW H))[j / 2]? := by rw [hxs]
        rw [List.getElem?_map, List.getElem?_map, hb, hz] at h2
        simp only [Option.map_some, Option.some.injEq] at h2
        obtain ⟨y0, y1, m, hy, _, t0, t1⟩ := trod_struct2 he hf
        obtain ⟨o0, k0⟩ := hone_of hone 0 f0 rfl
        obtain ⟨o1, k1⟩ := hone_of hone 1 f1 rfl
        rw [hy] at h2
        simp only [pairD, DataW.agg.injEq, List.cons.injEq, and_true] at h2
        rw [h0] at t0
        rw [h1] at t1
        rw [← h0, k0, o0, h0] at t0
        rw [← h1, k1, o1, h1] at t1
        obtain ⟨z0, c0, e0, _⟩ := DataW.trod_int hi t0
        obtain ⟨z1, c1, e1, _⟩ := DataW.trod_int hi t1
        subst e0 e1
        simp only [DataW.lit.injEq, Lit.int.injEq, true_and] at h2
        obtain ⟨rfl, rfl⟩ := h2
        have r := flat_get (fun f : Int × Int => [Value.int .i64 f.1, Value.int .i64 f.2]) 2 (fun _ => rfl) zs (j / 2) (j % 2) (zs[j / 2]'(by omega))
        have q0 : cs[j / 2 * 2]? = some (.int .i64 (zs[j / 2]'(by omega)).1) := by
          have := congrArg (·[0]?) c0
          simpa [List.getElem?_take, List.getElem?_drop] using this
        have q1 : cs[j / 2 * 2 + 1]? = some (.int .i64 (zs[j / 2]'(by omega)).2) := by
          have := congrArg (·[0]?) c1
          simpa [List.getElem?_take, List.getElem?_drop] using this
        rcases Nat.mod_two_eq_zero_or_one j with h | h
        · have r' := r (.int .i64 (zs[j / 2]'(by omega)).1) hz (by rw [h]; rfl)
          rw [show j / 2 * 2 + j % 2 = j by omega] at r'
          rw [show j / 2 * 2 = j by omega] at q0
          rw [r', q0]
        · have r' := r (.int .i64 (zs[j / 2]'(by omega)).2) hz (by rw [h]; rfl)
          rw [show j / 2 * 2 + j % 2 = j by omega] at r'
          rw [show j / 2 * 2 + 1 = j by omega] at q1
          rw [r', q1]
      · rw [List.getElem?_eq_none (by omega), List.getElem?_eq_none (by omega)]
    · cases h

/-- What the row's list gives: the table. -/
theorem table {W : World} (h : laidMetH Tryd.prog [("coachhouse/slot.fields", Rows.laid_coachhouse_slot_fields)] W) : Tab W := by
  have h' : laidMet Tryd.prog [("coachhouse/slot.fields", Rows.laid_coachhouse_slot_fields)] W := h
  obtain ⟨ps, ⟨g', t', cs, fuel, p, q, hg', ht', hvar, hd, _, _⟩, _⟩ := h'
  obtain rfl := Option.some.inj ((show Tryd.prog.globalNamed "coachhouse/slot.fields" = some 0 by kernel_rfl).symm.trans hg')
  obtain rfl := Option.some.inj ((show (Tryd.prog.globals[0]?).map (·.type) = some 105 by kernel_rfl).symm.trans ht')
  have hcs := cells_of_pairs (zs := fieldsL) (i := 3) Tryd.underlying105 Tryd.underlying104 (by kernel_rfl) (by kernel_rfl) (by kernel_rfl) rfl rfl Tryd.underlying3 hd
  unfold World.var? at hvar
  rw [hg'] at hvar
  simp only [Option.bind_some] at hvar
  split at hvar
  · rename_i c t fr hb
    refine ⟨t, fr, hb.trans ?_⟩
    rw [Option.some.inj hvar, show cs = tabC from Array.toList_inj.1 (hcs.trans (by rfl))]
  · cases hvar

/-- A world for the witness: the settled one, with the table in its variable. -/
noncomputable def laidWorld (os : Os) : World :=
  { World.holding Tryd.prog os ⟨#[], #[], []⟩ with heap := (World.holding Tryd.prog os ⟨#[], #[], []⟩).heap.modify 0 fun
      | .cells _ t frozen => .cells tabC t frozen
      | o => o }
end Go.Proofs.YthfoljgaiincdaaDoor
