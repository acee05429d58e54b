
/- ConfSlots: its walk. No condition of its own. -/
import Derived.Test.YthfoljgaiincdaaDoorConfR
import Derived.Test.YthfoljgaiincdaaDoorOpenC
namespace Go.Proofs.YthfoljgaiincdaaDoor
open Go.RowKit Go.Fld Go.Sx Go.WideShapes Go.ChangeShapes Go.ChangeAt
set_option linter.unusedVariables false
set_option linter.unusedSimpArgs false
theorem cs_true (c : Cf) (n q : Nat) (l : List Int) (hn : n = l.length) (hl : ∀ j, I64i (l.getD j 0)) : (callV csEnv 60 6 [c.val, wv n q] [.ints false false l]).run (Option Value) none (fun r => some r.1) = some (.bool true) := by
  rw [cs_tree]
  unfold csT
  cases hr : rightC c with
  | false => rfl
  | true =>
    by_cases h50 : (n : Int) > 50
    · rw [decide_eq_true h50]; rfl
    · rw [decide_eq_false h50]
      have hok : (rightC c && lenOK n l) = true := by rw [hr, lenOK_iff.2 ⟨hn, by omega⟩]; rfl
      have hR := rightC_iff.1 hr
      have h1 := hR.w
      have h2 := hR.s
      have hN := hR.cntN
      unfold csY
      cases hb : Nat.beq n (cntN c) with
      | false =>
        rw [dual_n hok hb, dual_n hok hb, dual_n hok hb, dual_n hok hb]; rfl
      | true =>
        have hnc := Nat.eq_of_beq_eq_true hb
        have hpl : (pinsC c l).length = c.w.toNat := by unfold pinsC; rw [List.length_take, List.length_drop]; omega
        have hs : smOK c.s.toNat (slR (cpD (slK c l))) (slR (slD c l)) := by
          refine ⟨by omega, _, _, rfl, rfl, fun i hi => ?_⟩
          unfold cpD slD
          rw [hR.cellC (i := i) (by omega) (by omega), show (3 + 2 * c.w + (i : Int)) = ((3 + 2 * c.w.toNat + i : Nat) : Int) by omega, Int.toNat_natCast, decA_eq _ (hl _)]
          have e : (slK c l).getD i 0 = l.getD (3 + 2 * c.w.toNat + i) 0 := by
            unfold slK
            rw [List.getD_eq_getElem?_getD, List.getElem?_take_of_lt hi, List.getElem?_drop, List.getD_eq_getElem?_getD]
          rw [e]
        rw [dual_y hok hb, dual_y hok hb, dual_y hok hb, dual_y hok hb, sure_of hs, Nat.beq_refl, lenOK_iff.2 ⟨hpl.symm, by omega⟩, decide_eq_true rfl]
        rfl
theorem cs_walk (w : World) (hT : Tab w) (c : Cf) {B : Option Addr} {m q : Nat} {S : Go.Sx.Rows} (k1 : S.ks = [.it .i64]) (r1 : ArgRow w B m q 1 S) :
    Calls Tryd.prog 6 #[c.val, .slice B m q] w fun e w' => e = .returned (.bool true) ∧ Below w.heap.size w w' := by
  have hw : ∀ i, i < m → I64i (S.gi i 0) := fun i hi => I64_of_wf (r1.wf i 0 .i64 hi (by decide) (by rw [k1]; rfl))
  obtain ⟨ks1, gi, gb⟩ := S
  simp only at k1 hw
  subst k1
  let σ : Nat → Option Pl := fun k => match k with | 0 => plOf B m 1 | _ => none
  let l : List Int := (List.range m).map fun i => gi i 0
  have hll : m = l.length := by simp [l]
  have hl : ∀ j, I64i (l.getD j 0) := by
    intro j
    by_cases hj : j < m
    · have e : l.getD j 0 = gi j 0 := by simp [l, List.getD_eq_getElem?_getD, hj]
      rw [e]; exact hw j hj
    · have e : l.getD j 0 = 0 := by rw [List.getD_eq_getElem?_getD, List.getElem?_eq_none (by omega)]; rfl
      rw [e]; exact ⟨by decide, by decide⟩
  have hr : HR (· < w.heap.size) w 0 σ [.ints false false l] w := by
    refine ⟨fun _ hk => hk, Kept.refl _ _, fun g hg => by omega, fun k p hk => ?_, fun k p hk => ?_, fun k k' p p' hk hk' ho _ _ => ?_, fun k p hk => ?_⟩
    · match k, hk with
      | 0, _ => simp
      | _ + 1, hk => cases hk
    · match k, hk with
      | 0, hk => exact (plOf_some r1 hk).1
      | _ + 1, hk => cases hk
    · match k, hk, ho with
      | 0, _, ho => cases ho
      | _ + 1, hk, _ => cases hk
    · match k, hk with
      | 0, hk =>
        obtain ⟨_, hwd, _, hc⟩ := plOf_some r1 hk
        refine ⟨fun ho => (by cases ho), hwd, fun i x hx => ?_⟩
        have hi : i < m := by
          have := (List.getElem?_eq_some_iff.1 hx).1
          omega
        have e : x = gi i 0 := by
          have : l[i]? = some (gi i 0) := by simp [l, hi]
          rw [this] at hx; exact (Option.some.inj hx).symm
        have := hc i 0 hi (by decide)
        rw [Nat.mul_one, Nat.add_zero] at this
        rw [this, e]; rfl
      | _ + 1, hk => cases hk
  refine callV_start (csEnv_ok _ w hT.lt (bnd_self w) hT) rfl (cs_true c m q l hll hl) rfl hr (VRA.of_list ?_)
  exact .cons (.agg rfl (VRA.of_list (.cons (.int _ _) (.cons (.int _ _) (.cons (.int _ _) (.cons (.int _ _) (.cons (.int _ _) .nil)))))).2) (.cons (VR.argRow (σ := σ) (k := 0) r1 rfl _) .nil)
end Go.Proofs.YthfoljgaiincdaaDoor
