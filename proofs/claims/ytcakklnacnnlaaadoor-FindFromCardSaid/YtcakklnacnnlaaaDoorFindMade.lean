/- Words that are made: every slot's word says a slot. No condition of its own. -/
import Derived.Test.YtcakklnacnnlaaaDoorFindPlaysW
namespace Go.Proofs.YtcakklnacnnlaaaDoor
open Go.RowKit Go.Fld Go.Sx
set_option linter.unusedVariables false
set_option linter.unusedSimpArgs false
theorem decS_enc (s : Slt) : (decS ((encS s).getD 0)).isSome = true := by
  cases h : encS s with
  | none => show (decS 0).isSome = true; kernel_rfl
  | some x =>
    show (decS x).isSome = true
    have := (dec_enc s x h).1
    unfold decS
    rw [this, h, if_pos rfl]; rfl
theorem decS_zero : (decS 0).isSome = true := by kernel_rfl
/-- Every slot's word says a slot. -/
def SlotsD (cf : Cf) (l : List Int) : Prop := ∀ i : Nat, (i : Int) < cf.s → (decS (l.getD (cellC cf i).toNat 0)).isSome = true
theorem getD_set (l : List Int) (j c : Nat) (v : Int) : (l.set j v).getD c 0 = if j = c ∧ c < l.length then v else l.getD c 0 := by
  rw [List.getD_eq_getElem?_getD, List.getElem?_set, List.getD_eq_getElem?_getD]
  by_cases h : j = c
  · subst h
    by_cases h2 : j < l.length
    · rw [if_pos rfl, if_pos h2, if_pos ⟨rfl, h2⟩]; rfl
    · rw [if_pos rfl, if_neg h2, if_neg (fun h => h2 h.2), List.getElem?_eq_none (by omega)]
  · rw [if_neg h, if_neg (fun hh => h hh.1)]
theorem SlotsD.set {cf : Cf} {l : List Int} (h : SlotsD cf l) (j : Nat) {v : Int} (hv : (decS v).isSome = true) : SlotsD cf (l.set j v) := fun i hi => by
  rw [getD_set]
  split
  · exact hv
  · exact h i hi
theorem SlotsD.other {cf : Cf} (hc : RightC cf) {l : List Int} (h : SlotsD cf l) {j : Nat} (hj : (j : Int) < 3 + 2 * cf.w) (v : Int) : SlotsD cf (l.set j v) := fun i hi => by
  have hcell := hc.cellC (show (0 : Int) ≤ (i : Int) by omega) hi
  rw [getD_set, if_neg (by rw [hcell]; have := hc.w; omega)]
  exact h i hi
theorem madeP_D {cf : Cf} (hc : RightC cf) (pi : Nat → Nat → Int) {l : List Int} (h : SlotsD cf l) : ∀ k : Nat, (k : Int) ≤ cf.w → SlotsD cf (madeP cf pi k l)
  | 0, _ => h
  | k + 1, hk => (madeP_D hc pi h k (by omega)).other hc (by rw [hc.pinC (i := (k : Int)) (by omega) (by omega)]; have := hc.w; omega) _
theorem madeS_D {cf : Cf} (si : Nat → Nat → Int) (sb : Nat → Nat → Bool) {l : List Int} (h : SlotsD cf l) : ∀ k, SlotsD cf (madeS cf si sb k l)
  | 0 => h
  | k + 1 => (madeS_D si sb h k).set _ (decS_enc _)
theorem made_D {cf : Cf} (hc : RightC cf) (nf : Nat) (fi : Nat → Nat → Int) (np : Nat) (pi : Nat → Nat → Int) (ns : Nat) (si : Nat → Nat → Int) (sb : Nat → Nat → Bool) : SlotsD cf (madeL cf nf fi np pi ns si sb) := by
  have h0 : SlotsD cf (List.replicate (cntN cf) (0 : Int)) := fun i hi => by
    rw [List.getD_eq_getElem?_getD, List.getElem?_replicate]
    split <;> exact decS_zero
  unfold madeL mdS
  refine madeS_D si sb (madeP_D hc pi ?_ _ ?_) _
  · unfold mdFirst
    split
    · exact (h0.other hc (by have := hc.w; omega) _).other hc (by have := hc.w; omega) _
    · exact h0
  · unfold mn
    have := hc.w
    omega
/-- What a slot's cell is. -/
theorem slotCell_in {cf : Cf} (hc : RightC cf) {i : Nat} (hi : (i : Int) < cf.s) : cellC cf i = 3 + 2 * cf.w + i ∧ inR (cntN cf) (cellC cf i) = true ∧ inRange (cellC cf i) (cntN cf) = true ∧ (cellC cf i).toNat < cntN cf := by
  have h1 := hc.cellC (show (0 : Int) ≤ (i : Int) by omega) hi
  have h2 := hc.cntN
  have h3 := hc.w
  rw [h1]
  refine ⟨rfl, ?_, ?_, by omega⟩
  · unfold inR; rw [decide_eq_true (by omega), decide_eq_true (by omega)]; rfl
  · unfold inRange; simp; omega
end Go.Proofs.YtcakklnacnnlaaaDoor
