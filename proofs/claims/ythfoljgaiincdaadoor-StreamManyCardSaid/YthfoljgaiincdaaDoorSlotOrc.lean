
/- What the oracles of the symbolic run over slots have in common. No condition of its own. -/
import Derived.Test.YthfoljgaiincdaaDoorSxMd
import Derived.Test.YthfoljgaiincdaaDoorSlotPD
import Derived.Test.YthfoljgaiincdaaDoorSlotD
namespace Go.Sx
open Go Go.RowKit
set_option linter.unusedVariables false
set_option linter.unusedSimpArgs false
/-- A value without addresses, of cells without addresses. -/
def plainA : Value → Bool
  | .agg c => c.all plain1
  | v => plain1 v
theorem VR.plainA_eq {σ : Nat → Option Pl} {v v' : Value} (h : VR σ v v') (hp : plainA v = true) : v' = v := by
  unfold plainA at hp
  split at hp
  · rename_i c
    cases h with
    | agg hs hh =>
      have := (show VRA σ _ _ from ⟨hs, hh⟩).plain_eq (fun x hx => by
        rw [Array.all_eq_true] at hp
        obtain ⟨i, hi, rfl⟩ := List.mem_iff_getElem.1 hx
        simpa using hp i (by simpa using hi))
      rw [this]
  · exact h.plain1_eq hp
theorem VRA.plainA_eq {σ : Nat → Option Pl} {args : List Value} {args' : Array Value} (h : VRA σ args.toArray args') (hp : args.all plainA = true) : args' = args.toArray := by
  refine Array.ext h.1.symm fun i h1 h2 => ?_
  have hv := h.2 i _ _ (Array.getElem?_eq_getElem h2) (Array.getElem?_eq_getElem h1)
  rw [List.all_eq_true] at hp
  exact hv.plainA_eq (hp _ (by simp))
/-- A contract of a function that turns nothing and answers without addresses. -/
theorem CallTo.pure {P : Program} {n : Nat → Prop} {w0 : World} {G : Nat} {f : FuncId} {args : List Value} {lh : List Blk} {v : Value} (ha : args.all plainA = true) (hv : plain v = true)
    (h : ∀ w, Kept n w0 w → Calls P f args.toArray w fun e w' => e = .returned v ∧ Below w.heap.size w w') : CallTo P n w0 G f args lh (v, lh) := by
  refine ⟨Keeps.refl _, fun σ w args' hr hargs => ?_⟩
  rw [hargs.plainA_eq ha]
  refine (h w hr.below).mono fun e w' hh => ?_
  obtain ⟨rfl, hb⟩ := hh
  exact ⟨v, rfl, σ, Ext.refl _ _, VR.plain σ hv, hr.kept hb⟩
theorem VR.plain_eq {σ : Nat → Option Pl} {v v' : Value} (h : VR σ v v') (hp : Go.Sx.plain v = true) (hne : v ≠ undef) : v' = v := by
  have arr : ∀ c c' : Array Value, VRA σ c c' → c.all Go.Sx.plain1 = true → c' = c := fun c c' hv hc => hv.plain_eq (fun x hx => by
    rw [Array.all_eq_true] at hc
    obtain ⟨i, hi, rfl⟩ := List.mem_iff_getElem.1 hx
    simpa using hc i (by simpa using hi))
  unfold Go.Sx.plain at hp
  split at hp
  · rename_i c
    cases h with
    | agg hs hh => rw [arr _ _ ⟨hs, hh⟩ hp]
  · rename_i c
    cases h with
    | any => exact absurd rfl hne
    | tuple hs hh =>
      rename_i c'
      have : c' = c := by
        refine Array.ext hs.symm fun i h1 h2 => ?_
        have hv := hh i _ _ (Array.getElem?_eq_getElem h2) (Array.getElem?_eq_getElem h1)
        rw [Array.all_eq_true] at hp
        have hpi := hp i h2
        split at hpi
        · rename_i d hd
          rw [hd] at hv ⊢
          generalize c'[i] = y at hv
          cases hv with
          | agg hs hh => rw [arr _ _ ⟨hs, hh⟩ hpi]
        · exact hv.plain1_eq hpi
      rw [this]
  · exact h.plain1_eq hp
/-- A call whose answer has no address. -/
theorem call_plain {E : Env} {n : Nat → Prop} {w0 : World} (hE : EnvOK E n w0) {fuel f : Nat} {args : List Value} {lh : List Blk} {v : Value} (h : (call E fuel f args lh).run (Option Value) none (fun r => some r.1) = some v) (hv : Go.Sx.plain v = true) (hne : v ≠ undef)
    {σ : Nat → Option Pl} {w : World} {args' : Array Value} (hr : HR n w0 E.G σ lh w) (ha : VRA σ args.toArray args') : Calls E.P f args' w fun e w' => e = .returned v ∧ Kept n w0 w' := by
  rw [M.run_eq] at h
  cases hx : (call E fuel f args lh).get with
  | none => rw [hx] at h; cases h
  | some r =>
    rw [hx] at h
    simp only [Option.elim_some, Option.some.injEq] at h
    obtain ⟨_, _, hc⟩ := call_ok hE fuel f args lh r hx
    refine (hc σ w args' hr ha).mono fun e w' hh => ?_
    obtain ⟨v', rfl, σ', _, hvr, hr'⟩ := hh
    rw [h] at hvr
    rw [VR.plain_eq hvr hv hne]
    exact ⟨rfl, hr'.below⟩
end Go.Sx
namespace Go.Proofs.YthfoljgaiincdaaDoor
open Go.RowKit Go.Fld Go.Sx
set_option linter.unusedVariables false
set_option linter.unusedSimpArgs false
theorem Tab.of_kept {n : Nat → Prop} {w0 w : World} (h : Tab w0) (hn : n 0) (hb : Kept n w0 w) : Tab w := by
  obtain ⟨t, fr, h'⟩ := h
  exact ⟨t, fr, (hb.block 0 hn).trans h'⟩
theorem tab_kept : ∀ (X : Nat → Prop) (w w' : World), X 0 → Tab w → Kept X w w' → Tab w' := fun X w w' h0 h hk => h.of_kept h0 hk
theorem Sound.pure {f : FuncId} {fn : Func} (hf : FnOK Tryd.prog f fn) {F : Orc} (h : ∀ args lh r, (F args lh).get = some r → r.2 = lh ∧ args.all plainA = true ∧ Go.Sx.plain r.1 = true ∧ ∀ w, Tab w → Calls Tryd.prog f args.toArray w fun e w' => e = .returned r.1 ∧ Below w.heap.size w w') : Sound Tryd.prog Tab f F := by
  refine ⟨⟨fn, hf⟩, fun X w0 h0 hB hT args lh r hr => ?_⟩
  obtain ⟨rfl, h1, h2, h3⟩ := h args lh r hr
  exact CallTo.pure h1 h2 fun w hk => h3 w (hT.of_kept h0 hk)
def slotOf : List Value → Option Slt
  | [.int .i64 a, .int .i64 b, .int .i64 c, .bool d, .bool e, .int .i64 f, .int .i64 g, .int .i64 h, .int .i64 i] => some ⟨a, b, c, d, e, f, g, h, i⟩
  | _ => none
theorem slotOf_some {c : Array Value} {s : Slt} (h : slotOf c.toList = some s) : Value.agg c = s.val := by
  unfold slotOf at h
  split at h
  · rename_i hc
    cases h
    unfold Slt.val
    congr 1
    exact Array.toList_inj.1 hc
  · cases h
def slotM {α : Type} (v : Value) (F : Slt → M α) : M α :=
  match v with
  | .agg c => match slotOf c.toList with
    | some s => F s
    | none => .bad
  | _ => .bad
theorem slotM_some {α : Type} {v : Value} {F : Slt → M α} {x : α} (h : (slotM v F).get = some x) : ∃ s, v = s.val ∧ (F s).get = some x := by
  unfold slotM at h
  split at h
  · split at h
    · rename_i hc
      exact ⟨_, slotOf_some hc, h⟩
    · cases h
  · cases h
def optV (o : Option Int) : Value := .tuple #[.int .i64 (o.getD 0), .bool o.isSome]
theorem optV_eq (o : Option Int) : packR o = optV o := packR_eq o
theorem Slt.plain_val (s : Slt) : plainA s.val = true := by simp [Slt.val, plainA, plain1]
theorem args_slot (s : Slt) : [s.val].all plainA = true := by simp [Slt.plain_val]
theorem plain_optV (o : Option Int) : plain (optV o) = true := by simp [optV, plain, plain1]
theorem plain_decR (o : Option Slt) : plain (decR o) = true := by simp [decR, plain, plain1, Slt.val]
theorem VRA.plain {σ : Nat → Option Pl} (l : List Value) (h : l.all Go.Sx.plain = true) : VRA σ l.toArray l.toArray := by
  refine ⟨rfl, fun i x y hx hy => ?_⟩
  obtain rfl : x = y := Option.some.inj (hx.symm.trans hy)
  rw [List.all_eq_true] at h
  exact VR.plain σ (h x (by simpa using Array.mem_of_getElem? hx))
theorem start_hr {w : World} : HR (· < w.heap.size) w 0 (fun _ => none) [] w :=
  ⟨fun _ h => h, Kept.refl _ _, fun g hg => by omega, fun k p h => (by cases h), fun k p h => (by cases h), fun k k' p p' h => (by cases h), fun k p h => (by cases h)⟩
/-- A call out of nothing whose answer has no address. -/
theorem call_start {E : Env} {w : World} (hE : EnvOK E (· < w.heap.size) w) (hG : E.G = 0) {fuel f : Nat} {args : List Value} {v : Value} (h : (call E fuel f args []).run (Option Value) none (fun r => some r.1) = some v) (hv : Go.Sx.plain v = true) (hne : v ≠ undef) (ha : args.all Go.Sx.plain = true) :
    Calls E.P f args.toArray w fun e w' => e = .returned v ∧ Below w.heap.size w w' := by
  have hr : HR (· < w.heap.size) w E.G (fun _ => none) [] w := by rw [hG]; exact start_hr
  exact (call_plain hE h hv hne hr (VRA.plain args ha)).mono fun e w' hh => ⟨hh.1, hh.2.below⟩
theorem bnd_self (w : World) : Bnd (· < w.heap.size) w := fun _ h => h
end Go.Proofs.YthfoljgaiincdaaDoor
