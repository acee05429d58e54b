/- The functions of slot, and their reference's, as oracles of the symbolic run. No condition of its own. -/
import Derived.Test.YtljgocfmmdpdfaaDoorSxO
import Derived.Test.YtljgocfmmdpdfaaDoorSlotPD
namespace Go.Sx
open Go Go.RowKit
set_option linter.unusedVariables false
/-- A value without addresses, of cells without addresses. -/
def plainA : Value → Bool
  | .agg c => c.all plain1
  | v => plain1 v
theorem VR.plainA_eq {σ : Nat → Option Pl} {v v' : Value} (h : VR σ v v') (hp : plainA v = true) : v' = v := by
  unfold plainA at hp
  split at hp
  · rename_i c
    cases h with
    | agg hs hh =>
      have := (show VRA σ _ _ from ⟨hs, hh⟩).plain_eq (fun x hx => by
        rw [Array.all_eq_true] at hp
        obtain ⟨i, hi, rfl⟩ := List.mem_iff_getElem.1 hx
        simpa using hp i (by simpa using hi))
      rw [this]
  · exact h.plain1_eq hp
theorem VRA.plainA_eq {σ : Nat → Option Pl} {args : List Value} {args' : Array Value} (h : VRA σ args.toArray args') (hp : args.all plainA = true) : args' = args.toArray := by
  refine Array.ext h.1.symm fun i h1 h2 => ?_
  have hv := h.2 i _ _ (Array.getElem?_eq_getElem h2) (Array.getElem?_eq_getElem h1)
  rw [List.all_eq_true] at hp
  exact hv.plainA_eq (hp _ (by simp))
/-- A contract of a function that turns nothing and answers without addresses. -/
theorem CallTo.pure {P : Program} {n : Nat} {w0 : World} {G : Nat} {f : FuncId} {args : List Value} {lh : List Blk} {v : Value} (ha : args.all plainA = true) (hv : plain v = true)
    (h : ∀ w, n ≤ w.heap.size → Below n w0 w → Calls P f args.toArray w fun e w' => e = .returned v ∧ Below w.heap.size w w') : CallTo P n w0 G f args lh (v, lh) := by
  refine ⟨Keeps.refl _, fun σ w args' hr hargs => ?_⟩
  rw [hargs.plainA_eq ha]
  refine (h w hr.size hr.below).mono fun e w' hh => ?_
  obtain ⟨rfl, hb⟩ := hh
  exact ⟨v, rfl, σ, Ext.refl _ _, VR.plain σ hv, hr.kept hb⟩
end Go.Sx
namespace Go.Proofs.YtljgocfmmdpdfaaDoor
open Go.RowKit Go.Fld Go.Sx
set_option linter.unusedVariables false
theorem Tab.of_below {n : Nat} {w0 w : World} (h : Tab w0) (hn : 0 < n) (hb : Below n w0 w) : Tab w := by
  obtain ⟨t, fr, h'⟩ := h
  exact ⟨t, fr, (hb.block 0 hn).trans h'⟩
def slotOf : List Value → Option Slt
  | [.int .i64 a, .int .i64 b, .int .i64 c, .bool d, .bool e, .int .i64 f, .int .i64 g, .int .i64 h, .int .i64 i] => some ⟨a, b, c, d, e, f, g, h, i⟩
  | _ => none
theorem slotOf_some {c : Array Value} {s : Slt} (h : slotOf c.toList = some s) : Value.agg c = s.val := by
  unfold slotOf at h
  split at h
  · rename_i hc
    cases h
    unfold Slt.val
    congr 1
    exact Array.toList_inj.1 hc
  · cases h
def slotM {α : Type} (v : Value) (F : Slt → M α) : M α :=
  match v with
  | .agg c => match slotOf c.toList with
    | some s => F s
    | none => .bad
  | _ => .bad
theorem slotM_some {α : Type} {v : Value} {F : Slt → M α} {x : α} (h : (slotM v F).get = some x) : ∃ s, v = s.val ∧ (F s).get = some x := by
  unfold slotM at h
  split at h
  · split at h
    · rename_i hc
      exact ⟨_, slotOf_some hc, h⟩
    · cases h
  · cases h
def optV (o : Option Int) : Value := .tuple #[.int .i64 (o.getD 0), .bool o.isSome]
theorem optV_eq (o : Option Int) : packR o = optV o := packR_eq o
theorem Slt.plain_val (s : Slt) : plainA s.val = true := by simp [Slt.val, plainA, plain1]
theorem args_slot (s : Slt) : [s.val].all plainA = true := by simp [Slt.plain_val]
theorem plain_optV (o : Option Int) : plain (optV o) = true := by simp [optV, plain, plain1]
theorem plain_decR (o : Option Slt) : plain (decR o) = true := by simp [decR, plain, plain1, Slt.val]
def slotOrc : FuncId → Option (List Value → List Go.Sx.Blk → M (Value × List Go.Sx.Blk))
  | 8 => some fun args lh => match args with | [] => .ret (.bool true, lh) | _ => .bad
  | 9 => some fun args lh => match args with | [s] => slotM s fun s => .ret (optV (encS s), lh) | _ => .bad
  | 10 => some fun args lh => match args with | [s] => slotM s fun s => .ret (optV (encR s), lh) | _ => .bad
  | 11 => some fun args lh => match args with | [s] => slotM s fun s => .ret (.bool (encS s).isSome, lh) | _ => .bad
  | 12 => some fun args lh => match args with | [s] => slotM s fun s => .ret (.bool (rightR s), lh) | _ => .bad
  | 13 => some fun args lh => match args with | [.int .i64 x] => .ret (decR (decS x), lh) | _ => .bad
  | _ => none
theorem slotOrc_ok {n : Nat} {w0 : World} (hT : Tab w0) (hn : 0 < n) : ∀ f F, slotOrc f = some F → (∃ fn, FnOK Tryd.prog f fn) ∧ ∀ args lh r, (F args lh).get = some r → CallTo Tryd.prog n w0 0 f args lh r := by
  intro f F h
  unfold slotOrc at h
  split at h
  · cases h
    refine ⟨⟨_, Tryd.func8, by kernel_rfl, by kernel_rfl⟩, fun args lh r hr => ?_⟩
    dsimp only at hr
    split at hr
    · simp only [M.get_ret, Option.some.injEq] at hr; subst hr
      exact CallTo.pure rfl rfl fun w hw hb => awake_any w (hT.of_below hn hb)
    · cases hr
  · cases h
    refine ⟨⟨_, Tryd.func9, by kernel_rfl, by kernel_rfl⟩, fun args lh r hr => ?_⟩
    dsimp only at hr
    split at hr
    · obtain ⟨s, rfl, h2⟩ := slotM_some hr
      simp only [M.get_ret, Option.some.injEq] at h2; subst h2
      exact CallTo.pure (args_slot s) (plain_optV _) fun w hw hb => by rw [← optV_eq]; exact enc_any _ _ _ _ _ _ _ _ _ w (hT.of_below hn hb)
    · cases hr
  · cases h
    refine ⟨⟨_, Tryd.func10, by kernel_rfl, by kernel_rfl⟩, fun args lh r hr => ?_⟩
    dsimp only at hr
    split at hr
    · obtain ⟨s, rfl, h2⟩ := slotM_some hr
      simp only [M.get_ret, Option.some.injEq] at h2; subst h2
      exact CallTo.pure (args_slot s) (plain_optV _) fun w hw hb => by rw [← optV_eq]; exact encR_any _ _ _ _ _ _ _ _ _ w
    · cases hr
  · cases h
    refine ⟨⟨_, Tryd.func11, by kernel_rfl, by kernel_rfl⟩, fun args lh r hr => ?_⟩
    dsimp only at hr
    split at hr
    · obtain ⟨s, rfl, h2⟩ := slotM_some hr
      simp only [M.get_ret, Option.some.injEq] at h2; subst h2
      exact CallTo.pure (args_slot s) rfl fun w hw hb => rightS_any _ _ _ _ _ _ _ _ _ w (hT.of_below hn hb)
    · cases hr
  · cases h
    refine ⟨⟨_, Tryd.func12, by kernel_rfl, by kernel_rfl⟩, fun args lh r hr => ?_⟩
    dsimp only at hr
    split at hr
    · obtain ⟨s, rfl, h2⟩ := slotM_some hr
      simp only [M.get_ret, Option.some.injEq] at h2; subst h2
      exact CallTo.pure (args_slot s) rfl fun w hw hb => rightR_any _ _ _ _ _ _ _ _ _ w
    · cases hr
  · cases h
    refine ⟨⟨_, Tryd.func13, by kernel_rfl, by kernel_rfl⟩, fun args lh r hr => ?_⟩
    dsimp only at hr
    split at hr
    · simp only [M.get_ret, Option.some.injEq] at hr; subst hr
      exact CallTo.pure rfl (plain_decR _) fun w hw hb => dec_any _ w (hT.of_below hn hb)
    · cases hr
  · cases h
/-- The run's facts of the two laws. -/
noncomputable def slotEnv : Env := ⟨Tryd.prog, 0, [(6, Tryd.f6), (7, Tryd.f7)], [(23, [false, false, false, true, true, false, false, false, false])], slotOrc⟩
theorem slotEnv_ok {n : Nat} {w0 : World} (hT : Tab w0) (hn : 0 < n) : EnvOK slotEnv n w0 where
  eqs := by
    intro e he
    simp only [slotEnv, List.mem_singleton] at he
    subst he
    kernel_rfl
  mixed := by kernel_rfl
  fns := by
    intro e he
    simp only [slotEnv, List.mem_cons, List.not_mem_nil, or_false] at he
    rcases he with rfl | rfl
    · exact ⟨Tryd.func6, by kernel_rfl, by kernel_rfl⟩
    · exact ⟨Tryd.func7, by kernel_rfl, by kernel_rfl⟩
  orc := slotOrc_ok hT hn
theorem VRA.plain {σ : Nat → Option Pl} (l : List Value) (h : l.all Go.Sx.plain = true) : VRA σ l.toArray l.toArray := by
  refine ⟨rfl, fun i x y hx hy => ?_⟩
  obtain rfl : x = y := Option.some.inj (hx.symm.trans hy)
  rw [List.all_eq_true] at h
  exact VR.plain σ (h x (by simpa using Array.mem_of_getElem? hx))
theorem start_hr {w : World} : HR w.heap.size w 0 (fun _ => none) [] w :=
  ⟨Nat.le_refl _, Below.refl _ _, fun g hg => by omega, fun k p h => (by cases h), fun k p h => (by cases h), fun k k' p p' h => (by cases h), fun k p h => (by cases h)⟩
end Go.Proofs.YtljgocfmmdpdfaaDoor
