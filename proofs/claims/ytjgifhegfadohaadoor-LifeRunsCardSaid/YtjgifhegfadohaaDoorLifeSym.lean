/- The functions of life and its reference for the symbolic run; slot.Right and its reference as oracles. No condition of its own. -/
import Derived.Test.YtjgifhegfadohaaDoorLifeSpec
import Derived.Test.YtjgifhegfadohaaDoorSlotR
namespace Go.Proofs.YtjgifhegfadohaaDoor
open Go.RowKit Go.Fld Go.Sx
set_option linter.unusedVariables false
def rightOrc : FuncId → Option (List Value → List Go.Sx.Blk → M (Value × List Go.Sx.Blk))
  | 37 => some fun args lh => match args with | [s] => slotM s fun s => .ret (.bool (rightR s), lh) | _ => .bad
  | 46 => some fun args lh => match args with | [s] => slotM s fun s => .ret (.bool (rightR s), lh) | _ => .bad
  | _ => none
theorem isSome_encS (s : Slt) : (encS s).isSome = rightR s := by
  rw [encS_eq]; unfold encR; cases rightR s <;> rfl
theorem rightOrc_ok {n : Nat} {w0 : World} (hT : Tab w0) (hn : 0 < n) : ∀ f F, rightOrc f = some F → (∃ fn, FnOK Tryd.prog f fn) ∧ ∀ args lh r, (F args lh).get = some r → CallTo Tryd.prog n w0 0 f args lh r := by
  intro f F h
  unfold rightOrc at h
  split at h
  · cases h
    refine ⟨⟨_, Tryd.func37, by kernel_rfl, by kernel_rfl⟩, fun args lh r hr => ?_⟩
    dsimp only at hr
    split at hr
    · obtain ⟨s, rfl, h2⟩ := slotM_some hr
      simp only [M.get_ret, Option.some.injEq] at h2; subst h2
      exact CallTo.pure (args_slot s) rfl fun w hw hb => by rw [← isSome_encS]; exact rightS_any _ _ _ _ _ _ _ _ _ w (hT.of_below hn hb)
    · cases hr
  · cases h
    refine ⟨⟨_, Tryd.func46, by kernel_rfl, by kernel_rfl⟩, fun args lh r hr => ?_⟩
    dsimp only at hr
    split at hr
    · obtain ⟨s, rfl, h2⟩ := slotM_some hr
      simp only [M.get_ret, Option.some.injEq] at h2; subst h2
      exact CallTo.pure (args_slot s) rfl fun w hw hb => rightR_any _ _ _ _ _ _ _ _ _ w
    · cases hr
  · cases h
noncomputable def lifeFns : List (FuncId × Func) := [(35, Tryd.f35), (45, Tryd.f45), (50, Tryd.f50), (51, Tryd.f51), (52, Tryd.f52), (53, Tryd.f53), (54, Tryd.f54), (55, Tryd.f55), (56, Tryd.f56), (57, Tryd.f57), (58, Tryd.f58), (59, Tryd.f59), (60, Tryd.f60), (61, Tryd.f61), (62, Tryd.f62), (63, Tryd.f63), (64, Tryd.f64), (65, Tryd.f65), (66, Tryd.f66), (67, Tryd.f67), (78, Tryd.f78), (79, Tryd.f79), (80, Tryd.f80), (81, Tryd.f81), (82, Tryd.f82), (83, Tryd.f83), (36, Tryd.f36), (47, Tryd.f47), (69, Tryd.f69), (70, Tryd.f70), (71, Tryd.f71), (72, Tryd.f72)]
def slotEq : TypeId × List Bool := (46, [false, false, false, true, true, false, false, false, false])
noncomputable def lifeEnv : Env := ⟨Tryd.prog, 0, lifeFns, [slotEq], rightOrc⟩
theorem fns_ok_nil {P : Program} {l : List (FuncId × Func)} (h : l = []) : ∀ e ∈ l, FnOK P e.1 e.2 := by subst h; intro e he; cases he
theorem fns_ok_cons {P : Program} {f : FuncId} {fn : Func} {l : List (FuncId × Func)} (h1 : FnOK P f fn) (h : ∀ e ∈ l, FnOK P e.1 e.2) : ∀ e ∈ (f, fn) :: l, FnOK P e.1 e.2 := by
  intro e he
  rcases List.mem_cons.1 he with rfl | he
  · exact h1
  · exact h e he
theorem lifeEnv_ok {n : Nat} {w0 : World} (hT : Tab w0) (hn : 0 < n) : EnvOK lifeEnv n w0 where
  eqs := by
    intro e he
    simp only [lifeEnv, List.mem_singleton] at he
    subst he
    kernel_rfl
  mixed := by kernel_rfl
  fns := 
    fns_ok_cons ⟨Tryd.func35, by kernel_rfl, by kernel_rfl⟩ <| fns_ok_cons ⟨Tryd.func45, by kernel_rfl, by kernel_rfl⟩ <| fns_ok_cons ⟨Tryd.func50, by kernel_rfl, by kernel_rfl⟩ <| fns_ok_cons ⟨Tryd.func51, by kernel_rfl, by kernel_rfl⟩ <| fns_ok_cons ⟨Tryd.func52, by kernel_rfl, by kernel_rfl⟩ <| fns_ok_cons ⟨Tryd.func53, by kernel_rfl, by kernel_rfl⟩ <| fns_ok_cons ⟨Tryd.func54, by kernel_rfl, by kernel_rfl⟩ <| fns_ok_cons ⟨Tryd.func55, by kernel_rfl, by kernel_rfl⟩ <| fns_ok_cons ⟨Tryd.func56, by kernel_rfl, by kernel_rfl⟩ <| fns_ok_cons ⟨Tryd.func57, by kernel_rfl, by kernel_rfl⟩ <| fns_ok_cons ⟨Tryd.func58, by kernel_rfl, by kernel_rfl⟩ <| fns_ok_cons ⟨Tryd.func59, by kernel_rfl, by kernel_rfl⟩ <| fns_ok_cons ⟨Tryd.func60, by kernel_rfl, by kernel_rfl⟩ <| fns_ok_cons ⟨Tryd.func61, by kernel_rfl, by kernel_rfl⟩ <| fns_ok_cons ⟨Tryd.func62, by kernel_rfl, by kernel_rfl⟩ <| fns_ok_cons ⟨Tryd.func63, by kernel_rfl, by kernel_rfl⟩ <| fns_ok_cons ⟨Tryd.func64, by kernel_rfl, by kernel_rfl⟩ <| fns_ok_cons ⟨Tryd.func65, by kernel_rfl, by kernel_rfl⟩ <| fns_ok_cons ⟨Tryd.func66, by kernel_rfl, by kernel_rfl⟩ <| fns_ok_cons ⟨Tryd.func67, by kernel_rfl, by kernel_rfl⟩ <| fns_ok_cons ⟨Tryd.func78, by kernel_rfl, by kernel_rfl⟩ <| fns_ok_cons ⟨Tryd.func79, by kernel_rfl, by kernel_rfl⟩ <| fns_ok_cons ⟨Tryd.func80, by kernel_rfl, by kernel_rfl⟩ <| fns_ok_cons ⟨Tryd.func81, by kernel_rfl, by kernel_rfl⟩ <| fns_ok_cons ⟨Tryd.func82, by kernel_rfl, by kernel_rfl⟩ <| fns_ok_cons ⟨Tryd.func83, by kernel_rfl, by kernel_rfl⟩ <| fns_ok_cons ⟨Tryd.func36, by kernel_rfl, by kernel_rfl⟩ <| fns_ok_cons ⟨Tryd.func47, by kernel_rfl, by kernel_rfl⟩ <| fns_ok_cons ⟨Tryd.func69, by kernel_rfl, by kernel_rfl⟩ <| fns_ok_cons ⟨Tryd.func70, by kernel_rfl, by kernel_rfl⟩ <| fns_ok_cons ⟨Tryd.func71, by kernel_rfl, by kernel_rfl⟩ <| fns_ok_cons ⟨Tryd.func72, by kernel_rfl, by kernel_rfl⟩ <| fns_ok_nil rfl
  orc := rightOrc_ok hT hn

noncomputable def lowOK (n : Nat) : Bool := match (call lifeEnv 60 71 [.int .i64 n] []).run (Option Value) none (fun r => some r.1) with | some (.int .i64 x) => decide (x = lowI n) | _ => false
theorem low_all : (List.range 256).all lowOK = true := by kernel_rfl
noncomputable def powOK (n : Nat) : Bool := match (call lifeEnv 60 72 [.int .i64 n] []).run (Option Value) none (fun r => some r.1) with | some (.int .i64 x) => decide (x = 2 ^ n) | _ => false
theorem pow_all : (List.range 9).all powOK = true := by kernel_rfl
theorem low_any (n : Int) (hn : in255 n = true) (w : World) (hT : Tab w) : Calls Tryd.prog 71 #[.int .i64 n] w fun e w' => e = .returned (.int .i64 (lowI n)) ∧ Below w.heap.size w w' := by
  simp only [in255, Bool.and_eq_true, decide_eq_true_eq] at hn
  have h := List.all_eq_true.1 low_all n.toNat (List.mem_range.2 (by omega))
  unfold lowOK at h
  rw [show ((n.toNat : Nat) : Int) = n by omega] at h
  refine call_value (lifeEnv_ok hT hT.lt) (fuel := 60) (args := [.int .i64 n]) (lh := []) ?_ rfl start_hr (VRA.plain [.int .i64 n] rfl)
  split at h
  · rename_i x hx
    rw [hx, of_decide_eq_true h]
  · cases h
theorem power_any (n : Int) (hn : in8 n = true) (w : World) (hT : Tab w) : Calls Tryd.prog 72 #[.int .i64 n] w fun e w' => e = .returned (.int .i64 (2 ^ n.toNat)) ∧ Below w.heap.size w w' := by
  simp only [in8, Bool.and_eq_true, decide_eq_true_eq] at hn
  have h := List.all_eq_true.1 pow_all n.toNat (List.mem_range.2 (by omega))
  unfold powOK at h
  rw [show ((n.toNat : Nat) : Int) = n by omega] at h
  refine call_value (lifeEnv_ok hT hT.lt) (fuel := 60) (args := [.int .i64 n]) (lh := []) ?_ rfl start_hr (VRA.plain [.int .i64 n] rfl)
  split at h
  · rename_i x hx
    rw [hx, of_decide_eq_true h]
  · cases h
def refOrc : FuncId → Option (List Value → List Go.Sx.Blk → M (Value × List Go.Sx.Blk))
  | 71 => some fun args lh => match args with | [.int .i64 n] => .br (in255 n) (.ret (.int .i64 (lowI n), lh)) .bad | _ => .bad
  | 72 => some fun args lh => match args with | [.int .i64 n] => .br (in8 n) (.ret (.int .i64 (2 ^ n.toNat), lh)) .bad | _ => .bad
  | f => rightOrc f
noncomputable def refEnv : Env := ⟨Tryd.prog, 0, lifeFns, [slotEq], refOrc⟩
theorem refOrc_ok {n : Nat} {w0 : World} (hT : Tab w0) (hn : 0 < n) : ∀ f F, refOrc f = some F → (∃ fn, FnOK Tryd.prog f fn) ∧ ∀ args lh r, (F args lh).get = some r → CallTo Tryd.prog n w0 0 f args lh r := by
  intro f F h
  unfold refOrc at h
  split at h
  · cases h
    refine ⟨⟨_, Tryd.func71, by kernel_rfl, by kernel_rfl⟩, fun args lh r hr => ?_⟩
    dsimp only at hr
    split at hr
    · rcases M.get_br_some hr with ⟨hc, h2⟩ | ⟨hc, h2⟩
      · simp only [M.get_ret, Option.some.injEq] at h2; subst h2
        exact CallTo.pure rfl rfl fun w hw hb => low_any _ hc w (hT.of_below hn hb)
      · cases h2
    · cases hr
  · cases h
    refine ⟨⟨_, Tryd.func72, by kernel_rfl, by kernel_rfl⟩, fun args lh r hr => ?_⟩
    dsimp only at hr
    split at hr
    · rcases M.get_br_some hr with ⟨hc, h2⟩ | ⟨hc, h2⟩
      · simp only [M.get_ret, Option.some.injEq] at h2; subst h2
        exact CallTo.pure rfl rfl fun w hw hb => power_any _ hc w (hT.of_below hn hb)
      · cases h2
    · cases hr
  · exact rightOrc_ok hT hn _ F h
theorem refEnv_ok {n : Nat} {w0 : World} (hT : Tab w0) (hn : 0 < n) : EnvOK refEnv n w0 where
  eqs := (lifeEnv_ok hT hn).eqs
  mixed := (lifeEnv_ok hT hn).mixed
  fns := (lifeEnv_ok hT hn).fns
  orc := refOrc_ok hT hn
end Go.Proofs.YtjgifhegfadohaaDoor
