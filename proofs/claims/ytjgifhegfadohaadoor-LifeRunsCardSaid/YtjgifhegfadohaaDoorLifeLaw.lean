/- The laws of life: their runs over the oracles life.Next, its reference, slot.Right. No condition of its own. -/
import Derived.Test.YtjgifhegfadohaaDoorLifeNext
namespace Go.Proofs.YtjgifhegfadohaaDoor
open Go.RowKit Go.Fld Go.Sx
set_option linter.unusedVariables false
def lawOrc : FuncId → Option (List Value → List Go.Sx.Blk → M (Value × List Go.Sx.Blk))
  | 35 => some fun args lh => match args with | [s, .int .i64 k, .int .i64 own, .int .i64 more] => slotM s fun s => .ret (decR (nextS s k own more), lh) | _ => .bad
  | 36 => some fun args lh => match args with | [s, .int .i64 k, .int .i64 own, .int .i64 more] => slotM s fun s => .ret (decR (nextS s k own more), lh) | _ => .bad
  | f => rightOrc f
theorem args_next (s : Slt) (k own more : Int) : [s.val, .int .i64 k, .int .i64 own, .int .i64 more].all plainA = true := by simp [Slt.val, plainA, plain1]
theorem lawOrc_ok {n : Nat} {w0 : World} (hT : Tab w0) (hn : 0 < n) : ∀ f F, lawOrc f = some F → (∃ fn, FnOK Tryd.prog f fn) ∧ ∀ args lh r, (F args lh).get = some r → CallTo Tryd.prog n w0 0 f args lh r := by
  intro f F h
  unfold lawOrc at h
  split at h
  · cases h
    refine ⟨⟨_, Tryd.func35, by kernel_rfl, by kernel_rfl⟩, fun args lh r hr => ?_⟩
    dsimp only at hr
    split at hr
    · obtain ⟨s, rfl, h2⟩ := slotM_some hr
      simp only [M.get_ret, Option.some.injEq] at h2; subst h2
      exact CallTo.pure (args_next _ _ _ _) (plain_decR _) fun w hw hb => life_any _ _ _ _ w (hT.of_below hn hb)
    · cases hr
  · cases h
    refine ⟨⟨_, Tryd.func36, by kernel_rfl, by kernel_rfl⟩, fun args lh r hr => ?_⟩
    dsimp only at hr
    split at hr
    · obtain ⟨s, rfl, h2⟩ := slotM_some hr
      simp only [M.get_ret, Option.some.injEq] at h2; subst h2
      exact CallTo.pure (args_next _ _ _ _) (plain_decR _) fun w hw hb => ref_any _ _ _ _ w (hT.of_below hn hb)
    · cases hr
  · exact rightOrc_ok hT hn _ F h
noncomputable def lawFns : List (FuncId × Func) := [(34, Tryd.f34), (7, Tryd.f7), (8, Tryd.f8), (9, Tryd.f9), (10, Tryd.f10), (11, Tryd.f11), (12, Tryd.f12), (13, Tryd.f13)]
noncomputable def lawEnv : Env := ⟨Tryd.prog, 0, lawFns, [slotEq], lawOrc⟩
theorem lawEnv_ok {n : Nat} {w0 : World} (hT : Tab w0) (hn : 0 < n) : EnvOK lawEnv n w0 where
  eqs := (lifeEnv_ok hT hn).eqs
  mixed := (lifeEnv_ok hT hn).mixed
  fns := fns_ok_cons ⟨Tryd.func34, by kernel_rfl, by kernel_rfl⟩ <| fns_ok_cons ⟨Tryd.func7, by kernel_rfl, by kernel_rfl⟩ <| fns_ok_cons ⟨Tryd.func8, by kernel_rfl, by kernel_rfl⟩ <| fns_ok_cons ⟨Tryd.func9, by kernel_rfl, by kernel_rfl⟩ <| fns_ok_cons ⟨Tryd.func10, by kernel_rfl, by kernel_rfl⟩ <| fns_ok_cons ⟨Tryd.func11, by kernel_rfl, by kernel_rfl⟩ <| fns_ok_cons ⟨Tryd.func12, by kernel_rfl, by kernel_rfl⟩ <| fns_ok_cons ⟨Tryd.func13, by kernel_rfl, by kernel_rfl⟩ <| fns_ok_nil rfl
  orc := lawOrc_ok hT hn
end Go.Proofs.YtjgifhegfadohaaDoor
