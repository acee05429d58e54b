/- The laws of retire: what they run over. No condition of its own. -/
import Derived.Test.YtcakklnacnnlaaaDoorRetA
import Derived.Test.YtcakklnacnnlaaaDoorLaid16
namespace Go.Proofs.YtcakklnacnnlaaaDoor
open Go.RowKit Go.Fld Go.Sx
set_option linter.unusedVariables false
set_option linter.unusedSimpArgs false
noncomputable def awFns : List (FuncId × Func) := [(36, Tryd.f36), (37, Tryd.f37), (39, Tryd.f39), (43, Tryd.f43)]
theorem awFns_ok : ∀ e ∈ awFns, FnOK Tryd.prog e.1 e.2 :=
  fns_ok_cons ⟨Tryd.func36, by kernel_rfl, by kernel_rfl⟩ <| fns_ok_cons ⟨Tryd.func37, by kernel_rfl, by kernel_rfl⟩ <| fns_ok_cons ⟨Tryd.func39, by kernel_rfl, by kernel_rfl⟩ <| fns_ok_cons ⟨Tryd.func43, by kernel_rfl, by kernel_rfl⟩ <| fns_ok_nil rfl
def aw1 : List (FuncId × Orc) := retOrcs ++ wordOrcs ++ memOrcs ++ confOrcs
theorem aw1_ok : Sounds Tryd.prog Tab aw1 := sounds_append (sounds_append (sounds_append retOrcs_ok wordOrcs_ok) memOrcs_ok) confOrcs_ok
noncomputable def awEnv : Env := mkEnv Tryd.prog awFns [] aw1 []
theorem awEnv_ok (X : Nat → Prop) (w0 : World) (h0 : X 0) (hB : Bnd X w0) (hT : Tab w0) : EnvOK awEnv X w0 := mkEnv_ok (fun e he => by cases he) (by kernel_rfl) awFns_ok aw1_ok lpSounds_nil h0 hB hT
theorem awake_tree : (callV awEnv 60 36 [] []).get = some (.bool true, []) := by kernel_rfl
def awakeO : Orc := fun args lh => match args with | [] => .ret (.bool true, lh) | _ => .bad
theorem awake_sound : Sound Tryd.prog Tab 36 awakeO := by
  refine Sound.of_empty ⟨Tryd.func36, by kernel_rfl, by kernel_rfl⟩ rfl rfl awEnv_ok 60 fun args lh r hr => ?_
  unfold awakeO at hr
  split at hr
  · simp only [M.get_ret, Option.some.injEq] at hr; subst hr
    exact ⟨rfl, rfl, rfl, by simp [undef], awake_tree⟩
  · cases hr
noncomputable def rlFns : List (FuncId × Func) := [(9, Tryd.f9), (10, Tryd.f10), (11, Tryd.f11), (12, Tryd.f12), (39, Tryd.f39), (43, Tryd.f43), (45, Tryd.f45)]
theorem rlFns_ok : ∀ e ∈ rlFns, FnOK Tryd.prog e.1 e.2 :=
  fns_ok_cons ⟨Tryd.func9, by kernel_rfl, by kernel_rfl⟩ <| fns_ok_cons ⟨Tryd.func10, by kernel_rfl, by kernel_rfl⟩ <| fns_ok_cons ⟨Tryd.func11, by kernel_rfl, by kernel_rfl⟩ <| fns_ok_cons ⟨Tryd.func12, by kernel_rfl, by kernel_rfl⟩ <| fns_ok_cons ⟨Tryd.func39, by kernel_rfl, by kernel_rfl⟩ <| fns_ok_cons ⟨Tryd.func43, by kernel_rfl, by kernel_rfl⟩ <| fns_ok_cons ⟨Tryd.func45, by kernel_rfl, by kernel_rfl⟩ <| fns_ok_nil rfl
def rl1 : List (FuncId × Orc) := [(36, awakeO), (37, frameM laidO), (46, frameM wrO), (31, frameM wrqO), (16, frameM madeO)] ++ retOrcs ++ memOrcs ++ confOrcs ++ refMemOrcs ++ wordOrcs ++ intsOrcs
theorem rl1_ok : Sounds Tryd.prog Tab rl1 := sounds_append (sounds_append (sounds_append (sounds_append (sounds_append (sounds_append (sounds_cons awake_sound <| sounds_cons (laid_sound.frame tab_kept) <| sounds_cons (wr_sound.frame tab_kept) <| sounds_cons (wrq_sound.frame tab_kept) <| sounds_cons (made_sound.frame tab_kept) sounds_nil) retOrcs_ok) memOrcs_ok) confOrcs_ok) refMemOrcs_ok) wordOrcs_ok) intsOrcs_ok
noncomputable def rlEnv : Env := mkEnv Tryd.prog rlFns [slotEq] rl1 []
theorem rlEnv_ok (X : Nat → Prop) (w0 : World) (h0 : X 0) (hB : Bnd X w0) (hT : Tab w0) : EnvOK rlEnv X w0 := mkEnv_ok slotEq_ok (by kernel_rfl) rlFns_ok rl1_ok lpSounds_nil h0 hB hT
end Go.Proofs.YtcakklnacnnlaaaDoor
