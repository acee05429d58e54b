
/- The functions of life and its reference for the symbolic run; slot.Right and its reference as oracles. No condition of its own. -/
import Derived.Test.YthfoljgaiincdaaDoorLifeSpec
import Derived.Test.YthfoljgaiincdaaDoorSlotR
namespace Go.Proofs.YthfoljgaiincdaaDoor
open Go.RowKit Go.Fld Go.Sx
set_option linter.unusedVariables false
set_option linter.unusedSimpArgs false
def rightO : Orc := fun args lh => match args with | [s] => slotM s fun s => .ret (.bool (rightR s), lh) | _ => .bad
theorem isSome_encS (s : Slt) : (encS s).isSome = rightR s := by
  rw [encS_eq]; unfold encR; cases rightR s <;> rfl
theorem rightO_sound : Sound Tryd.prog Tab 76 rightO := by
  refine Sound.pure ⟨Tryd.func76, by kernel_rfl, by kernel_rfl⟩ fun args lh r hr => ?_
  unfold rightO at hr
  split at hr
  · obtain ⟨s, rfl, h2⟩ := slotM_some hr
    simp only [M.get_ret, Option.some.injEq] at h2; subst h2
    exact ⟨rfl, args_slot s, rfl, fun w hT => by rw [← isSome_encS]; exact rightS_any _ _ _ _ _ _ _ _ _ w hT⟩
  · cases hr
theorem rightQ_sound : Sound Tryd.prog Tab 68 rightO := by
  refine Sound.pure ⟨Tryd.func68, by kernel_rfl, by kernel_rfl⟩ fun args lh r hr => ?_
  unfold rightO at hr
  split at hr
  · obtain ⟨s, rfl, h2⟩ := slotM_some hr
    simp only [M.get_ret, Option.some.injEq] at h2; subst h2
    exact ⟨rfl, args_slot s, rfl, fun w hT => rightR_any _ _ _ _ _ _ _ _ _ w⟩
  · cases hr
def rightOrcs : List (FuncId × Orc) := [(76, rightO), (68, rightO)]
theorem rightOrcs_ok : Sounds Tryd.prog Tab rightOrcs := sounds_cons rightO_sound <| sounds_cons rightQ_sound sounds_nil
noncomputable def lifeFns : List (FuncId × Func) := [(59, Tryd.f59), (75, Tryd.f75), (90, Tryd.f90), (91, Tryd.f91), (92, Tryd.f92), (93, Tryd.f93), (94, Tryd.f94), (95, Tryd.f95), (96, Tryd.f96), (97, Tryd.f97), (98, Tryd.f98), (99, Tryd.f99), (100, Tryd.f100), (101, Tryd.f101), (102, Tryd.f102), (103, Tryd.f103), (104, Tryd.f104), (105, Tryd.f105), (106, Tryd.f106), (107, Tryd.f107), (114, Tryd.f114), (115, Tryd.f115), (116, Tryd.f116), (117, Tryd.f117), (118, Tryd.f118), (119, Tryd.f119)]
def slotEq : TypeId × List Bool := (49, [false, false, false, true, true, false, false, false, false])
noncomputable def lifeEnv : Env := mkEnv Tryd.prog lifeFns [slotEq] rightOrcs []
theorem slotEq_ok : ∀ e ∈ [slotEq], eqTypeOK Tryd.prog e.1 e.2 = true := by
  intro e he
  rw [List.mem_singleton] at he
  subst he
  kernel_rfl
theorem lifeFns_ok : ∀ e ∈ lifeFns, FnOK Tryd.prog e.1 e.2 :=
    fns_ok_cons ⟨Tryd.func59, by kernel_rfl, by kernel_rfl⟩ <| fns_ok_cons ⟨Tryd.func75, by kernel_rfl, by kernel_rfl⟩ <| fns_ok_cons ⟨Tryd.func90, by kernel_rfl, by kernel_rfl⟩ <| fns_ok_cons ⟨Tryd.func91, by kernel_rfl, by kernel_rfl⟩ <| fns_ok_cons ⟨Tryd.func92, by kernel_rfl, by kernel_rfl⟩ <| fns_ok_cons ⟨Tryd.func93, by kernel_rfl, by kernel_rfl⟩ <| fns_ok_cons ⟨Tryd.func94, by kernel_rfl, by kernel_rfl⟩ <| fns_ok_cons ⟨Tryd.func95, by kernel_rfl, by kernel_rfl⟩ <| fns_ok_cons ⟨Tryd.func96, by kernel_rfl, by kernel_rfl⟩ <| fns_ok_cons ⟨Tryd.func97, by kernel_rfl, by kernel_rfl⟩ <| fns_ok_cons ⟨Tryd.func98, by kernel_rfl, by kernel_rfl⟩ <| fns_ok_cons ⟨Tryd.func99, by kernel_rfl, by kernel_rfl⟩ <| fns_ok_cons ⟨Tryd.func100, by kernel_rfl, by kernel_rfl⟩ <| fns_ok_cons ⟨Tryd.func101, by kernel_rfl, by kernel_rfl⟩ <| fns_ok_cons ⟨Tryd.func102, by kernel_rfl, by kernel_rfl⟩ <| fns_ok_cons ⟨Tryd.func103, by kernel_rfl, by kernel_rfl⟩ <| fns_ok_cons ⟨Tryd.func104, by kernel_rfl, by kernel_rfl⟩ <| fns_ok_cons ⟨Tryd.func105, by kernel_rfl, by kernel_rfl⟩ <| fns_ok_cons ⟨Tryd.func106, by kernel_rfl, by kernel_rfl⟩ <| fns_ok_cons ⟨Tryd.func107, by kernel_rfl, by kernel_rfl⟩ <| fns_ok_cons ⟨Tryd.func114, by kernel_rfl, by kernel_rfl⟩ <| fns_ok_cons ⟨Tryd.func115, by kernel_rfl, by kernel_rfl⟩ <| fns_ok_cons ⟨Tryd.func116, by kernel_rfl, by kernel_rfl⟩ <| fns_ok_cons ⟨Tryd.func117, by kernel_rfl, by kernel_rfl⟩ <| fns_ok_cons ⟨Tryd.func118, by kernel_rfl, by kernel_rfl⟩ <| fns_ok_cons ⟨Tryd.func119, by kernel_rfl, by kernel_rfl⟩ <| fns_ok_nil rfl
theorem lifeEnv_ok (X : Nat → Prop) (w0 : World) (h0 : X 0) (hB : Bnd X w0) (hT : Tab w0) : EnvOK lifeEnv X w0 := mkEnv_ok slotEq_ok (by kernel_rfl) lifeFns_ok rightOrcs_ok lpSounds_nil h0 hB hT

def lowO : Orc := fun args lh => match args with | [.int .i64 n] => .br (in255 n) (.ret (.int .i64 (lowI n), lh)) .bad | _ => .bad
def powO : Orc := fun args lh => match args with | [.int .i64 n] => .br (in8 n) (.ret (.int .i64 (2 ^ n.toNat), lh)) .bad | _ => .bad
def refOrcs : List (FuncId × Orc) := [(68, rightO)]
noncomputable def refEnv : Env := mkEnv Tryd.prog lifeFns [slotEq] refOrcs []
theorem refEnv_ok (X : Nat → Prop) (w0 : World) (h0 : X 0) (hB : Bnd X w0) (hT : Tab w0) : EnvOK refEnv X w0 := mkEnv_ok slotEq_ok (by kernel_rfl) lifeFns_ok (sounds_cons rightQ_sound sounds_nil) lpSounds_nil h0 hB hT
end Go.Proofs.YthfoljgaiincdaaDoor
