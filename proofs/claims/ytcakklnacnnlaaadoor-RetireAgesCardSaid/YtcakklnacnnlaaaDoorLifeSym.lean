/- The functions of life and its reference for the symbolic run; slot.Right and its reference as oracles. No condition of its own. -/
import Derived.Test.YtcakklnacnnlaaaDoorLifeSpec
import Derived.Test.YtcakklnacnnlaaaDoorSlotR
namespace Go.Proofs.YtcakklnacnnlaaaDoor
open Go.RowKit Go.Fld Go.Sx
set_option linter.unusedVariables false
set_option linter.unusedSimpArgs false
def rightO : Orc := fun args lh => match args with | [s] => slotM s fun s => .ret (.bool (rightR s), lh) | _ => .bad
theorem isSome_encS (s : Slt) : (encS s).isSome = rightR s := by
  rw [encS_eq]; unfold encR; cases rightR s <;> rfl
theorem rightO_sound : Sound Tryd.prog Tab 104 rightO := by
  refine Sound.pure ⟨Tryd.func104, by kernel_rfl, by kernel_rfl⟩ fun args lh r hr => ?_
  unfold rightO at hr
  split at hr
  · obtain ⟨s, rfl, h2⟩ := slotM_some hr
    simp only [M.get_ret, Option.some.injEq] at h2; subst h2
    exact ⟨rfl, args_slot s, rfl, fun w hT => by rw [← isSome_encS]; exact rightS_any _ _ _ _ _ _ _ _ _ w hT⟩
  · cases hr
theorem rightQ_sound : Sound Tryd.prog Tab 60 rightO := by
  refine Sound.pure ⟨Tryd.func60, by kernel_rfl, by kernel_rfl⟩ fun args lh r hr => ?_
  unfold rightO at hr
  split at hr
  · obtain ⟨s, rfl, h2⟩ := slotM_some hr
    simp only [M.get_ret, Option.some.injEq] at h2; subst h2
    exact ⟨rfl, args_slot s, rfl, fun w hT => rightR_any _ _ _ _ _ _ _ _ _ w⟩
  · cases hr
def rightOrcs : List (FuncId × Orc) := [(104, rightO), (60, rightO)]
theorem rightOrcs_ok : Sounds Tryd.prog Tab rightOrcs := sounds_cons rightO_sound <| sounds_cons rightQ_sound sounds_nil
noncomputable def lifeFns : List (FuncId × Func) := [(96, Tryd.f96), (103, Tryd.f103), (112, Tryd.f112), (113, Tryd.f113), (114, Tryd.f114), (115, Tryd.f115), (116, Tryd.f116), (117, Tryd.f117), (118, Tryd.f118), (119, Tryd.f119), (120, Tryd.f120), (121, Tryd.f121), (122, Tryd.f122), (123, Tryd.f123), (124, Tryd.f124), (125, Tryd.f125), (126, Tryd.f126), (127, Tryd.f127), (128, Tryd.f128), (129, Tryd.f129), (131, Tryd.f131), (132, Tryd.f132), (133, Tryd.f133), (134, Tryd.f134), (135, Tryd.f135), (136, Tryd.f136), (89, Tryd.f89), (99, Tryd.f99), (106, Tryd.f106), (107, Tryd.f107), (108, Tryd.f108), (109, Tryd.f109)]
def slotEq : TypeId × List Bool := (23, [false, false, false, true, true, false, false, false, false])
noncomputable def lifeEnv : Env := mkEnv Tryd.prog lifeFns [slotEq] rightOrcs []
theorem slotEq_ok : ∀ e ∈ [slotEq], eqTypeOK Tryd.prog e.1 e.2 = true := by
  intro e he
  rw [List.mem_singleton] at he
  subst he
  kernel_rfl
theorem lifeFns_ok : ∀ e ∈ lifeFns, FnOK Tryd.prog e.1 e.2 :=
    fns_ok_cons ⟨Tryd.func96, by kernel_rfl, by kernel_rfl⟩ <| fns_ok_cons ⟨Tryd.func103, by kernel_rfl, by kernel_rfl⟩ <| fns_ok_cons ⟨Tryd.func112, by kernel_rfl, by kernel_rfl⟩ <| fns_ok_cons ⟨Tryd.func113, by kernel_rfl, by kernel_rfl⟩ <| fns_ok_cons ⟨Tryd.func114, by kernel_rfl, by kernel_rfl⟩ <| fns_ok_cons ⟨Tryd.func115, by kernel_rfl, by kernel_rfl⟩ <| fns_ok_cons ⟨Tryd.func116, by kernel_rfl, by kernel_rfl⟩ <| fns_ok_cons ⟨Tryd.func117, by kernel_rfl, by kernel_rfl⟩ <| fns_ok_cons ⟨Tryd.func118, by kernel_rfl, by kernel_rfl⟩ <| fns_ok_cons ⟨Tryd.func119, by kernel_rfl, by kernel_rfl⟩ <| fns_ok_cons ⟨Tryd.func120, by kernel_rfl, by kernel_rfl⟩ <| fns_ok_cons ⟨Tryd.func121, by kernel_rfl, by kernel_rfl⟩ <| fns_ok_cons ⟨Tryd.func122, by kernel_rfl, by kernel_rfl⟩ <| fns_ok_cons ⟨Tryd.func123, by kernel_rfl, by kernel_rfl⟩ <| fns_ok_cons ⟨Tryd.func124, by kernel_rfl, by kernel_rfl⟩ <| fns_ok_cons ⟨Tryd.func125, by kernel_rfl, by kernel_rfl⟩ <| fns_ok_cons ⟨Tryd.func126, by kernel_rfl, by kernel_rfl⟩ <| fns_ok_cons ⟨Tryd.func127, by kernel_rfl, by kernel_rfl⟩ <| fns_ok_cons ⟨Tryd.func128, by kernel_rfl, by kernel_rfl⟩ <| fns_ok_cons ⟨Tryd.func129, by kernel_rfl, by kernel_rfl⟩ <| fns_ok_cons ⟨Tryd.func131, by kernel_rfl, by kernel_rfl⟩ <| fns_ok_cons ⟨Tryd.func132, by kernel_rfl, by kernel_rfl⟩ <| fns_ok_cons ⟨Tryd.func133, by kernel_rfl, by kernel_rfl⟩ <| fns_ok_cons ⟨Tryd.func134, by kernel_rfl, by kernel_rfl⟩ <| fns_ok_cons ⟨Tryd.func135, by kernel_rfl, by kernel_rfl⟩ <| fns_ok_cons ⟨Tryd.func136, by kernel_rfl, by kernel_rfl⟩ <| fns_ok_cons ⟨Tryd.func89, by kernel_rfl, by kernel_rfl⟩ <| fns_ok_cons ⟨Tryd.func99, by kernel_rfl, by kernel_rfl⟩ <| fns_ok_cons ⟨Tryd.func106, by kernel_rfl, by kernel_rfl⟩ <| fns_ok_cons ⟨Tryd.func107, by kernel_rfl, by kernel_rfl⟩ <| fns_ok_cons ⟨Tryd.func108, by kernel_rfl, by kernel_rfl⟩ <| fns_ok_cons ⟨Tryd.func109, by kernel_rfl, by kernel_rfl⟩ <| fns_ok_nil rfl
theorem lifeEnv_ok (X : Nat → Prop) (w0 : World) (h0 : X 0) (hB : Bnd X w0) (hT : Tab w0) : EnvOK lifeEnv X w0 := mkEnv_ok slotEq_ok (by kernel_rfl) lifeFns_ok rightOrcs_ok lpSounds_nil h0 hB hT

noncomputable def lowOK (n : Nat) : Bool := match (call lifeEnv 60 108 [.int .i64 n] []).run (Option Value) none (fun r => some r.1) with | some (.int .i64 x) => decide (x = lowI n) | _ => false
theorem low_all : (List.range 256).all lowOK = true := by kernel_rfl
noncomputable def powOK (n : Nat) : Bool := match (call lifeEnv 60 109 [.int .i64 n] []).run (Option Value) none (fun r => some r.1) with | some (.int .i64 x) => decide (x = 2 ^ n) | _ => false
theorem pow_all : (List.range 9).all powOK = true := by kernel_rfl
theorem low_any (n : Int) (hn : in255 n = true) (w : World) (hT : Tab w) : Calls Tryd.prog 108 #[.int .i64 n] w fun e w' => e = .returned (.int .i64 (lowI n)) ∧ Below w.heap.size w w' := by
  simp only [in255, Bool.and_eq_true, decide_eq_true_eq] at hn
  have h := List.all_eq_true.1 low_all n.toNat (List.mem_range.2 (by omega))
  unfold lowOK at h
  rw [show ((n.toNat : Nat) : Int) = n by omega] at h
  refine call_start (lifeEnv_ok _ w hT.lt (bnd_self w) hT) rfl (fuel := 60) (args := [.int .i64 n]) ?_ rfl (by simp [undef]) rfl
  split at h
  · rename_i x hx
    rw [hx, of_decide_eq_true h]
  · cases h
theorem power_any (n : Int) (hn : in8 n = true) (w : World) (hT : Tab w) : Calls Tryd.prog 109 #[.int .i64 n] w fun e w' => e = .returned (.int .i64 (2 ^ n.toNat)) ∧ Below w.heap.size w w' := by
  simp only [in8, Bool.and_eq_true, decide_eq_true_eq] at hn
  have h := List.all_eq_true.1 pow_all n.toNat (List.mem_range.2 (by omega))
  unfold powOK at h
  rw [show ((n.toNat : Nat) : Int) = n by omega] at h
  refine call_start (lifeEnv_ok _ w hT.lt (bnd_self w) hT) rfl (fuel := 60) (args := [.int .i64 n]) ?_ rfl (by simp [undef]) rfl
  split at h
  · rename_i x hx
    rw [hx, of_decide_eq_true h]
  · cases h
def lowO : Orc := fun args lh => match args with | [.int .i64 n] => .br (in255 n) (.ret (.int .i64 (lowI n), lh)) .bad | _ => .bad
def powO : Orc := fun args lh => match args with | [.int .i64 n] => .br (in8 n) (.ret (.int .i64 (2 ^ n.toNat), lh)) .bad | _ => .bad
theorem lowO_sound : Sound Tryd.prog Tab 108 lowO := by
  refine Sound.pure ⟨Tryd.func108, by kernel_rfl, by kernel_rfl⟩ fun args lh r hr => ?_
  unfold lowO at hr
  split at hr
  · rcases M.get_br_some hr with ⟨hc, h2⟩ | ⟨hc, h2⟩
    · simp only [M.get_ret, Option.some.injEq] at h2; subst h2
      exact ⟨rfl, rfl, rfl, fun w hT => low_any _ hc w hT⟩
    · cases h2
  · cases hr
theorem powO_sound : Sound Tryd.prog Tab 109 powO := by
  refine Sound.pure ⟨Tryd.func109, by kernel_rfl, by kernel_rfl⟩ fun args lh r hr => ?_
  unfold powO at hr
  split at hr
  · rcases M.get_br_some hr with ⟨hc, h2⟩ | ⟨hc, h2⟩
    · simp only [M.get_ret, Option.some.injEq] at h2; subst h2
      exact ⟨rfl, rfl, rfl, fun w hT => power_any _ hc w hT⟩
    · cases h2
  · cases hr
def refOrcs : List (FuncId × Orc) := [(108, lowO), (109, powO), (60, rightO)]
noncomputable def refEnv : Env := mkEnv Tryd.prog lifeFns [slotEq] refOrcs []
theorem refEnv_ok (X : Nat → Prop) (w0 : World) (h0 : X 0) (hB : Bnd X w0) (hT : Tab w0) : EnvOK refEnv X w0 := mkEnv_ok slotEq_ok (by kernel_rfl) lifeFns_ok (sounds_cons lowO_sound <| sounds_cons powO_sound <| sounds_cons rightQ_sound sounds_nil) lpSounds_nil h0 hB hT
end Go.Proofs.YtcakklnacnnlaaaDoor
