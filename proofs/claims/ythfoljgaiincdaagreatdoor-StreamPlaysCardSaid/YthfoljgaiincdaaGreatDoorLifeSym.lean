
/- The functions of life and its reference for the symbolic run; slot.Right and its reference as oracles. No condition of its own. -/
import Derived.Test.YthfoljgaiincdaaGreatDoorLifeSpec
import Derived.Test.YthfoljgaiincdaaGreatDoorSlotR
namespace Go.Proofs.YthfoljgaiincdaaGreatDoor
open Go.RowKit Go.Fld Go.Sx
set_option linter.unusedVariables false
set_option linter.unusedSimpArgs false
def rightO : Orc := fun args lh => match args with | [s] => slotM s fun s => .ret (.bool (rightR s), lh) | _ => .bad
theorem isSome_encS (s : Slt) : (encS s).isSome = rightR s := by
  rw [encS_eq]; unfold encR; cases rightR s <;> rfl
theorem rightO_sound : Sound Tryz.prog Tab 69 rightO := by
  refine Sound.pure ⟨Tryz.func69, by kernel_rfl, by kernel_rfl⟩ fun args lh r hr => ?_
  unfold rightO at hr
  split at hr
  · obtain ⟨s, rfl, h2⟩ := slotM_some hr
    simp only [M.get_ret, Option.some.injEq] at h2; subst h2
    exact ⟨rfl, args_slot s, rfl, fun w hT => by rw [← isSome_encS]; exact rightS_any _ _ _ _ _ _ _ _ _ w hT⟩
  · cases hr
theorem rightQ_sound : Sound Tryz.prog Tab 62 rightO := by
  refine Sound.pure ⟨Tryz.func62, by kernel_rfl, by kernel_rfl⟩ fun args lh r hr => ?_
  unfold rightO at hr
  split at hr
  · obtain ⟨s, rfl, h2⟩ := slotM_some hr
    simp only [M.get_ret, Option.some.injEq] at h2; subst h2
    exact ⟨rfl, args_slot s, rfl, fun w hT => rightR_any _ _ _ _ _ _ _ _ _ w⟩
  · cases hr
def rightOrcs : List (FuncId × Orc) := [(69, rightO), (62, rightO)]
theorem rightOrcs_ok : Sounds Tryz.prog Tab rightOrcs := sounds_cons rightO_sound <| sounds_cons rightQ_sound sounds_nil
noncomputable def lifeFns : List (FuncId × Func) := [(39, Tryz.f39), (68, Tryz.f68), (85, Tryz.f85), (86, Tryz.f86), (87, Tryz.f87), (88, Tryz.f88), (89, Tryz.f89), (90, Tryz.f90), (91, Tryz.f91), (92, Tryz.f92), (93, Tryz.f93), (94, Tryz.f94), (95, Tryz.f95), (96, Tryz.f96), (97, Tryz.f97), (98, Tryz.f98), (99, Tryz.f99), (100, Tryz.f100), (101, Tryz.f101), (102, Tryz.f102), (111, Tryz.f111), (112, Tryz.f112), (113, Tryz.f113), (114, Tryz.f114), (115, Tryz.f115), (116, Tryz.f116), (81, Tryz.f81), (110, Tryz.f110), (125, Tryz.f125), (126, Tryz.f126), (127, Tryz.f127), (128, Tryz.f128)]
def slotEq : TypeId × List Bool := (37, [false, false, false, true, true, false, false, false, false])
noncomputable def lifeEnv : Env := mkEnv Tryz.prog lifeFns [slotEq] rightOrcs []
theorem slotEq_ok : ∀ e ∈ [slotEq], eqTypeOK Tryz.prog e.1 e.2 = true := by
  intro e he
  rw [List.mem_singleton] at he
  subst he
  kernel_rfl
theorem lifeFns_ok : ∀ e ∈ lifeFns, FnOK Tryz.prog e.1 e.2 :=
    fns_ok_cons ⟨Tryz.func39, by kernel_rfl, by kernel_rfl⟩ <| fns_ok_cons ⟨Tryz.func68, by kernel_rfl, by kernel_rfl⟩ <| fns_ok_cons ⟨Tryz.func85, by kernel_rfl, by kernel_rfl⟩ <| fns_ok_cons ⟨Tryz.func86, by kernel_rfl, by kernel_rfl⟩ <| fns_ok_cons ⟨Tryz.func87, by kernel_rfl, by kernel_rfl⟩ <| fns_ok_cons ⟨Tryz.func88, by kernel_rfl, by kernel_rfl⟩ <| fns_ok_cons ⟨Tryz.func89, by kernel_rfl, by kernel_rfl⟩ <| fns_ok_cons ⟨Tryz.func90, by kernel_rfl, by kernel_rfl⟩ <| fns_ok_cons ⟨Tryz.func91, by kernel_rfl, by kernel_rfl⟩ <| fns_ok_cons ⟨Tryz.func92, by kernel_rfl, by kernel_rfl⟩ <| fns_ok_cons ⟨Tryz.func93, by kernel_rfl, by kernel_rfl⟩ <| fns_ok_cons ⟨Tryz.func94, by kernel_rfl, by kernel_rfl⟩ <| fns_ok_cons ⟨Tryz.func95, by kernel_rfl, by kernel_rfl⟩ <| fns_ok_cons ⟨Tryz.func96, by kernel_rfl, by kernel_rfl⟩ <| fns_ok_cons ⟨Tryz.func97, by kernel_rfl, by kernel_rfl⟩ <| fns_ok_cons ⟨Tryz.func98, by kernel_rfl, by kernel_rfl⟩ <| fns_ok_cons ⟨Tryz.func99, by kernel_rfl, by kernel_rfl⟩ <| fns_ok_cons ⟨Tryz.func100, by kernel_rfl, by kernel_rfl⟩ <| fns_ok_cons ⟨Tryz.func101, by kernel_rfl, by kernel_rfl⟩ <| fns_ok_cons ⟨Tryz.func102, by kernel_rfl, by kernel_rfl⟩ <| fns_ok_cons ⟨Tryz.func111, by kernel_rfl, by kernel_rfl⟩ <| fns_ok_cons ⟨Tryz.func112, by kernel_rfl, by kernel_rfl⟩ <| fns_ok_cons ⟨Tryz.func113, by kernel_rfl, by kernel_rfl⟩ <| fns_ok_cons ⟨Tryz.func114, by kernel_rfl, by kernel_rfl⟩ <| fns_ok_cons ⟨Tryz.func115, by kernel_rfl, by kernel_rfl⟩ <| fns_ok_cons ⟨Tryz.func116, by kernel_rfl, by kernel_rfl⟩ <| fns_ok_cons ⟨Tryz.func81, by kernel_rfl, by kernel_rfl⟩ <| fns_ok_cons ⟨Tryz.func110, by kernel_rfl, by kernel_rfl⟩ <| fns_ok_cons ⟨Tryz.func125, by kernel_rfl, by kernel_rfl⟩ <| fns_ok_cons ⟨Tryz.func126, by kernel_rfl, by kernel_rfl⟩ <| fns_ok_cons ⟨Tryz.func127, by kernel_rfl, by kernel_rfl⟩ <| fns_ok_cons ⟨Tryz.func128, by kernel_rfl, by kernel_rfl⟩ <| fns_ok_nil rfl
theorem lifeEnv_ok (X : Nat → Prop) (w0 : World) (h0 : X 0) (hB : Bnd X w0) (hT : Tab w0) : EnvOK lifeEnv X w0 := mkEnv_ok slotEq_ok (by kernel_rfl) lifeFns_ok rightOrcs_ok lpSounds_nil h0 hB hT

noncomputable def lowOK (n : Nat) : Bool := match (call lifeEnv 60 127 [.int .i64 n] []).run (Option Value) none (fun r => some r.1) with | some (.int .i64 x) => decide (x = lowI n) | _ => false
theorem low_all : (List.range 256).all lowOK = true := by kernel_rfl
noncomputable def powOK (n : Nat) : Bool := match (call lifeEnv 60 128 [.int .i64 n] []).run (Option Value) none (fun r => some r.1) with | some (.int .i64 x) => decide (x = 2 ^ n) | _ => false
theorem pow_all : (List.range 9).all powOK = true := by kernel_rfl
theorem low_any (n : Int) (hn : in255 n = true) (w : World) (hT : Tab w) : Calls Tryz.prog 127 #[.int .i64 n] w fun e w' => e = .returned (.int .i64 (lowI n)) ∧ Below w.heap.size w w' := by
  simp only [in255, Bool.and_eq_true, decide_eq_true_eq] at hn
  have h := List.all_eq_true.1 low_all n.toNat (List.mem_range.2 (by omega))
  unfold lowOK at h
  rw [show ((n.toNat : Nat) : Int) = n by omega] at h
  refine call_start (lifeEnv_ok _ w hT.lt (bnd_self w) hT) rfl (fuel := 60) (args := [.int .i64 n]) ?_ rfl (by simp [undef]) rfl
  split at h
  · rename_i x hx
    rw [hx, of_decide_eq_true h]
  · cases h
theorem power_any (n : Int) (hn : in8 n = true) (w : World) (hT : Tab w) : Calls Tryz.prog 128 #[.int .i64 n] w fun e w' => e = .returned (.int .i64 (2 ^ n.toNat)) ∧ Below w.heap.size w w' := by
  simp only [in8, Bool.and_eq_true, decide_eq_true_eq] at hn
  have h := List.all_eq_true.1 pow_all n.toNat (List.mem_range.2 (by omega))
  unfold powOK at h
  rw [show ((n.toNat : Nat) : Int) = n by omega] at h
  refine call_start (lifeEnv_ok _ w hT.lt (bnd_self w) hT) rfl (fuel := 60) (args := [.int .i64 n]) ?_ rfl (by simp [undef]) rfl
  split at h
  · rename_i x hx
    rw [hx, of_decide_eq_true h]
  · cases h
def lowO : Orc := fun args lh => match args with | [.int .i64 n] => .br (in255 n) (.ret (.int .i64 (lowI n), lh)) .bad | _ => .bad
def powO : Orc := fun args lh => match args with | [.int .i64 n] => .br (in8 n) (.ret (.int .i64 (2 ^ n.toNat), lh)) .bad | _ => .bad
theorem lowO_sound : Sound Tryz.prog Tab 127 lowO := by
  refine Sound.pure ⟨Tryz.func127, by kernel_rfl, by kernel_rfl⟩ fun args lh r hr => ?_
  unfold lowO at hr
  split at hr
  · rcases M.get_br_some hr with ⟨hc, h2⟩ | ⟨hc, h2⟩
    · simp only [M.get_ret, Option.some.injEq] at h2; subst h2
      exact ⟨rfl, rfl, rfl, fun w hT => low_any _ hc w hT⟩
    · cases h2
  · cases hr
theorem powO_sound : Sound Tryz.prog Tab 128 powO := by
  refine Sound.pure ⟨Tryz.func128, by kernel_rfl, by kernel_rfl⟩ fun args lh r hr => ?_
  unfold powO at hr
  split at hr
  · rcases M.get_br_some hr with ⟨hc, h2⟩ | ⟨hc, h2⟩
    · simp only [M.get_ret, Option.some.injEq] at h2; subst h2
      exact ⟨rfl, rfl, rfl, fun w hT => power_any _ hc w hT⟩
    · cases h2
  · cases hr
def refOrcs : List (FuncId × Orc) := [(127, lowO), (128, powO), (62, rightO)]
noncomputable def refEnv : Env := mkEnv Tryz.prog lifeFns [slotEq] refOrcs []
theorem refEnv_ok (X : Nat → Prop) (w0 : World) (h0 : X 0) (hB : Bnd X w0) (hT : Tab w0) : EnvOK refEnv X w0 := mkEnv_ok slotEq_ok (by kernel_rfl) lifeFns_ok (sounds_cons lowO_sound <| sounds_cons powO_sound <| sounds_cons rightQ_sound sounds_nil) lpSounds_nil h0 hB hT
end Go.Proofs.YthfoljgaiincdaaGreatDoor
