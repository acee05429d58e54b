
/- conf: what is right, and which cell is whose. No condition of its own. -/
import Derived.Test.YthfoljgaiincdaaDoorLawGen
namespace Go.Proofs.YthfoljgaiincdaaDoor
open Go.RowKit Go.Fld Go.Sx
set_option linter.unusedVariables false
set_option linter.unusedSimpArgs false
noncomputable def caFns : List (FuncId × Func) := [(16, Tryd.f16), (52, Tryd.f52), (17, Tryd.f17), (19, Tryd.f19), (21, Tryd.f21), (23, Tryd.f23), (14, Tryd.f14), (22, Tryd.f22)]
theorem caFns_ok : ∀ e ∈ caFns, FnOK Tryd.prog e.1 e.2 :=
  fns_ok_cons ⟨Tryd.func16, by kernel_rfl, by kernel_rfl⟩ <| fns_ok_cons ⟨Tryd.func52, by kernel_rfl, by kernel_rfl⟩ <| fns_ok_cons ⟨Tryd.func17, by kernel_rfl, by kernel_rfl⟩ <| fns_ok_cons ⟨Tryd.func19, by kernel_rfl, by kernel_rfl⟩ <| fns_ok_cons ⟨Tryd.func21, by kernel_rfl, by kernel_rfl⟩ <| fns_ok_cons ⟨Tryd.func23, by kernel_rfl, by kernel_rfl⟩ <| fns_ok_cons ⟨Tryd.func14, by kernel_rfl, by kernel_rfl⟩ <| fns_ok_cons ⟨Tryd.func22, by kernel_rfl, by kernel_rfl⟩ <| fns_ok_nil rfl
noncomputable def ca0Env : Env := mkEnv Tryd.prog caFns [] [] []
theorem ca0Env_ok (X : Nat → Prop) (w0 : World) (h0 : X 0) (hB : Bnd X w0) (hT : Tab w0) : EnvOK ca0Env X w0 := mkEnv_ok (fun e he => by cases he) (by kernel_rfl) caFns_ok sounds_nil lpSounds_nil h0 hB hT
def yesV (b : Bool) : Option (Value × List Go.Sx.Blk) := some (.bool b, [])
theorem bif_and (a b : Bool) : (bif a then yesV b else yesV false) = yesV (a && b) := by cases a <;> rfl
theorem bif_nand (a b : Bool) : (bif a then yesV false else yesV b) = yesV (!a && b) := by cases a <;> rfl
theorem right_tree (c : Cf) : (callV ca0Env 40 16 [c.val] []).get =
    bif decide (1 ≤ c.w) then bif decide (c.w ≤ 8) then bif decide (1 ≤ c.s) then bif decide (c.s ≤ 16) then bif decide (0 ≤ c.st) then bif decide (c.st ≤ 8) then bif decide (0 ≤ c.wt) then bif decide (c.wt ≤ 8) then bif decide (1 ≤ c.u) then yesV (decide (c.u ≤ 60))
      else yesV false else yesV false else yesV false else yesV false else yesV false else yesV false else yesV false else yesV false else yesV false := by kernel_rfl
theorem rightQ_tree (c : Cf) : (callV ca0Env 40 14 [c.val] []).get =
    bif decide (c.w < 1) then yesV false else bif decide (c.w > 8) then yesV false else bif decide (c.s < 1) then yesV false else bif decide (c.s > 16) then yesV false else
    bif decide (c.st ≥ 0) then bif decide (c.st ≤ 8) then bif decide (c.wt ≥ 0) then bif decide (c.wt ≤ 8) then bif decide (c.u ≥ 1) then yesV (decide (c.u ≤ 60)) else yesV false else yesV false else yesV false else yesV false else yesV false := by kernel_rfl
def rightCO : Orc := fun args lh => match args with | [c] => confM c fun c => .ret (.bool (rightC c), lh) | _ => .bad
theorem rightC_sound : Sound Tryd.prog Tab 16 rightCO := by
  refine Sound.of_empty ⟨Tryd.func16, by kernel_rfl, by kernel_rfl⟩ rfl rfl ca0Env_ok 40 fun args lh r hr => ?_
  unfold rightCO at hr
  split at hr
  · obtain ⟨c, rfl, h2⟩ := confM_some hr
    simp only [M.get_ret, Option.some.injEq] at h2; subst h2
    refine ⟨rfl, args_conf c _ rfl, rfl, by simp [undef], (right_tree c).trans ?_⟩
    simp only [bif_and]
    unfold yesV rightC
    simp only [Bool.and_assoc]
  · cases hr
theorem rightCQ_sound : Sound Tryd.prog Tab 14 rightCO := by
  refine Sound.of_empty ⟨Tryd.func14, by kernel_rfl, by kernel_rfl⟩ rfl rfl ca0Env_ok 40 fun args lh r hr => ?_
  unfold rightCO at hr
  split at hr
  · obtain ⟨c, rfl, h2⟩ := confM_some hr
    simp only [M.get_ret, Option.some.injEq] at h2; subst h2
    refine ⟨rfl, args_conf c _ rfl, rfl, by simp [undef], (rightQ_tree c).trans ?_⟩
    simp only [bif_and, bif_nand]
    unfold yesV rightC
    have e1 : (!decide (c.w < 1)) = decide (1 ≤ c.w) := by rw [Bool.eq_iff_iff]; simp
    have e2 : (!decide (c.w > 8)) = decide (c.w ≤ 8) := by rw [Bool.eq_iff_iff]; simp
    have e3 : (!decide (c.s < 1)) = decide (1 ≤ c.s) := by rw [Bool.eq_iff_iff]; simp
    have e4 : (!decide (c.s > 16)) = decide (c.s ≤ 16) := by rw [Bool.eq_iff_iff]; simp
    rw [e1, e2, e3, e4]
    simp only [Bool.and_assoc]
  · cases hr
def grC (c : Cf) (i : Int) : Int := if inI c.w i then w64 (3 + c.w + i) else -1
theorem pin_tree (c : Cf) (i : Int) : (callV ca0Env 40 19 [c.val, .int .i64 i] []).get = two c.w i (w64 (3 + i)) := by kernel_rfl
theorem gr_tree (c : Cf) (i : Int) : (callV ca0Env 40 21 [c.val, .int .i64 i] []).get = two c.w i (w64 (w64 (3 + c.w) + i)) := by kernel_rfl
theorem grQ_tree (c : Cf) (i : Int) : (callV ca0Env 40 22 [c.val, .int .i64 i] []).get = two c.w i (w64 (w64 (3 + c.w) + i)) := by kernel_rfl
def grCO : Orc := fun args lh => match args with | [c, .int .i64 i] => confM c fun c => .ret (.int .i64 (grC c i), lh) | _ => .bad
theorem pinC_sound : Sound Tryd.prog Tab 19 pinCO := by
  refine Sound.of_empty ⟨Tryd.func19, by kernel_rfl, by kernel_rfl⟩ rfl rfl ca0Env_ok 40 fun args lh r hr => ?_
  unfold pinCO at hr
  split at hr
  · rename_i i
    obtain ⟨c, rfl, h2⟩ := confM_some hr
    simp only [M.get_ret, Option.some.injEq] at h2; subst h2
    exact ⟨rfl, args_conf c _ rfl, rfl, by simp [undef], (pin_tree c i).trans (two_eq _ _ _ _ rfl)⟩
  · cases hr
theorem gr_eq (c : Cf) (i : Int) : w64 (w64 (3 + c.w) + i) = w64 (3 + c.w + i) := by
  obtain ⟨a, ha⟩ := w64_mod (3 + c.w)
  exact w64_congr (q := a) (by omega)
theorem grC_sound : Sound Tryd.prog Tab 21 grCO := by
  refine Sound.of_empty ⟨Tryd.func21, by kernel_rfl, by kernel_rfl⟩ rfl rfl ca0Env_ok 40 fun args lh r hr => ?_
  unfold grCO at hr
  split at hr
  · rename_i i
    obtain ⟨c, rfl, h2⟩ := confM_some hr
    simp only [M.get_ret, Option.some.injEq] at h2; subst h2
    exact ⟨rfl, args_conf c _ rfl, rfl, by simp [undef], (gr_tree c i).trans (two_eq _ _ _ _ (gr_eq c i))⟩
  · cases hr
theorem grCQ_sound : Sound Tryd.prog Tab 22 grCO := by
  refine Sound.of_empty ⟨Tryd.func22, by kernel_rfl, by kernel_rfl⟩ rfl rfl ca0Env_ok 40 fun args lh r hr => ?_
  unfold grCO at hr
  split at hr
  · rename_i i
    obtain ⟨c, rfl, h2⟩ := confM_some hr
    simp only [M.get_ret, Option.some.injEq] at h2; subst h2
    exact ⟨rfl, args_conf c _ rfl, rfl, by simp [undef], (grQ_tree c i).trans (two_eq _ _ _ _ (gr_eq c i))⟩
  · cases hr
theorem cells_tree (c : Cf) : (callV ca0Env 40 17 [c.val] []).get = some (.int .i64 (nC c), []) := by kernel_rfl
def cellsCO : Orc := fun args lh => match args with | [c] => confM c fun c => .ret (.int .i64 (cntC c), lh) | _ => .bad
theorem cellsC_sound : Sound Tryd.prog Tab 17 cellsCO := by
  refine Sound.of_empty ⟨Tryd.func17, by kernel_rfl, by kernel_rfl⟩ rfl rfl ca0Env_ok 40 fun args lh r hr => ?_
  unfold cellsCO at hr
  split at hr
  · obtain ⟨c, rfl, h2⟩ := confM_some hr
    simp only [M.get_ret, Option.some.injEq] at h2; subst h2
    exact ⟨rfl, args_conf c _ rfl, rfl, by simp [undef], (cells_tree c).trans (by rw [nC_eq]; rfl)⟩
  · cases hr
def caOrcs : List (FuncId × Orc) := [(16, rightCO), (14, rightCO), (19, pinCO), (21, grCO), (22, grCO), (17, cellsCO)]
theorem caOrcs_ok : Sounds Tryd.prog Tab caOrcs := sounds_cons rightC_sound <| sounds_cons rightCQ_sound <| sounds_cons pinC_sound <| sounds_cons grC_sound <| sounds_cons grCQ_sound <| sounds_cons cellsC_sound sounds_nil
end Go.Proofs.YthfoljgaiincdaaDoor
