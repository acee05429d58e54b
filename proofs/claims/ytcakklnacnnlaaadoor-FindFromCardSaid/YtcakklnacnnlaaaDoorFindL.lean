/- The laws of find: what they run over. No condition of its own. -/
import Derived.Test.YtcakklnacnnlaaaDoorFindA
namespace Go.Proofs.YtcakklnacnnlaaaDoor
open Go.RowKit Go.Fld Go.Sx
set_option linter.unusedVariables false
set_option linter.unusedSimpArgs false
noncomputable def awFns : List (FuncId × Func) := [(13, Tryd.f13), (17, Tryd.f17), (18, Tryd.f18), (19, Tryd.f19), (54, Tryd.f54), (20, Tryd.f20)]
theorem awFns_ok : ∀ e ∈ awFns, FnOK Tryd.prog e.1 e.2 :=
  fns_ok_cons ⟨Tryd.func13, by kernel_rfl, by kernel_rfl⟩ <| fns_ok_cons ⟨Tryd.func17, by kernel_rfl, by kernel_rfl⟩ <| fns_ok_cons ⟨Tryd.func18, by kernel_rfl, by kernel_rfl⟩ <| fns_ok_cons ⟨Tryd.func19, by kernel_rfl, by kernel_rfl⟩ <| fns_ok_cons ⟨Tryd.func54, by kernel_rfl, by kernel_rfl⟩ <| fns_ok_cons ⟨Tryd.func20, by kernel_rfl, by kernel_rfl⟩ <| fns_ok_nil rfl
def aw1 : List (FuncId × Orc) := [(14, fitsO)] ++ wordOrcs ++ memOrcs ++ confOrcs
theorem aw1_ok : Sounds Tryd.prog Tab aw1 := sounds_append (sounds_append (sounds_append (sounds_cons fits_sound sounds_nil) wordOrcs_ok) memOrcs_ok) confOrcs_ok
noncomputable def awEnv : Env := mkEnv Tryd.prog awFns [] aw1 []
theorem awEnv_ok (X : Nat → Prop) (w0 : World) (h0 : X 0) (hB : Bnd X w0) (hT : Tab w0) : EnvOK awEnv X w0 := mkEnv_ok (fun e he => by cases he) (by kernel_rfl) awFns_ok aw1_ok lpSounds_nil h0 hB hT
theorem awake_tree : (callV awEnv 60 13 [] []).get = some (.bool true, []) := by kernel_rfl
def awakeO : Orc := fun args lh => match args with | [] => .ret (.bool true, lh) | _ => .bad
theorem awake_sound : Sound Tryd.prog Tab 13 awakeO := by
  refine Sound.of_empty ⟨Tryd.func13, by kernel_rfl, by kernel_rfl⟩ rfl rfl awEnv_ok 60 fun args lh r hr => ?_
  unfold awakeO at hr
  split at hr
  · simp only [M.get_ret, Option.some.injEq] at hr; subst hr
    exact ⟨rfl, rfl, rfl, by simp [undef], awake_tree⟩
  · cases hr
noncomputable def flFns : List (FuncId × Func) := [(3, Tryd.f3), (4, Tryd.f4), (5, Tryd.f5), (6, Tryd.f6), (7, Tryd.f7), (8, Tryd.f8), (22, Tryd.f22), (18, Tryd.f18), (20, Tryd.f20), (30, Tryd.f30)]
theorem flFns_ok : ∀ e ∈ flFns, FnOK Tryd.prog e.1 e.2 :=
  fns_ok_cons ⟨Tryd.func3, by kernel_rfl, by kernel_rfl⟩ <| fns_ok_cons ⟨Tryd.func4, by kernel_rfl, by kernel_rfl⟩ <| fns_ok_cons ⟨Tryd.func5, by kernel_rfl, by kernel_rfl⟩ <| fns_ok_cons ⟨Tryd.func6, by kernel_rfl, by kernel_rfl⟩ <| fns_ok_cons ⟨Tryd.func7, by kernel_rfl, by kernel_rfl⟩ <| fns_ok_cons ⟨Tryd.func8, by kernel_rfl, by kernel_rfl⟩ <| fns_ok_cons ⟨Tryd.func22, by kernel_rfl, by kernel_rfl⟩ <| fns_ok_cons ⟨Tryd.func18, by kernel_rfl, by kernel_rfl⟩ <| fns_ok_cons ⟨Tryd.func20, by kernel_rfl, by kernel_rfl⟩ <| fns_ok_cons ⟨Tryd.func30, by kernel_rfl, by kernel_rfl⟩ <| fns_ok_nil rfl
def fl1 : List (FuncId × Orc) := [(13, awakeO), (17, frameM laidO), (23, frameM wrO), (31, frameM wrqO), (16, frameM madeO), (21, frameM slotsO)] ++ findOrcs ++ memOrcs ++ confOrcs ++ refMemOrcs ++ wordOrcs ++ intsOrcs
theorem fl1_ok : Sounds Tryd.prog Tab fl1 := sounds_append (sounds_append (sounds_append (sounds_append (sounds_append (sounds_append (sounds_cons awake_sound <| sounds_cons (laid_sound.frame tab_kept) <| sounds_cons (wr_sound.frame tab_kept) <| sounds_cons (wrq_sound.frame tab_kept) <| sounds_cons (made_sound.frame tab_kept) <| sounds_cons (slots_sound.frame tab_kept) sounds_nil) findOrcs_ok) memOrcs_ok) confOrcs_ok) refMemOrcs_ok) wordOrcs_ok) intsOrcs_ok
noncomputable def flEnv : Env := mkEnv Tryd.prog flFns [slotEq] fl1 []
theorem flEnv_ok (X : Nat → Prop) (w0 : World) (h0 : X 0) (hB : Bnd X w0) (hT : Tab w0) : EnvOK flEnv X w0 := mkEnv_ok slotEq_ok (by kernel_rfl) flFns_ok fl1_ok lpSounds_nil h0 hB hT
/-! ### FindFits, FindKinds -/
theorem ffits_tree (s : Slt) (k own : Int) : (call flEnv 60 3 [s.val, .int .i64 k, .int .i64 own] []).run (Option Value) none (fun r => some r.1) = some (.bool (fitsS s k own == fitsS s k own)) := by kernel_rfl
theorem ffits_walk (s : Slt) (k own : Int) (w : World) (hT : Tab w) : Calls Tryd.prog 3 #[s.val, .int .i64 k, .int .i64 own] w fun e w' => e = .returned (.bool true) ∧ Below w.heap.size w w' :=
  call_start (flEnv_ok _ w hT.lt (bnd_self w) hT) rfl (args := [s.val, .int .i64 k, .int .i64 own]) ((ffits_tree s k own).trans (by rw [beq_self_eq_true])) rfl (by simp [undef]) (by simp [Slt.val, Go.Sx.plain, plain1])
end Go.Proofs.YtcakklnacnnlaaaDoor
