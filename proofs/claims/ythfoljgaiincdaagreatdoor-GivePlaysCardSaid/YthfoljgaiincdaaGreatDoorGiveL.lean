
/- The laws of give: what they run over. No condition of its own. -/
import Derived.Test.YthfoljgaiincdaaGreatDoorGiveB
import Derived.Test.YthfoljgaiincdaaGreatDoorLaid18
namespace Go.Proofs.YthfoljgaiincdaaGreatDoor
open Go.RowKit Go.Fld Go.Sx
set_option linter.unusedVariables false
set_option linter.unusedSimpArgs false
noncomputable def awFns : List (FuncId × Func) := [(21, Tryz.f21), (22, Tryz.f22), (23, Tryz.f23), (28, Tryz.f28)]
theorem awFns_ok : ∀ e ∈ awFns, FnOK Tryz.prog e.1 e.2 :=
  fns_ok_cons ⟨Tryz.func21, by kernel_rfl, by kernel_rfl⟩ <| fns_ok_cons ⟨Tryz.func22, by kernel_rfl, by kernel_rfl⟩ <| fns_ok_cons ⟨Tryz.func23, by kernel_rfl, by kernel_rfl⟩ <| fns_ok_cons ⟨Tryz.func28, by kernel_rfl, by kernel_rfl⟩ <| fns_ok_nil rfl
def aw1 : List (FuncId × Orc) := giveOrcs ++ wordOrcs ++ memOrcs ++ confOrcs
theorem aw1_ok : Sounds Tryz.prog Tab aw1 := sounds_append (sounds_append (sounds_append giveOrcs_ok wordOrcs_ok) memOrcs_ok) confOrcs_ok
noncomputable def awEnv : Env := mkEnv Tryz.prog awFns [] aw1 []
theorem awEnv_ok (X : Nat → Prop) (w0 : World) (h0 : X 0) (hB : Bnd X w0) (hT : Tab w0) : EnvOK awEnv X w0 := mkEnv_ok (fun e he => by cases he) (by kernel_rfl) awFns_ok aw1_ok lpSounds_nil h0 hB hT
theorem awake_tree : (callV awEnv 60 21 [] []).get = some (.bool true, []) := by kernel_rfl
def awakeO : Orc := fun args lh => match args with | [] => .ret (.bool true, lh) | _ => .bad
theorem awake_sound : Sound Tryz.prog Tab 21 awakeO := by
  refine Sound.of_empty ⟨Tryz.func21, by kernel_rfl, by kernel_rfl⟩ rfl rfl awEnv_ok 60 fun args lh r hr => ?_
  unfold awakeO at hr
  split at hr
  · simp only [M.get_ret, Option.some.injEq] at hr; subst hr
    exact ⟨rfl, rfl, rfl, by simp [undef], awake_tree⟩
  · cases hr
noncomputable def glFns : List (FuncId × Func) := [(4, Tryz.f4), (23, Tryz.f23), (28, Tryz.f28)]
theorem glFns_ok : ∀ e ∈ glFns, FnOK Tryz.prog e.1 e.2 :=
  fns_ok_cons ⟨Tryz.func4, by kernel_rfl, by kernel_rfl⟩ <| fns_ok_cons ⟨Tryz.func23, by kernel_rfl, by kernel_rfl⟩ <| fns_ok_cons ⟨Tryz.func28, by kernel_rfl, by kernel_rfl⟩ <| fns_ok_nil rfl
def gl1 : List (FuncId × Orc) := [(21, awakeO), (22, frameM laidO), (25, frameM wrO), (13, frameM wrqO), (6, frameM madeO), (7, frameM slotsO)] ++ giveOrcs ++ memOrcs ++ confOrcs ++ wordOrcs ++ intsOrcs
theorem gl1_ok : Sounds Tryz.prog Tab gl1 := sounds_append (sounds_append (sounds_append (sounds_append (sounds_append (sounds_cons awake_sound <| sounds_cons (laid_sound.frame tab_kept) <| sounds_cons (wr_sound.frame tab_kept) <| sounds_cons (wrq_sound.frame tab_kept) <| sounds_cons (made_sound.frame tab_kept) <| sounds_cons (slots_sound.frame tab_kept) sounds_nil) giveOrcs_ok) memOrcs_ok) confOrcs_ok) wordOrcs_ok) intsOrcs_ok
noncomputable def glEnv : Env := mkEnv Tryz.prog glFns [slotEq] gl1 []
theorem glEnv_ok (X : Nat → Prop) (w0 : World) (h0 : X 0) (hB : Bnd X w0) (hT : Tab w0) : EnvOK glEnv X w0 := mkEnv_ok slotEq_ok (by kernel_rfl) glFns_ok gl1_ok lpSounds_nil h0 hB hT
/-- A loop that is not met. -/
theorem lpSound_bad {P : Program} {T : World → Prop} {f : FuncId} {fn : Func} {c : Code} {id : Nat} (hf : P.funcs[f]? = some fn) (hb : fn.body = some c) (ho : (onlyBlk id c).isSome = true) : LpSound P T f id (fun _ _ => .bad) :=
  ⟨fn, c, hf, hb, ho, fun X w0 h0 hB hT base s e s' hbs hs => by cases hs⟩
end Go.Proofs.YthfoljgaiincdaaGreatDoor
