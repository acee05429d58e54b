
/- The laws of give: what they run over. No condition of its own. -/
import Derived.Test.YthfoljgaiincdaaDoorGiveB
import Derived.Test.YthfoljgaiincdaaDoorLaid18
namespace Go.Proofs.YthfoljgaiincdaaDoor
open Go.RowKit Go.Fld Go.Sx
set_option linter.unusedVariables false
set_option linter.unusedSimpArgs false
noncomputable def awFns : List (FuncId × Func) := [(42, Tryd.f42), (43, Tryd.f43), (44, Tryd.f44), (46, Tryd.f46)]
theorem awFns_ok : ∀ e ∈ awFns, FnOK Tryd.prog e.1 e.2 :=
  fns_ok_cons ⟨Tryd.func42, by kernel_rfl, by kernel_rfl⟩ <| fns_ok_cons ⟨Tryd.func43, by kernel_rfl, by kernel_rfl⟩ <| fns_ok_cons ⟨Tryd.func44, by kernel_rfl, by kernel_rfl⟩ <| fns_ok_cons ⟨Tryd.func46, by kernel_rfl, by kernel_rfl⟩ <| fns_ok_nil rfl
def aw1 : List (FuncId × Orc) := giveOrcs ++ wordOrcs ++ memOrcs ++ confOrcs
theorem aw1_ok : Sounds Tryd.prog Tab aw1 := sounds_append (sounds_append (sounds_append giveOrcs_ok wordOrcs_ok) memOrcs_ok) confOrcs_ok
noncomputable def awEnv : Env := mkEnv Tryd.prog awFns [] aw1 []
theorem awEnv_ok (X : Nat → Prop) (w0 : World) (h0 : X 0) (hB : Bnd X w0) (hT : Tab w0) : EnvOK awEnv X w0 := mkEnv_ok (fun e he => by cases he) (by kernel_rfl) awFns_ok aw1_ok lpSounds_nil h0 hB hT
theorem awake_tree : (callV awEnv 60 42 [] []).get = some (.bool true, []) := by kernel_rfl
def awakeO : Orc := fun args lh => match args with | [] => .ret (.bool true, lh) | _ => .bad
theorem awake_sound : Sound Tryd.prog Tab 42 awakeO := by
  refine Sound.of_empty ⟨Tryd.func42, by kernel_rfl, by kernel_rfl⟩ rfl rfl awEnv_ok 60 fun args lh r hr => ?_
  unfold awakeO at hr
  split at hr
  · simp only [M.get_ret, Option.some.injEq] at hr; subst hr
    exact ⟨rfl, rfl, rfl, by simp [undef], awake_tree⟩
  · cases hr
noncomputable def glFns : List (FuncId × Func) := [(11, Tryd.f11), (10, Tryd.f10), (12, Tryd.f12), (44, Tryd.f44), (46, Tryd.f46)]
theorem glFns_ok : ∀ e ∈ glFns, FnOK Tryd.prog e.1 e.2 :=
  fns_ok_cons ⟨Tryd.func11, by kernel_rfl, by kernel_rfl⟩ <| fns_ok_cons ⟨Tryd.func10, by kernel_rfl, by kernel_rfl⟩ <| fns_ok_cons ⟨Tryd.func12, by kernel_rfl, by kernel_rfl⟩ <| fns_ok_cons ⟨Tryd.func44, by kernel_rfl, by kernel_rfl⟩ <| fns_ok_cons ⟨Tryd.func46, by kernel_rfl, by kernel_rfl⟩ <| fns_ok_nil rfl
def gl1 : List (FuncId × Orc) := [(42, awakeO), (43, frameM laidO), (49, frameM wrO), (41, frameM madeO), (30, frameM slotsO)] ++ giveOrcs ++ memOrcs ++ confOrcs ++ wordOrcs ++ intsOrcs
theorem gl1_ok : Sounds Tryd.prog Tab gl1 := sounds_append (sounds_append (sounds_append (sounds_append (sounds_append (sounds_cons awake_sound <| sounds_cons (laid_sound.frame tab_kept) <| sounds_cons (wr_sound.frame tab_kept) <| sounds_cons (made_sound.frame tab_kept) <| sounds_cons (slots_sound.frame tab_kept) sounds_nil) giveOrcs_ok) memOrcs_ok) confOrcs_ok) wordOrcs_ok) intsOrcs_ok
noncomputable def glEnv : Env := mkEnv Tryd.prog glFns [slotEq] gl1 []
theorem glEnv_ok (X : Nat → Prop) (w0 : World) (h0 : X 0) (hB : Bnd X w0) (hT : Tab w0) : EnvOK glEnv X w0 := mkEnv_ok slotEq_ok (by kernel_rfl) glFns_ok gl1_ok lpSounds_nil h0 hB hT
/-- A loop that is not met. -/
theorem lpSound_bad {P : Program} {T : World → Prop} {f : FuncId} {fn : Func} {c : Code} {id : Nat} (hf : P.funcs[f]? = some fn) (hb : fn.body = some c) (ho : (onlyBlk id c).isSome = true) : LpSound P T f id (fun _ _ => .bad) :=
  ⟨fn, c, hf, hb, ho, fun X w0 h0 hB hT base s e s' hbs hs => by cases hs⟩
end Go.Proofs.YthfoljgaiincdaaDoor
