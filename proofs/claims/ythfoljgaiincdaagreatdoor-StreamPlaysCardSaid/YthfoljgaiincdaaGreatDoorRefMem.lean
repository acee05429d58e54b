
/- The document's memory, words and slots, confs: what each of their functions does, in plain words. No condition of its own. -/
import Derived.Test.YthfoljgaiincdaaGreatDoorMem

namespace Go.Proofs.YthfoljgaiincdaaGreatDoor
open Go.RowKit Go.Fld Go.Sx
set_option linter.unusedVariables false
set_option linter.unusedSimpArgs false
/-! ### Memory of the document -/
noncomputable def refMemFns : List (FuncId × Func) := [(46, Tryz.f46), (49, Tryz.f49), (82, Tryz.f82), (74, Tryz.f74)]
theorem refMemFns_ok : ∀ e ∈ refMemFns, FnOK Tryz.prog e.1 e.2 :=
  fns_ok_cons ⟨Tryz.func46, by kernel_rfl, by kernel_rfl⟩ <| fns_ok_cons ⟨Tryz.func49, by kernel_rfl, by kernel_rfl⟩ <| fns_ok_cons ⟨Tryz.func82, by kernel_rfl, by kernel_rfl⟩ <| fns_ok_cons ⟨Tryz.func74, by kernel_rfl, by kernel_rfl⟩ <| fns_ok_nil rfl
noncomputable def refMemEnv : Env := mkEnv Tryz.prog refMemFns [] [] []
theorem refMemEnv_ok (X : Nat → Prop) (w0 : World) (h0 : X 0) (hB : Bnd X w0) (hT : Tab w0) : EnvOK refMemEnv X w0 := mkEnv_ok (fun e he => by cases he) (by kernel_rfl) refMemFns_ok sounds_nil lpSounds_nil h0 hB hT
abbrev memR (n : Nat) (t : Int) (l : List Int) : List Go.Sx.Blk := [.cells true true [.slice (some ⟨1, 0, some 1⟩) n 0, .int .i64 t], .ints true true l]
def refLoadO : Orc := fun args lh => match args, lh with
  | [.pointer (some ⟨0, 0, none⟩), .int .i64 i], [.cells true true [.slice (some ⟨1, 0, some 1⟩) n 0, .int .i64 t], .ints true true l] => .br (okM n l) (.ret (.int .i64 (ldS n l i), memR n (tcS n i t) l)) .bad
  | _, _ => .bad
def refCasO : Orc := fun args lh => match args, lh with
  | [.pointer (some ⟨0, 0, none⟩), .int .i64 i, .int .i64 a, .int .i64 b], [.cells true true [.slice (some ⟨1, 0, some 1⟩) n 0, .int .i64 t], .ints true true l] => .br (okM n l) (.ret (.bool (casB n l i a), memR n (tcS n i t) (casS n l i a b))) .bad
  | _, _ => .bad
def refAddO : Orc := fun args lh => match args, lh with
  | [.pointer (some ⟨0, 0, none⟩), .int .i64 i, .int .i64 d], [.cells true true [.slice (some ⟨1, 0, some 1⟩) n 0, .int .i64 t], .ints true true l] => .br (okM n l) (.ret (.int .i64 (ldS n l i), memR n (tcS n i t) (addS n l i d))) .bad
  | _, _ => .bad
theorem refLoad_tree (n : Nat) (t : Int) (l : List Int) (i : Int) : (callV refMemEnv 40 46 [p0, .int .i64 i] (memR n t l)).get =
    out3 n i (some (.int .i64 0, memR n t l)) (some (.int .i64 (l.getD i.toNat 0), memR n (IntKind.i64.wrap (t + 1)) l)) none l 0 := by unfold out3; rw [Nat.zero_add]; kernel_rfl
theorem refCas_tree (n : Nat) (t : Int) (l : List Int) (i a b : Int) : (callV refMemEnv 40 49 [p0, .int .i64 i, .int .i64 a, .int .i64 b] (memR n t l)).get =
    out3 n i (some (.bool false, memR n t l)) (bif l.getD i.toNat 0 != a then some (.bool false, memR n (IntKind.i64.wrap (t + 1)) l) else bif inRange i n then bif Nat.blt i.toNat l.length then some (.bool true, memR n (IntKind.i64.wrap (t + 1)) (l.set i.toNat b)) else none else none) none l 0 := by unfold out3; rw [Nat.zero_add]; kernel_rfl
theorem refAdd_tree (n : Nat) (t : Int) (l : List Int) (i d : Int) : (callV refMemEnv 40 82 [p0, .int .i64 i, .int .i64 d] (memR n t l)).get =
    out3 n i (some (.int .i64 0, memR n t l)) (bif inRange i n then bif Nat.blt i.toNat l.length then some (.int .i64 (l.getD i.toNat 0), memR n (IntKind.i64.wrap (t + 1)) (l.set i.toNat (IntKind.i64.wrap (l.getD i.toNat 0 + d)))) else none else none) none l 0 := by unfold out3; rw [Nat.zero_add]; kernel_rfl
theorem inRange_in {n : Nat} {i : Int} (h : inR n i = true) : inRange i n = true := h
theorem refLoad_sound : Sound Tryz.prog Tab 46 refLoadO := by
  refine Sound.of_run ⟨Tryz.func46, by kernel_rfl, by kernel_rfl⟩ rfl rfl refMemEnv_ok 40 fun args lh r hr => ?_
  unfold refLoadO at hr
  split at hr
  · rename_i i n t l
    rcases M.get_br_some hr with ⟨hc, h2⟩ | ⟨hc, h2⟩
    · simp only [M.get_ret, Option.some.injEq] at h2; subst h2
      obtain ⟨hn, _, _⟩ := okM_iff.1 hc
      refine ((refLoad_tree n t l i).trans (out3_eq hn rfl (fun h => ?_) fun h => ?_))
      · simp [ldS, tcS, h]
      · simp [ldS, tcS, h]
    · cases h2
  · cases hr
theorem refCas_sound : Sound Tryz.prog Tab 49 refCasO := by
  refine Sound.of_run ⟨Tryz.func49, by kernel_rfl, by kernel_rfl⟩ rfl rfl refMemEnv_ok 40 fun args lh r hr => ?_
  unfold refCasO at hr
  split at hr
  · rename_i i a b n t l
    rcases M.get_br_some hr with ⟨hc, h2⟩ | ⟨hc, h2⟩
    · simp only [M.get_ret, Option.some.injEq] at h2; subst h2
      obtain ⟨hn, _, _⟩ := okM_iff.1 hc
      refine ((refCas_tree n t l i a b).trans (out3_eq hn rfl (fun h => ?_) fun h => ?_))
      · simp [casS, casB, tcS, h]
      · have hb := blt_len hn h
        rw [Nat.zero_add] at hb
        rw [inRange_in h, hb]
        have e1 : ldS n l i = l.getD i.toNat 0 := by simp [ldS, h]
        cases hx : (l.getD i.toNat 0 == a) with
        | true =>
          have e2 : casB n l i a = true := by unfold casB; rw [h, e1, hx]; rfl
          simp only [Nat.zero_add, bne, hx, casS, e2, tcS, stS, h, if_true, Bool.false_eq_true, if_false]; rfl
        | false =>
          have e2 : casB n l i a = false := by unfold casB; rw [h, e1, hx]; rfl
          simp only [Nat.zero_add, bne, hx, casS, e2, tcS, stS, h, if_true, Bool.false_eq_true, if_false]; rfl
    · cases h2
  · cases hr
theorem refAdd_sound : Sound Tryz.prog Tab 82 refAddO := by
  refine Sound.of_run ⟨Tryz.func82, by kernel_rfl, by kernel_rfl⟩ rfl rfl refMemEnv_ok 40 fun args lh r hr => ?_
  unfold refAddO at hr
  split at hr
  · rename_i i d n t l
    rcases M.get_br_some hr with ⟨hc, h2⟩ | ⟨hc, h2⟩
    · simp only [M.get_ret, Option.some.injEq] at h2; subst h2
      obtain ⟨hn, _, _⟩ := okM_iff.1 hc
      refine ((refAdd_tree n t l i d).trans (out3_eq hn rfl (fun h => ?_) fun h => ?_))
      · simp [addS, stS, ldS, tcS, h]
      · have hb := blt_len hn h
        rw [Nat.zero_add] at hb
        rw [inRange_in h, hb]
        simp [addS, stS, ldS, tcS, h]
    · cases h2
  · cases hr
def refMemOrcs : List (FuncId × Orc) := [(46, frameM refLoadO), (49, frameM refCasO), (82, frameM refAddO)]
theorem refMemOrcs_ok : Sounds Tryz.prog Tab refMemOrcs := sounds_cons (refLoad_sound.frame tab_kept) <| sounds_cons (refCas_sound.frame tab_kept) <| sounds_cons (refAdd_sound.frame tab_kept) sounds_nil
end Go.Proofs.YthfoljgaiincdaaGreatDoor
