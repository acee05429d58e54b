/- find: what fits, and a step, of the program and of the document. No condition of its own. -/
import Derived.Test.YtcakklnacnnlaaaDoorRefSlots
import Derived.Test.YtcakklnacnnlaaaDoorLaid14
namespace Go.Proofs.YtcakklnacnnlaaaDoor
open Go.RowKit Go.Fld Go.Sx
set_option linter.unusedVariables false
set_option linter.unusedSimpArgs false
/-- Does a slot fit a kind? -/
def fitsS (s : Slt) (k own : Int) : Bool :=
  bif k == 0 then (bif s.st == 2 then (bif !s.brk then s.own == own else false) else false) else
  bif k == 1 then (bif s.st == 2 then !s.brk else false) else
  bif k == 2 then s.st == 0 else
  bif k == 3 then (bif s.st == 2 then (bif !s.brk then true else s.st == 0) else s.st == 0) else
  bif k == 4 then (bif s.st == 2 then (bif s.brk then true else (bif own == 1 then true else own == 2)) else (bif s.st == 3 then own == 2 else false)) else
  bif k == 5 then s.st == 6 else bif k == 6 then s.st == 2 else false
def fitsT (s : Slt) (k own : Int) : Option (Value × List Go.Sx.Blk) :=
  bif k == 0 then (bif s.st == 2 then (bif !s.brk then some (.bool (s.own == own), []) else some (.bool false, [])) else some (.bool false, [])) else
  bif k == 1 then (bif s.st == 2 then some (.bool (!s.brk), []) else some (.bool false, [])) else
  bif k == 2 then some (.bool (s.st == 0), []) else
  bif k == 3 then (bif s.st == 2 then (bif !s.brk then some (.bool true, []) else some (.bool (s.st == 0), [])) else some (.bool (s.st == 0), [])) else
  bif k == 4 then (bif s.st == 2 then (bif s.brk then some (.bool true, []) else (bif own == 1 then some (.bool true, []) else some (.bool (own == 2), []))) else (bif s.st == 3 then some (.bool (own == 2), []) else some (.bool false, []))) else
  bif k == 5 then some (.bool (s.st == 6), []) else bif k == 6 then some (.bool (s.st == 2), []) else some (.bool false, [])
theorem bif_some (c : Bool) (x y : Bool) : (bif c then some (Value.bool x, ([] : List Go.Sx.Blk)) else some (.bool y, [])) = some (.bool (bif c then x else y), []) := by cases c <;> rfl
theorem fitsT_eq (s : Slt) (k own : Int) : fitsT s k own = some (.bool (fitsS s k own), []) := by
  unfold fitsT fitsS
  simp only [bif_some]
noncomputable def ftFns : List (FuncId × Func) := [(14, Tryd.f14), (49, Tryd.f49), (71, Tryd.f71), (72, Tryd.f72), (73, Tryd.f73), (74, Tryd.f74), (75, Tryd.f75), (76, Tryd.f76), (77, Tryd.f77), (15, Tryd.f15), (25, Tryd.f25)]
theorem ftFns_ok : ∀ e ∈ ftFns, FnOK Tryd.prog e.1 e.2 :=
  fns_ok_cons ⟨Tryd.func14, by kernel_rfl, by kernel_rfl⟩ <| fns_ok_cons ⟨Tryd.func49, by kernel_rfl, by kernel_rfl⟩ <| fns_ok_cons ⟨Tryd.func71, by kernel_rfl, by kernel_rfl⟩ <| fns_ok_cons ⟨Tryd.func72, by kernel_rfl, by kernel_rfl⟩ <| fns_ok_cons ⟨Tryd.func73, by kernel_rfl, by kernel_rfl⟩ <| fns_ok_cons ⟨Tryd.func74, by kernel_rfl, by kernel_rfl⟩ <| fns_ok_cons ⟨Tryd.func75, by kernel_rfl, by kernel_rfl⟩ <| fns_ok_cons ⟨Tryd.func76, by kernel_rfl, by kernel_rfl⟩ <| fns_ok_cons ⟨Tryd.func77, by kernel_rfl, by kernel_rfl⟩ <| fns_ok_cons ⟨Tryd.func15, by kernel_rfl, by kernel_rfl⟩ <| fns_ok_cons ⟨Tryd.func25, by kernel_rfl, by kernel_rfl⟩ <| fns_ok_nil rfl
noncomputable def ft0Env : Env := mkEnv Tryd.prog ftFns [] [] []
theorem ft0Env_ok (X : Nat → Prop) (w0 : World) (h0 : X 0) (hB : Bnd X w0) (hT : Tab w0) : EnvOK ft0Env X w0 := mkEnv_ok (fun e he => by cases he) (by kernel_rfl) ftFns_ok sounds_nil lpSounds_nil h0 hB hT
theorem ft_tree (s : Slt) (k own : Int) : (callV ft0Env 40 14 [s.val, .int .i64 k, .int .i64 own] []).get = fitsT s k own := by kernel_rfl
theorem ftq_tree (s : Slt) (k own : Int) : (callV ft0Env 40 15 [s.val, .int .i64 k, .int .i64 own] []).get = fitsT s k own := by kernel_rfl
def fitsO : Orc := fun args lh => match args with | [s, .int .i64 k, .int .i64 own] => slotM s fun s => .ret (.bool (fitsS s k own), lh) | _ => .bad
theorem args_fits (s : Slt) (k own : Int) : [s.val, .int .i64 k, .int .i64 own].all plainA = true := by simp [Slt.val, plainA, plain1]
theorem fits_sound : Sound Tryd.prog Tab 14 fitsO := by
  refine Sound.of_empty ⟨Tryd.func14, by kernel_rfl, by kernel_rfl⟩ rfl rfl ft0Env_ok 40 fun args lh r hr => ?_
  unfold fitsO at hr
  split at hr
  · obtain ⟨s, rfl, h2⟩ := slotM_some hr
    simp only [M.get_ret, Option.some.injEq] at h2; subst h2
    exact ⟨rfl, args_fits _ _ _, rfl, by simp [undef], (ft_tree _ _ _).trans (fitsT_eq _ _ _)⟩
  · cases hr
theorem fitsQ_sound : Sound Tryd.prog Tab 15 fitsO := by
  refine Sound.of_empty ⟨Tryd.func15, by kernel_rfl, by kernel_rfl⟩ rfl rfl ft0Env_ok 40 fun args lh r hr => ?_
  unfold fitsO at hr
  split at hr
  · obtain ⟨s, rfl, h2⟩ := slotM_some hr
    simp only [M.get_ret, Option.some.injEq] at h2; subst h2
    exact ⟨rfl, args_fits _ _ _, rfl, by simp [undef], (ftq_tree _ _ _).trans (fitsT_eq _ _ _)⟩
  · cases hr
def fitW (d : Int → Option Slt) (k own w : Int) : Bool := bif (d w).isSome then fitsS (slt0 (d w)) k own else false
def ft1 : List (FuncId × Orc) := wordOrcs ++ [(14, fitsO), (15, fitsO)]
theorem ft1_ok : Sounds Tryd.prog Tab ft1 := sounds_append wordOrcs_ok (sounds_cons fits_sound <| sounds_cons fitsQ_sound sounds_nil)
noncomputable def ft1Env : Env := mkEnv Tryd.prog ftFns [] ft1 []
theorem ft1Env_ok (X : Nat → Prop) (w0 : World) (h0 : X 0) (hB : Bnd X w0) (hT : Tab w0) : EnvOK ft1Env X w0 := mkEnv_ok (fun e he => by cases he) (by kernel_rfl) ftFns_ok ft1_ok lpSounds_nil h0 hB hT
theorem ftw_tree (w k own : Int) : (callV ft1Env 40 25 [.int .i64 w, .int .i64 k, .int .i64 own] []).get = bif (decA w).isSome then some (.bool (fitsS (slt0 (decA w)) k own), []) else some (.bool false, []) := by kernel_rfl
def fitWO : Orc := fun args lh => match args with | [.int .i64 w, .int .i64 k, .int .i64 own] => .ret (.bool (fitW decA k own w), lh) | _ => .bad
theorem fitW_sound : Sound Tryd.prog Tab 25 fitWO := by
  refine Sound.of_empty ⟨Tryd.func25, by kernel_rfl, by kernel_rfl⟩ rfl rfl ft1Env_ok 40 fun args lh r hr => ?_
  unfold fitWO at hr
  split at hr
  · simp only [M.get_ret, Option.some.injEq] at hr; subst hr
    exact ⟨rfl, rfl, rfl, by simp [undef], (ftw_tree _ _ _).trans (bif_some _ _ _)⟩
  · cases hr
/-! ### A step -/
structure Fq where
  at_ : Int
  word : Int
  found : Bool
abbrev fdB (cf : Cf) (k own : Int) (q : Fq) : Go.Sx.Blk := .cells true true [.int .i64 cf.w, .int .i64 cf.s, .int .i64 cf.st, .int .i64 cf.wt, .int .i64 cf.u, .int .i64 k, .int .i64 own, .int .i64 q.at_, .int .i64 q.word, .bool q.found]
def fdone (cf : Cf) (q : Fq) : Bool := bif q.found then true else decide (q.at_ ≥ cf.s)
def fload (cf : Cf) (n : Nat) (l : List Int) (q : Fq) : Int := ldS n l (cellC cf q.at_)
def ftch (cf : Cf) (n : Nat) (q : Fq) (t : Int) : Int := bif fdone cf q then t else tcS n (cellC cf q.at_) t
def fstep (cf : Cf) (k own : Int) (n : Nat) (l : List Int) (q : Fq) : Fq := bif fdone cf q then q else bif fitW decS k own (fload cf n l q) then ⟨q.at_, fload cf n l q, true⟩ else ⟨w64 (q.at_ + 1), q.word, q.found⟩
def fret (cf : Cf) (k own : Int) (n : Nat) (l : List Int) (q : Fq) : Bool := bif fdone cf q then true else bif fitW decS k own (fload cf n l q) then true else decide (w64 (q.at_ + 1) ≥ cf.s)
def fstepQ (cf : Cf) (k own : Int) (n : Nat) (l : List Int) (q : Fq) : Fq := bif fdone cf q then q else bif fitW decA k own (fload cf n l q) then ⟨q.at_, fload cf n l q, fitW decA k own (fload cf n l q)⟩ else ⟨w64 (q.at_ + 1), fload cf n l q, fitW decA k own (fload cf n l q)⟩
def fretQ (cf : Cf) (k own : Int) (n : Nat) (l : List Int) (q : Fq) : Bool := bif fdone cf q then true else bif fitW decA k own (fload cf n l q) then true else w64 (q.at_ + 1) == cf.s
def fgo (q : Fq) : Fq := bif q.found then ⟨w64 (q.at_ + 1), q.word, false⟩ else q
def fagain (q : Fq) : Fq := ⟨q.at_, q.word, false⟩
def fgoQ (q : Fq) : Fq := bif q.found then ⟨w64 (q.at_ + 1), q.word, false⟩ else ⟨q.at_, q.word, false⟩
noncomputable def fdFns : List (FuncId × Func) := [(19, Tryd.f19), (54, Tryd.f54), (28, Tryd.f28), (33, Tryd.f33), (20, Tryd.f20), (18, Tryd.f18), (32, Tryd.f32), (35, Tryd.f35), (34, Tryd.f34), (30, Tryd.f30)]
theorem fdFns_ok : ∀ e ∈ fdFns, FnOK Tryd.prog e.1 e.2 :=
  fns_ok_cons ⟨Tryd.func19, by kernel_rfl, by kernel_rfl⟩ <| fns_ok_cons ⟨Tryd.func54, by kernel_rfl, by kernel_rfl⟩ <| fns_ok_cons ⟨Tryd.func28, by kernel_rfl, by kernel_rfl⟩ <| fns_ok_cons ⟨Tryd.func33, by kernel_rfl, by kernel_rfl⟩ <| fns_ok_cons ⟨Tryd.func20, by kernel_rfl, by kernel_rfl⟩ <| fns_ok_cons ⟨Tryd.func18, by kernel_rfl, by kernel_rfl⟩ <| fns_ok_cons ⟨Tryd.func32, by kernel_rfl, by kernel_rfl⟩ <| fns_ok_cons ⟨Tryd.func35, by kernel_rfl, by kernel_rfl⟩ <| fns_ok_cons ⟨Tryd.func34, by kernel_rfl, by kernel_rfl⟩ <| fns_ok_cons ⟨Tryd.func30, by kernel_rfl, by kernel_rfl⟩ <| fns_ok_nil rfl
def fd1 : List (FuncId × Orc) := [(14, fitsO), (15, fitsO), (25, fitWO)] ++ wordOrcs ++ memOrcs ++ confOrcs ++ refMemOrcs
theorem fd1_ok : Sounds Tryd.prog Tab fd1 := sounds_append (sounds_append (sounds_append (sounds_append (sounds_cons fits_sound <| sounds_cons fitsQ_sound <| sounds_cons fitW_sound sounds_nil) wordOrcs_ok) memOrcs_ok) confOrcs_ok) refMemOrcs_ok
noncomputable def fd1Env : Env := mkEnv Tryd.prog fdFns [] fd1 []
theorem fd1Env_ok (X : Nat → Prop) (w0 : World) (h0 : X 0) (hB : Bnd X w0) (hT : Tab w0) : EnvOK fd1Env X w0 := mkEnv_ok (fun e he => by cases he) (by kernel_rfl) fdFns_ok fd1_ok lpSounds_nil h0 hB hT
abbrev pp1 : Value := .pointer (some ⟨1, 0, none⟩)
abbrev memQt (k n : Nat) (t : Int) (l : List Int) : List Go.Sx.Blk := [.cells true true [.slice (some ⟨k, 0, some 1⟩) n 0, .int .i64 t], .ints true true l]
theorem fstep_tree (cf : Cf) (k own : Int) (q : Fq) (n c : Nat) (t : Int) (l : List Int) : (callV fd1Env 40 19 [p0, pp1] (fdB cf k own q :: memAt 2 n c t l)).get =
    bif q.found then some (.bool true, fdB cf k own q :: memAt 2 n c t l) else bif decide (q.at_ ≥ cf.s) then some (.bool true, fdB cf k own q :: memAt 2 n c t l) else
    bif okM n l then bif (decS (fload cf n l q)).isSome then bif fitsS (slt0 (decS (fload cf n l q))) k own then some (.bool true, fdB cf k own ⟨q.at_, fload cf n l q, true⟩ :: memAt 2 n c (tcS n (cellC cf q.at_) t) l)
      else some (.bool (decide (w64 (q.at_ + 1) ≥ cf.s)), fdB cf k own ⟨w64 (q.at_ + 1), q.word, q.found⟩ :: memAt 2 n c (tcS n (cellC cf q.at_) t) l) else some (.bool (decide (w64 (q.at_ + 1) ≥ cf.s)), fdB cf k own ⟨w64 (q.at_ + 1), q.word, q.found⟩ :: memAt 2 n c (tcS n (cellC cf q.at_) t) l) else none := by kernel_rfl
theorem fstepQ_tree (cf : Cf) (k own : Int) (q : Fq) (n : Nat) (t : Int) (l : List Int) : (callV fd1Env 40 32 [p0, pp1] (fdB cf k own q :: memQt 2 n t l)).get =
    bif q.found then some (.bool true, fdB cf k own q :: memQt 2 n t l) else bif decide (q.at_ ≥ cf.s) then some (.bool true, fdB cf k own q :: memQt 2 n t l) else
    bif okM n l then bif fitW decA k own (fload cf n l q) then some (.bool true, fdB cf k own ⟨q.at_, fload cf n l q, fitW decA k own (fload cf n l q)⟩ :: memQt 2 n (tcS n (cellC cf q.at_) t) l)
      else some (.bool (w64 (q.at_ + 1) == cf.s), fdB cf k own ⟨w64 (q.at_ + 1), fload cf n l q, fitW decA k own (fload cf n l q)⟩ :: memQt 2 n (tcS n (cellC cf q.at_) t) l) else none := by kernel_rfl
theorem fgo_tree (cf : Cf) (k own : Int) (q : Fq) : (callV fd1Env 40 28 [p0] [fdB cf k own q]).get = bif q.found then some (undef, [fdB cf k own ⟨w64 (q.at_ + 1), q.word, false⟩]) else some (undef, [fdB cf k own q]) := by kernel_rfl
theorem fgoQ_tree (cf : Cf) (k own : Int) (q : Fq) : (callV fd1Env 40 35 [p0] [fdB cf k own q]).get = bif q.found then some (undef, [fdB cf k own ⟨w64 (q.at_ + 1), q.word, false⟩]) else some (undef, [fdB cf k own ⟨q.at_, q.word, false⟩]) := by kernel_rfl
theorem fagain_tree (cf : Cf) (k own : Int) (q : Fq) : (callV fd1Env 40 33 [p0] [fdB cf k own q]).get = some (undef, [fdB cf k own (fagain q)]) := by kernel_rfl
theorem fagainQ_tree (cf : Cf) (k own : Int) (q : Fq) : (callV fd1Env 40 34 [p0] [fdB cf k own q]).get = some (undef, [fdB cf k own (fagain q)]) := by kernel_rfl
def fstepO : Orc := fun args lh => match args, lh with
  | [.pointer (some ⟨0, 0, none⟩), .pointer (some ⟨1, 0, none⟩)], [.cells true true [.int .i64 cw, .int .i64 cs, .int .i64 cst, .int .i64 cwt, .int .i64 cu, .int .i64 k, .int .i64 own, .int .i64 a, .int .i64 wd, .bool fo], .cells true true [.slice (some ⟨2, 0, none⟩) n c, .int .i64 t], .ints true true l] =>
    .br (okM n l) (.ret (.bool (fret ⟨cw, cs, cst, cwt, cu⟩ k own n l ⟨a, wd, fo⟩), fdB ⟨cw, cs, cst, cwt, cu⟩ k own (fstep ⟨cw, cs, cst, cwt, cu⟩ k own n l ⟨a, wd, fo⟩) :: memAt 2 n c (ftch ⟨cw, cs, cst, cwt, cu⟩ n ⟨a, wd, fo⟩ t) l)) .bad
  | _, _ => .bad
def fstepQO : Orc := fun args lh => match args, lh with
  | [.pointer (some ⟨0, 0, none⟩), .pointer (some ⟨1, 0, none⟩)], [.cells true true [.int .i64 cw, .int .i64 cs, .int .i64 cst, .int .i64 cwt, .int .i64 cu, .int .i64 k, .int .i64 own, .int .i64 a, .int .i64 wd, .bool fo], .cells true true [.slice (some ⟨2, 0, some 1⟩) n 0, .int .i64 t], .ints true true l] =>
    .br (okM n l) (.ret (.bool (fretQ ⟨cw, cs, cst, cwt, cu⟩ k own n l ⟨a, wd, fo⟩), fdB ⟨cw, cs, cst, cwt, cu⟩ k own (fstepQ ⟨cw, cs, cst, cwt, cu⟩ k own n l ⟨a, wd, fo⟩) :: memQt 2 n (ftch ⟨cw, cs, cst, cwt, cu⟩ n ⟨a, wd, fo⟩ t) l)) .bad
  | _, _ => .bad
def fdM (F : Fq → Fq) : Orc := fun args lh => match args, lh with
  | [.pointer (some ⟨0, 0, none⟩)], [.cells true true [.int .i64 cw, .int .i64 cs, .int .i64 cst, .int .i64 cwt, .int .i64 cu, .int .i64 k, .int .i64 own, .int .i64 a, .int .i64 wd, .bool fo]] => .ret (undef, [fdB ⟨cw, cs, cst, cwt, cu⟩ k own (F ⟨a, wd, fo⟩)])
  | _, _ => .bad
theorem fstep_sound : Sound Tryd.prog Tab 19 fstepO := by
  refine Sound.of_run ⟨Tryd.func19, by kernel_rfl, by kernel_rfl⟩ rfl rfl fd1Env_ok 40 fun args lh r hr => ?_
  unfold fstepO at hr
  split at hr
  · rename_i cw cs cst cwt cu k own a wd fo n c t l
    rcases M.get_br_some hr with ⟨hc, h2⟩ | ⟨_, h2⟩
    · simp only [M.get_ret, Option.some.injEq] at h2; subst h2
      refine (fstep_tree ⟨cw, cs, cst, cwt, cu⟩ k own ⟨a, wd, fo⟩ n c t l).trans ?_
      unfold fret fstep ftch fdone fitW
      rw [hc]
      cases fo with
      | true => rfl
      | false =>
        cases decide (a ≥ cs) with
        | true => rfl
        | false =>
          simp only [cond_false, cond_true]
          cases (decS (fload ⟨cw, cs, cst, cwt, cu⟩ n l ⟨a, wd, false⟩)).isSome with
          | false => rfl
          | true =>
            cases fitsS (slt0 (decS (fload ⟨cw, cs, cst, cwt, cu⟩ n l ⟨a, wd, false⟩))) k own <;> rfl
    · cases h2
  · cases hr
theorem fstepQ_sound : Sound Tryd.prog Tab 32 fstepQO := by
  refine Sound.of_run ⟨Tryd.func32, by kernel_rfl, by kernel_rfl⟩ rfl rfl fd1Env_ok 40 fun args lh r hr => ?_
  unfold fstepQO at hr
  split at hr
  · rename_i cw cs cst cwt cu k own a wd fo n t l
    rcases M.get_br_some hr with ⟨hc, h2⟩ | ⟨_, h2⟩
    · simp only [M.get_ret, Option.some.injEq] at h2; subst h2
      refine (fstepQ_tree ⟨cw, cs, cst, cwt, cu⟩ k own ⟨a, wd, fo⟩ n t l).trans ?_
      unfold fretQ fstepQ ftch fdone
      rw [hc]
      cases fo with
      | true => rfl
      | false =>
        cases decide (a ≥ cs) with
        | true => rfl
        | false =>
          simp only [cond_false, cond_true]
          cases fitW decA k own (fload ⟨cw, cs, cst, cwt, cu⟩ n l ⟨a, wd, false⟩) <;> rfl
    · cases h2
  · cases hr
theorem fgo_sound : Sound Tryd.prog Tab 28 (fdM fgo) := by
  refine Sound.of_run ⟨Tryd.func28, by kernel_rfl, by kernel_rfl⟩ rfl rfl fd1Env_ok 40 fun args lh r hr => ?_
  unfold fdM at hr
  split at hr
  · rename_i cw cs cst cwt cu k own a wd fo
    simp only [M.get_ret, Option.some.injEq] at hr; subst hr
    exact (fgo_tree ⟨cw, cs, cst, cwt, cu⟩ k own ⟨a, wd, fo⟩).trans (by cases fo <;> rfl)
  · cases hr
theorem fgoQ_sound : Sound Tryd.prog Tab 35 (fdM fgoQ) := by
  refine Sound.of_run ⟨Tryd.func35, by kernel_rfl, by kernel_rfl⟩ rfl rfl fd1Env_ok 40 fun args lh r hr => ?_
  unfold fdM at hr
  split at hr
  · rename_i cw cs cst cwt cu k own a wd fo
    simp only [M.get_ret, Option.some.injEq] at hr; subst hr
    exact (fgoQ_tree ⟨cw, cs, cst, cwt, cu⟩ k own ⟨a, wd, fo⟩).trans (by cases fo <;> rfl)
  · cases hr
theorem fagain_sound : Sound Tryd.prog Tab 33 (fdM fagain) := by
  refine Sound.of_run ⟨Tryd.func33, by kernel_rfl, by kernel_rfl⟩ rfl rfl fd1Env_ok 40 fun args lh r hr => ?_
  unfold fdM at hr
  split at hr
  · rename_i cw cs cst cwt cu k own a wd fo
    simp only [M.get_ret, Option.some.injEq] at hr; subst hr
    exact fagain_tree ⟨cw, cs, cst, cwt, cu⟩ k own ⟨a, wd, fo⟩
  · cases hr
theorem fagainQ_sound : Sound Tryd.prog Tab 34 (fdM fagain) := by
  refine Sound.of_run ⟨Tryd.func34, by kernel_rfl, by kernel_rfl⟩ rfl rfl fd1Env_ok 40 fun args lh r hr => ?_
  unfold fdM at hr
  split at hr
  · rename_i cw cs cst cwt cu k own a wd fo
    simp only [M.get_ret, Option.some.injEq] at hr; subst hr
    exact fagainQ_tree ⟨cw, cs, cst, cwt, cu⟩ k own ⟨a, wd, fo⟩
  · cases hr
def findOrcs : List (FuncId × Orc) := [(19, frameM fstepO), (32, frameM fstepQO), (28, frameM (fdM fgo)), (35, frameM (fdM fgoQ)), (33, frameM (fdM fagain)), (34, frameM (fdM fagain)), (14, fitsO), (15, fitsO), (25, fitWO)]
theorem findOrcs_ok : Sounds Tryd.prog Tab findOrcs := sounds_cons (fstep_sound.frame tab_kept) <| sounds_cons (fstepQ_sound.frame tab_kept) <| sounds_cons (fgo_sound.frame tab_kept) <| sounds_cons (fgoQ_sound.frame tab_kept) <| sounds_cons (fagain_sound.frame tab_kept) <| sounds_cons (fagainQ_sound.frame tab_kept) <| sounds_cons fits_sound <| sounds_cons fitsQ_sound <| sounds_cons fitW_sound sounds_nil
end Go.Proofs.YtcakklnacnnlaaaDoor
