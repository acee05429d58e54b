
/- GivePlA, GivePlP, GivePlT, GivePlW, GivePlX, joined. No condition of its own. -/
import Derived.Test.YthfoljgaiincdaaGreatDoorGiveYB
import Derived.Test.YthfoljgaiincdaaGreatDoorLaid18
import Derived.Test.YthfoljgaiincdaaGreatDoorRetPG
import Derived.Test.YthfoljgaiincdaaGreatDoorGiveL
import Derived.Test.YthfoljgaiincdaaGreatDoorSxMf
/- GivePlays: steps by what happens. No condition of its own. -/
namespace Go.Proofs.YthfoljgaiincdaaGreatDoor
open Go.RowKit Go.Fld Go.Sx
set_option linter.unusedVariables false
set_option linter.unusedSimpArgs false
def gsNO : Orc := fun args lh => match args, lh with
  | [.pointer (some ⟨0, 0, none⟩), .pointer (some ⟨1, 0, none⟩)], [.cells true true [.int .i64 cw, .int .i64 cs, .int .i64 cst, .int .i64 cwt, .int .i64 cu, .int .i64 w, .int .i64 i, .int .i64 gen, .bool disc, .int .i64 st, .int .i64 cl, .int .i64 wd, .pointer none, .int .i64 e], .cells true true [.slice (some ⟨2, 0, none⟩) n c, .int .i64 t], .ints true true l] => .br (okM n l && gOKN st && !gGoes n l ⟨⟨cw, cs, cst, cwt, cu⟩, w, i, gen, disc, st, cl, wd, e⟩) (.ret (gStN ⟨⟨cw, cs, cst, cwt, cu⟩, w, i, gen, disc, st, cl, wd, e⟩ n c t l)) .bad
  | _, _ => .bad
theorem gsN_sound : Sound Tryz.prog Tab 26 gsNO := by
  refine Sound.of_run ⟨Tryz.func26, by kernel_rfl, by kernel_rfl⟩ rfl rfl gvEnv_ok 40 fun args lh r hr => ?_
  unfold gsNO at hr
  split at hr
  · rename_i cw cs cst cwt cu w i gen disc st cl wd e n c t l
    rcases M.get_br_some hr with ⟨hc, hr⟩ | ⟨_, hr⟩
    · rw [Bool.and_eq_true, Bool.and_eq_true, Bool.not_eq_true'] at hc
      simp only [M.get_ret, Option.some.injEq] at hr; subst hr
      refine (gN_run ⟨⟨cw, cs, cst, cwt, cu⟩, w, i, gen, disc, st, cl, wd, e⟩ n c t l hc.1.1 hc.1.2).trans ?_
      rw [hc.2]; rfl
    · cases hr
  · cases hr
def gsGO : Orc := fun args lh => match args, lh with
  | [.pointer (some ⟨0, 0, none⟩), .pointer (some ⟨1, 0, none⟩)], [.cells true true [.int .i64 cw, .int .i64 cs, .int .i64 cst, .int .i64 cwt, .int .i64 cu, .int .i64 w, .int .i64 i, .int .i64 gen, .bool disc, .int .i64 st, .int .i64 cl, .int .i64 wd, .pointer none, .int .i64 e], .cells true true [.slice (some ⟨2, 0, none⟩) n c, .int .i64 t], .ints true true l] => .br (okM n l && gOKN st && gGoes n l ⟨⟨cw, cs, cst, cwt, cu⟩, w, i, gen, disc, st, cl, wd, e⟩) (.ret (gGoN ⟨⟨cw, cs, cst, cwt, cu⟩, w, i, gen, disc, st, cl, wd, e⟩ n c t l)) .bad
  | _, _ => .bad
theorem gsG_sound : Sound Tryz.prog Tab 26 gsGO := by
  refine Sound.of_run ⟨Tryz.func26, by kernel_rfl, by kernel_rfl⟩ rfl rfl gvEnv_ok 40 fun args lh r hr => ?_
  unfold gsGO at hr
  split at hr
  · rename_i cw cs cst cwt cu w i gen disc st cl wd e n c t l
    rcases M.get_br_some hr with ⟨hc, hr⟩ | ⟨_, hr⟩
    · rw [Bool.and_eq_true, Bool.and_eq_true] at hc
      simp only [M.get_ret, Option.some.injEq] at hr; subst hr
      refine (gN_run ⟨⟨cw, cs, cst, cwt, cu⟩, w, i, gen, disc, st, cl, wd, e⟩ n c t l hc.1.1 hc.1.2).trans ?_
      rw [hc.2]; rfl
    · cases hr
  · cases hr
def gsRO : Orc := fun args lh => match args, lh with
  | [.pointer (some ⟨0, 0, none⟩), .pointer (some ⟨1, 0, none⟩)], [.cells true true [.int .i64 cw, .int .i64 cs, .int .i64 cst, .int .i64 cwt, .int .i64 cu, .int .i64 w, .int .i64 i, .int .i64 gen, .bool disc, .int .i64 st, .int .i64 cl, .int .i64 wd, .pointer (some ⟨2, 0, none⟩), .int .i64 e], .cells true true [.slice (some ⟨3, 0, none⟩) n c, .int .i64 t], .cells true true [.int .i64 ra, .int .i64 rb, .int .i64 re, .func (.func f) fa fc, .bool rs, .bool rd], .ints true true l] =>
    match fa.toList, fc.toList with
    | [.pointer (some ⟨2, 0, none⟩)], [] => .br (okM n l && gOKN st && !gGoes n l ⟨⟨cw, cs, cst, cwt, cu⟩, w, i, gen, disc, st, cl, wd, e⟩) (.ret (gStR ⟨⟨cw, cs, cst, cwt, cu⟩, w, i, gen, disc, st, cl, wd, e⟩ ⟨ra, rb, re, f, rs, rd⟩ n c t l)) .bad
    | _, _ => .bad
  | _, _ => .bad
theorem gsR_sound : Sound Tryz.prog Tab 26 gsRO := by
  refine Sound.of_run ⟨Tryz.func26, by kernel_rfl, by kernel_rfl⟩ rfl rfl gvEnv_ok 40 fun args lh r hr => ?_
  unfold gsRO at hr
  split at hr
  · rename_i cw cs cst cwt cu w i gen disc st cl wd e n c t ra rb re f fa fc rs rd l
    split at hr
    · rename_i h1 h2
      obtain rfl : fa = #[.pointer (some ⟨2, 0, none⟩)] := Array.toList_inj.1 h1
      obtain rfl : fc = #[] := Array.toList_inj.1 h2
      rcases M.get_br_some hr with ⟨hc, hr⟩ | ⟨_, hr⟩
      · rw [Bool.and_eq_true, Bool.and_eq_true, Bool.not_eq_true'] at hc
        simp only [M.get_ret, Option.some.injEq] at hr; subst hr
        refine (gR_run ⟨⟨cw, cs, cst, cwt, cu⟩, w, i, gen, disc, st, cl, wd, e⟩ ⟨ra, rb, re, f, rs, rd⟩ n c t l hc.1.1 hc.1.2).trans ?_
        rw [hc.2]; rfl
      · cases hr
    · cases hr
  · cases hr
def gsRGO : Orc := fun args lh => match args, lh with
  | [.pointer (some ⟨0, 0, none⟩), .pointer (some ⟨1, 0, none⟩)], [.cells true true [.int .i64 cw, .int .i64 cs, .int .i64 cst, .int .i64 cwt, .int .i64 cu, .int .i64 w, .int .i64 i, .int .i64 gen, .bool disc, .int .i64 st, .int .i64 cl, .int .i64 wd, .pointer (some ⟨2, 0, none⟩), .int .i64 e], .cells true true [.slice (some ⟨3, 0, none⟩) n c, .int .i64 t], .cells true true [.int .i64 ra, .int .i64 rb, .int .i64 re, .func (.func f) fa fc, .bool rs, .bool rd], .ints true true l] =>
    match fa.toList, fc.toList with
    | [.pointer (some ⟨2, 0, none⟩)], [] => .br (okM n l && gOKN st && gGoes n l ⟨⟨cw, cs, cst, cwt, cu⟩, w, i, gen, disc, st, cl, wd, e⟩) (.ret (gGoR ⟨⟨cw, cs, cst, cwt, cu⟩, w, i, gen, disc, st, cl, wd, e⟩ ⟨ra, rb, re, f, rs, rd⟩ n c t l)) .bad
    | _, _ => .bad
  | _, _ => .bad
theorem gsRG_sound : Sound Tryz.prog Tab 26 gsRGO := by
  refine Sound.of_run ⟨Tryz.func26, by kernel_rfl, by kernel_rfl⟩ rfl rfl gvEnv_ok 40 fun args lh r hr => ?_
  unfold gsRGO at hr
  split at hr
  · rename_i cw cs cst cwt cu w i gen disc st cl wd e n c t ra rb re f fa fc rs rd l
    split at hr
    · rename_i h1 h2
      obtain rfl : fa = #[.pointer (some ⟨2, 0, none⟩)] := Array.toList_inj.1 h1
      obtain rfl : fc = #[] := Array.toList_inj.1 h2
      rcases M.get_br_some hr with ⟨hc, hr⟩ | ⟨_, hr⟩
      · rw [Bool.and_eq_true, Bool.and_eq_true] at hc
        simp only [M.get_ret, Option.some.injEq] at hr; subst hr
        refine (gR_run ⟨⟨cw, cs, cst, cwt, cu⟩, w, i, gen, disc, st, cl, wd, e⟩ ⟨ra, rb, re, f, rs, rd⟩ n c t l hc.1.1 hc.1.2).trans ?_
        rw [hc.2]; rfl
      · cases hr
    · cases hr
  · cases hr
def gsR3O : Orc := fun args lh => match args, lh with
  | [.pointer (some ⟨0, 0, none⟩), .pointer (some ⟨1, 0, none⟩)], [.cells true true [.int .i64 cw, .int .i64 cs, .int .i64 cst, .int .i64 cwt, .int .i64 cu, .int .i64 w, .int .i64 i, .int .i64 gen, .bool disc, .int .i64 st, .int .i64 cl, .int .i64 wd, .pointer (some ⟨2, 0, none⟩), .int .i64 e], .cells true true [.slice (some ⟨3, 0, none⟩) n c, .int .i64 t], .cells true true [.int .i64 ra, .int .i64 rb, .int .i64 re, .func (.func f) fa fc, .bool rs, .bool rd], .ints true true l] =>
    match fa.toList, fc.toList with
    | [.pointer (some ⟨2, 0, none⟩)], [] => .br (okM n l && rOK f && (st == 3)) (.ret (gStG ⟨⟨cw, cs, cst, cwt, cu⟩, w, i, gen, disc, st, cl, wd, e⟩ ⟨ra, rb, re, f, rs, rd⟩ n c t l)) .bad
    | _, _ => .bad
  | _, _ => .bad
theorem gsR3_sound : Sound Tryz.prog Tab 26 gsR3O := by
  refine Sound.of_run ⟨Tryz.func26, by kernel_rfl, by kernel_rfl⟩ rfl rfl gvEnv_ok 40 fun args lh r hr => ?_
  unfold gsR3O at hr
  split at hr
  · rename_i cw cs cst cwt cu w i gen disc st cl wd e n c t ra rb re f fa fc rs rd l
    split at hr
    · rename_i h1 h2
      obtain rfl : fa = #[.pointer (some ⟨2, 0, none⟩)] := Array.toList_inj.1 h1
      obtain rfl : fc = #[] := Array.toList_inj.1 h2
      rcases M.get_br_some hr with ⟨hc, hr⟩ | ⟨_, hr⟩
      · rw [Bool.and_eq_true, Bool.and_eq_true, beq_iff_eq] at hc
        simp only [M.get_ret, Option.some.injEq] at hr; subst hr
        exact gR3_run ⟨⟨cw, cs, cst, cwt, cu⟩, w, i, gen, disc, st, cl, wd, e⟩ ⟨ra, rb, re, f, rs, rd⟩ n c t l hc.1.1 hc.1.2 hc.2
      · cases hr
    · cases hr
  · cases hr
def ysNO : Orc := fun args lh => match args, lh with
  | [.pointer (some ⟨0, 0, none⟩), .pointer (some ⟨1, 0, none⟩)], [.cells true true [.int .i64 cw, .int .i64 cs, .int .i64 cst, .int .i64 cwt, .int .i64 cu, .int .i64 w, .int .i64 i, .int .i64 gen, .bool disc, .int .i64 cl, .int .i64 wd, .string b, .pointer none, .int .i64 e], .cells true true [.slice (some ⟨2, 0, some 1⟩) n 0, .int .i64 t], .ints true true l] => .br (okM n l && bOK b && gOKN (stOf b) && !yGoes n l (gqOf ⟨⟨cw, cs, cst, cwt, cu⟩, w, i, gen, disc, cl, wd, b, e⟩)) (.ret (yStN (gqOf ⟨⟨cw, cs, cst, cwt, cu⟩, w, i, gen, disc, cl, wd, b, e⟩) n t l)) .bad
  | _, _ => .bad
theorem ysN_sound : Sound Tryz.prog Tab 27 ysNO := by
  refine Sound.of_run ⟨Tryz.func27, by kernel_rfl, by kernel_rfl⟩ rfl rfl gyEnv_ok 40 fun args lh r hr => ?_
  unfold ysNO at hr
  split at hr
  · rename_i cw cs cst cwt cu w i gen disc cl wd b e n t l
    rcases M.get_br_some hr with ⟨hc, hr⟩ | ⟨_, hr⟩
    · rw [Bool.and_eq_true, Bool.and_eq_true, Bool.and_eq_true, Bool.not_eq_true'] at hc
      simp only [M.get_ret, Option.some.injEq] at hr; subst hr
      have hy := gyOf_gqOf (y := ⟨⟨cw, cs, cst, cwt, cu⟩, w, i, gen, disc, cl, wd, b, e⟩) hc.1.1.2
      have h0 := yN_run (gqOf ⟨⟨cw, cs, cst, cwt, cu⟩, w, i, gen, disc, cl, wd, b, e⟩) n t l hc.1.1.1 hc.1.2
      rw [hy] at h0
      refine h0.trans ?_
      rw [hc.2]; rfl
    · cases hr
  · cases hr
def ysGO : Orc := fun args lh => match args, lh with
  | [.pointer (some ⟨0, 0, none⟩), .pointer (some ⟨1, 0, none⟩)], [.cells true true [.int .i64 cw, .int .i64 cs, .int .i64 cst, .int .i64 cwt, .int .i64 cu, .int .i64 w, .int .i64 i, .int .i64 gen, .bool disc, .int .i64 cl, .int .i64 wd, .string b, .pointer none, .int .i64 e], .cells true true [.slice (some ⟨2, 0, some 1⟩) n 0, .int .i64 t], .ints true true l] => .br (okM n l && bOK b && gOKN (stOf b) && yGoes n l (gqOf ⟨⟨cw, cs, cst, cwt, cu⟩, w, i, gen, disc, cl, wd, b, e⟩)) (.ret (yGoN (gqOf ⟨⟨cw, cs, cst, cwt, cu⟩, w, i, gen, disc, cl, wd, b, e⟩) n t l)) .bad
  | _, _ => .bad
theorem ysG_sound : Sound Tryz.prog Tab 27 ysGO := by
  refine Sound.of_run ⟨Tryz.func27, by kernel_rfl, by kernel_rfl⟩ rfl rfl gyEnv_ok 40 fun args lh r hr => ?_
  unfold ysGO at hr
  split at hr
  · rename_i cw cs cst cwt cu w i gen disc cl wd b e n t l
    rcases M.get_br_some hr with ⟨hc, hr⟩ | ⟨_, hr⟩
    · rw [Bool.and_eq_true, Bool.and_eq_true, Bool.and_eq_true] at hc
      simp only [M.get_ret, Option.some.injEq] at hr; subst hr
      have hy := gyOf_gqOf (y := ⟨⟨cw, cs, cst, cwt, cu⟩, w, i, gen, disc, cl, wd, b, e⟩) hc.1.1.2
      have h0 := yN_run (gqOf ⟨⟨cw, cs, cst, cwt, cu⟩, w, i, gen, disc, cl, wd, b, e⟩) n t l hc.1.1.1 hc.1.2
      rw [hy] at h0
      refine h0.trans ?_
      rw [hc.2]; rfl
    · cases hr
  · cases hr
def ysRO : Orc := fun args lh => match args, lh with
  | [.pointer (some ⟨0, 0, none⟩), .pointer (some ⟨1, 0, none⟩)], [.cells true true [.int .i64 cw, .int .i64 cs, .int .i64 cst, .int .i64 cwt, .int .i64 cu, .int .i64 w, .int .i64 i, .int .i64 gen, .bool disc, .int .i64 cl, .int .i64 wd, .string b, .pointer (some ⟨2, 0, none⟩), .int .i64 e], .cells true true [.slice (some ⟨3, 0, some 1⟩) n 0, .int .i64 t], .cells true true [.int .i64 dw, .int .i64 ds, .int .i64 dst, .int .i64 dwt, .int .i64 du, .int .i64 ri, .int .i64 rw, .int .i64 re, .int .i64 rst, .bool rs, .bool rd], .ints true true l] => .br (okM n l && bOK b && gOKN (stOf b) && !yGoes n l (gqOf ⟨⟨cw, cs, cst, cwt, cu⟩, w, i, gen, disc, cl, wd, b, e⟩)) (.ret (yStR (gqOf ⟨⟨cw, cs, cst, cwt, cu⟩, w, i, gen, disc, cl, wd, b, e⟩) ⟨⟨dw, ds, dst, dwt, du⟩, ri, rw, re, rst, rs, rd⟩ n t l)) .bad
  | _, _ => .bad
theorem ysR_sound : Sound Tryz.prog Tab 27 ysRO := by
  refine Sound.of_run ⟨Tryz.func27, by kernel_rfl, by kernel_rfl⟩ rfl rfl gyEnv_ok 40 fun args lh r hr => ?_
  unfold ysRO at hr
  split at hr
  · rename_i cw cs cst cwt cu w i gen disc cl wd b e n t dw ds dst dwt du ri rw' re rst rs rd l
    rcases M.get_br_some hr with ⟨hc, hr⟩ | ⟨_, hr⟩
    · rw [Bool.and_eq_true, Bool.and_eq_true, Bool.and_eq_true, Bool.not_eq_true'] at hc
      simp only [M.get_ret, Option.some.injEq] at hr; subst hr
      have hy := gyOf_gqOf (y := ⟨⟨cw, cs, cst, cwt, cu⟩, w, i, gen, disc, cl, wd, b, e⟩) hc.1.1.2
      have h0 := yR_run (gqOf ⟨⟨cw, cs, cst, cwt, cu⟩, w, i, gen, disc, cl, wd, b, e⟩) ⟨⟨dw, ds, dst, dwt, du⟩, ri, rw', re, rst, rs, rd⟩ n t l hc.1.1.1 hc.1.2
      rw [hy] at h0
      refine h0.trans ?_
      rw [hc.2]; rfl
    · cases hr
  · cases hr
def ysRGO : Orc := fun args lh => match args, lh with
  | [.pointer (some ⟨0, 0, none⟩), .pointer (some ⟨1, 0, none⟩)], [.cells true true [.int .i64 cw, .int .i64 cs, .int .i64 cst, .int .i64 cwt, .int .i64 cu, .int .i64 w, .int .i64 i, .int .i64 gen, .bool disc, .int .i64 cl, .int .i64 wd, .string b, .pointer (some ⟨2, 0, none⟩), .int .i64 e], .cells true true [.slice (some ⟨3, 0, some 1⟩) n 0, .int .i64 t], .cells true true [.int .i64 dw, .int .i64 ds, .int .i64 dst, .int .i64 dwt, .int .i64 du, .int .i64 ri, .int .i64 rw, .int .i64 re, .int .i64 rst, .bool rs, .bool rd], .ints true true l] => .br (okM n l && bOK b && gOKN (stOf b) && yGoes n l (gqOf ⟨⟨cw, cs, cst, cwt, cu⟩, w, i, gen, disc, cl, wd, b, e⟩)) (.ret (yGoR (gqOf ⟨⟨cw, cs, cst, cwt, cu⟩, w, i, gen, disc, cl, wd, b, e⟩) ⟨⟨dw, ds, dst, dwt, du⟩, ri, rw, re, rst, rs, rd⟩ n t l)) .bad
  | _, _ => .bad
theorem ysRG_sound : Sound Tryz.prog Tab 27 ysRGO := by
  refine Sound.of_run ⟨Tryz.func27, by kernel_rfl, by kernel_rfl⟩ rfl rfl gyEnv_ok 40 fun args lh r hr => ?_
  unfold ysRGO at hr
  split at hr
  · rename_i cw cs cst cwt cu w i gen disc cl wd b e n t dw ds dst dwt du ri rw' re rst rs rd l
    rcases M.get_br_some hr with ⟨hc, hr⟩ | ⟨_, hr⟩
    · rw [Bool.and_eq_true, Bool.and_eq_true, Bool.and_eq_true] at hc
      simp only [M.get_ret, Option.some.injEq] at hr; subst hr
      have hy := gyOf_gqOf (y := ⟨⟨cw, cs, cst, cwt, cu⟩, w, i, gen, disc, cl, wd, b, e⟩) hc.1.1.2
      have h0 := yR_run (gqOf ⟨⟨cw, cs, cst, cwt, cu⟩, w, i, gen, disc, cl, wd, b, e⟩) ⟨⟨dw, ds, dst, dwt, du⟩, ri, rw', re, rst, rs, rd⟩ n t l hc.1.1.1 hc.1.2
      rw [hy] at h0
      refine h0.trans ?_
      rw [hc.2]; rfl
    · cases hr
  · cases hr
def ysR3O : Orc := fun args lh => match args, lh with
  | [.pointer (some ⟨0, 0, none⟩), .pointer (some ⟨1, 0, none⟩)], [.cells true true [.int .i64 cw, .int .i64 cs, .int .i64 cst, .int .i64 cwt, .int .i64 cu, .int .i64 w, .int .i64 i, .int .i64 gen, .bool disc, .int .i64 cl, .int .i64 wd, .string b, .pointer (some ⟨2, 0, none⟩), .int .i64 e], .cells true true [.slice (some ⟨3, 0, some 1⟩) n 0, .int .i64 t], .cells true true [.int .i64 dw, .int .i64 ds, .int .i64 dst, .int .i64 dwt, .int .i64 du, .int .i64 ri, .int .i64 rw, .int .i64 re, .int .i64 rst, .bool rs, .bool rd], .ints true true l] => .br (okM n l && bOK b && (stOf b == 3)) (.ret (yStG (gqOf ⟨⟨cw, cs, cst, cwt, cu⟩, w, i, gen, disc, cl, wd, b, e⟩) ⟨⟨dw, ds, dst, dwt, du⟩, ri, rw, re, rst, rs, rd⟩ n t l)) .bad
  | _, _ => .bad
theorem ysR3_sound : Sound Tryz.prog Tab 27 ysR3O := by
  refine Sound.of_run ⟨Tryz.func27, by kernel_rfl, by kernel_rfl⟩ rfl rfl gyEnv_ok 40 fun args lh r hr => ?_
  unfold ysR3O at hr
  split at hr
  · rename_i cw cs cst cwt cu w i gen disc cl wd b e n t dw ds dst dwt du ri rw' re rst rs rd l
    rcases M.get_br_some hr with ⟨hc, hr⟩ | ⟨_, hr⟩
    · rw [Bool.and_eq_true, Bool.and_eq_true, beq_iff_eq] at hc
      simp only [M.get_ret, Option.some.injEq] at hr; subst hr
      have hy := gyOf_gqOf (y := ⟨⟨cw, cs, cst, cwt, cu⟩, w, i, gen, disc, cl, wd, b, e⟩) hc.1.2
      have h0 := yR3_run (gqOf ⟨⟨cw, cs, cst, cwt, cu⟩, w, i, gen, disc, cl, wd, b, e⟩) ⟨⟨dw, ds, dst, dwt, du⟩, ri, rw', re, rst, rs, rd⟩ n t l hc.1.1 hc.2
      rw [hy] at h0
      exact h0
    · cases hr
  · cases hr
end Go.Proofs.YthfoljgaiincdaaGreatDoor

/- GivePlays: the program's step and the document's tell one. No condition of its own. -/
namespace Go.Proofs.YthfoljgaiincdaaGreatDoor
open Go.RowKit Go.Fld Go.Sx
set_option linter.unusedVariables false
set_option linter.unusedSimpArgs false
theorem gq_st {n : Nat} {l : List Int} {q : Gq} (h : gOKN q.st = true) : (gGoes n l q = true → (gq n l q).st = 3) ∧ (gGoes n l q = false → gOKN (gq n l q).st = true) := by
  rcases gOKN_cases h with h | h | h | h
  · rw [gGoes_0 h, gq_0 h]
    refine ⟨fun e => (by cases e), fun _ => ?_⟩
    cases (ldS n l 0 == 2) <;> rfl
  · rw [gGoes_1 h, gq_1 h]
    cases decide (gCell q < 0) with
    | true => exact ⟨fun e => (by cases e), fun _ => rfl⟩
    | false =>
      simp only [cond_false]
      rcases lookC_lt (decS (ldS n l (gCell q))) q with hl | hl | hl | hl <;> (rw [show gLk n l q = _ from hl]; exact ⟨fun e => (by first | rfl | cases e), fun e => (by first | rfl | cases e)⟩)
  · rw [gGoes_2 h, gq_2 h]
    refine ⟨fun e => (by cases e), fun _ => ?_⟩
    cases gHit n l q <;> rfl
  · rw [gGoes_4 h, gq_4 h]
    exact ⟨fun e => (by cases e), fun _ => by rw [h]; rfl⟩
theorem gq_wd {n : Nat} {l : List Int} {q : Gq} (h : gOKN q.st = true) (hI : AllI l) (hw : I64i q.wd) : I64i (gq n l q).wd := by
  have hx := hI.ld n (gCell q)
  rcases gOKN_cases h with h | h | h | h
  · rw [gq_0 h]
    cases (ldS n l 0 == 2) <;> exact hw
  · rw [gq_1 h]
    cases decide (gCell q < 0) with
    | true => exact hw
    | false =>
      simp only [cond_false]
      rcases lookC_lt (decS (ldS n l (gCell q))) q with hl | hl | hl | hl <;> (rw [show gLk n l q = _ from hl]; exact hx)
  · rw [gq_2 h]
    cases gHit n l q <;> exact hw
  · rw [gq_4 h]; exact hw
theorem gmem_okI {n : Nat} {l : List Int} {q : Gq} (hok : okM n l = true) (hI : AllI l) : okM n (gmem n l q) = true ∧ AllI (gmem n l q) := by
  unfold gmem
  cases q.st == 2 with
  | false => exact ⟨hok, hI⟩
  | true =>
    cases (gAft q).isSome with
    | false => exact ⟨hok, hI⟩
    | true => exact ⟨(okM_cas n l _ _ _).trans hok, hI.cas _ _ _ (aft_I _ _ _ _ _)⟩
def gpQ (N : Nat) (l : List Int) (q : Gq) (ro : Option (Rq × Rr)) : Gq := match ro with | none => gq N l q | some r => bif q.st == 3 then gqR N l q r.1 else gq N l q
def gpL (N : Nat) (l : List Int) (q : Gq) (ro : Option (Rq × Rr)) : List Int := match ro with | none => gmem N l q | some r => bif q.st == 3 then rmem N l r.1 else gmem N l q
def gpR (N : Nat) (l : List Int) (q : Gq) (ro : Option (Rq × Rr)) : Option (Rq × Rr) := match ro with
  | none => bif gGoes N l q then some (gNew N l q, yNew N l q) else none
  | some r => bif q.st == 3 then some (rstep N l r.1, rrstep N l r.2) else bif gGoes N l q then some (gNew N l q, yNew N l q) else some r
structure GpInv (N : Nat) (l : List Int) (q : Gq) (ro : Option (Rq × Rr)) : Prop where
  ok : okM N l = true
  I : AllI l
  wd : I64i q.wd
  st : gOKN q.st = true ∨ q.st = 3 ∧ ∃ r, ro = some r ∧ RpInv N l r.1 r.2
theorem GpInv.wrs {N : Nat} {l : List Int} {q : Gq} {ro : Option (Rq × Rr)} (H : GpInv N l q ro) {gi : Nat → Nat → Int} {nl : Nat} (hw : WrI gi nl) (i : Int) : GpInv N (wrsL N gi i nl l) q ro :=
  ⟨by rw [okM_wrs]; exact H.ok, H.I.wrs N gi i nl hw, H.wd, by
    rcases H.st with h | ⟨h, r, h1, h2⟩
    · exact .inl h
    · exact .inr ⟨h, r, h1, h2.wrs hw i⟩⟩
theorem not3 {st : Int} (h : gOKN st = true) : (st == 3) = false := by
  rcases gOKN_cases h with rfl | rfl | rfl | rfl <;> rfl
theorem gp_none {N : Nat} {l : List Int} {q : Gq} (h : gOKN q.st = true) (r : Rq × Rr) : gpQ N l q (some r) = gq N l q ∧ gpL N l q (some r) = gmem N l q ∧ gpR N l q (some r) = bif gGoes N l q then some (gNew N l q, yNew N l q) else some r := by
  unfold gpQ gpL gpR
  simp only [not3 h, cond_false, and_self]
/-- A step that isn't a Retire's. -/
theorem gp_plain {N : Nat} {l : List Int} {q : Gq} {ro ro' : Option (Rq × Rr)} (H : GpInv N l q ro) (h : gOKN q.st = true) (hr : ro' = bif gGoes N l q then some (gNew N l q, yNew N l q) else ro) : GpInv N (gmem N l q) (gq N l q) ro' := by
  obtain ⟨g1, g2⟩ := gmem_okI (q := q) H.ok H.I
  obtain ⟨g3, g4⟩ := gq_st (n := N) (l := l) h
  refine ⟨g1, g2, gq_wd h H.I H.wd, ?_⟩
  cases hg : gGoes N l q with
  | false => exact .inl (g4 hg)
  | true =>
    rw [hg] at hr
    exact .inr ⟨g3 hg, _, hr, ⟨g1, g2, rfl, rfl, rfl, .inl ⟨rfl, rfl, rfl, rfl, rfl, H.I.ld N (gCell q)⟩⟩⟩
/-- A Retire's. -/
theorem gp_ret {N : Nat} {l : List Int} {q : Gq} {r : Rq × Rr} (H : GpInv N l q (some r)) (hs : q.st = 3) (hR : RpInv N l r.1 r.2) : GpInv N (rmem N l r.1) (gqR N l q r.1) (some (rstep N l r.1, rrstep N l r.2)) := by
  have R := rp_step hR
  refine ⟨R.inv.ok, R.inv.I, ?_, ?_⟩
  · unfold gqR
    cases rret N l r.1 with
    | false => exact H.wd
    | true => cases (rstep N l r.1).sw <;> exact H.wd
  · unfold gqR
    cases rret N l r.1 with
    | false => exact .inr ⟨hs, _, rfl, R.inv⟩
    | true => cases (rstep N l r.1).sw <;> exact .inl rfl
theorem yqR_same {N : Nat} {l : List Int} {q : Gq} {r : Rq × Rr} (hR : RpInv N l r.1 r.2) : yqR N l q r.2 = gqR N l q r.1 := by
  have R := rp_step hR
  unfold yqR gqR
  rw [R.ret, R.inv.sw]
theorem tc_one (n : Nat) (i t : Int) : ¬ w64 (tcS n i t - t) > 1 := by
  rw [tc_eq n i t 0]
  unfold tcS
  split <;> decide
theorem same_one (t : Int) : ¬ w64 (t - t) > 1 := by
  rw [Int.sub_self]; decide
theorem gtch_same (n : Nat) (q : Gq) (t u : Int) : w64 (gtch n q t - t) = w64 (gtch n q u - u) ∧ ¬ w64 (gtch n q t - t) > 1 := by
  unfold gtch
  have e := fun i => tc_eq n i t u
  have f := fun i => tc_one n i t
  have s : w64 (t - t) = w64 (u - u) := by rw [Int.sub_self, Int.sub_self]
  have s1 := same_one t
  cases q.st == 0 with
  | true => exact ⟨e _, f _⟩
  | false =>
    cases q.st == 1 with
    | true => cases decide (gCell q < 0); exact ⟨e _, f _⟩; exact ⟨s, s1⟩
    | false =>
      cases q.st == 2 with
      | true => cases (gAft q).isSome; exact ⟨s, s1⟩; exact ⟨e _, f _⟩
      | false => exact ⟨s, s1⟩
theorem rtch_one (n : Nat) (q : Rq) (t : Int) : ¬ w64 (rtch n q t - t) > 1 := by
  unfold rtch
  have f := fun i => tc_one n i t
  have s1 := same_one t
  cases Nat.beq q.f fSwap with
  | true => cases (rNext q).isSome; exact s1; exact f _
  | false =>
    cases Nat.beq q.f fLook with
    | true => exact f _
    | false =>
      cases Nat.beq q.f fAge with
      | true => cases (rAged q).isSome; exact s1; exact f _
      | false =>
        cases Nat.beq q.f fGoOn with
        | true => exact f _
        | false => exact s1
theorem gOK_str {st : Int} (h : gOKN st = true ∨ st = 3) : stOf (strB st) = st ∧ bOK (strB st) = true := by
  refine stOf_str ?_
  rcases h with h | h
  · have := gOKN_cases h; omega
  · omega
theorem gqOf_str {q : Gq} (h : gOKN q.st = true ∨ q.st = 3) : gqOf (gyOf q) = q := by
  refine gqOf_gyOf ?_
  rcases h with h | h
  · have := gOKN_cases h; omega
  · omega
theorem GpInv.str {N : Nat} {l : List Int} {q : Gq} {ro : Option (Rq × Rr)} (H : GpInv N l q ro) : gOKN q.st = true ∨ q.st = 3 := by
  rcases H.st with h | ⟨h, _⟩
  · exact .inl h
  · exact .inr h
end Go.Proofs.YthfoljgaiincdaaGreatDoor

/- GivePlays: its loop's rounds. No condition of its own. -/
namespace Go.Proofs.YthfoljgaiincdaaGreatDoor
open Go.RowKit Go.Fld Go.Sx
set_option linter.unusedVariables false
set_option linter.unusedSimpArgs false
noncomputable def gpFns : List (FuncId × Func) := [(4, Tryz.f4), (23, Tryz.f23), (28, Tryz.f28), (24, Tryz.f24)]
theorem gpFns_ok : ∀ e ∈ gpFns, FnOK Tryz.prog e.1 e.2 :=
  fns_ok_cons ⟨Tryz.func4, by kernel_rfl, by kernel_rfl⟩ <| fns_ok_cons ⟨Tryz.func23, by kernel_rfl, by kernel_rfl⟩ <| fns_ok_cons ⟨Tryz.func28, by kernel_rfl, by kernel_rfl⟩ <| fns_ok_cons ⟨Tryz.func24, by kernel_rfl, by kernel_rfl⟩ <| fns_ok_nil rfl
/-- What the law runs over, but for its steps. -/
def gp0 : List (FuncId × Orc) := [(21, awakeO), (22, frameM laidO), (25, frameM wrO), (13, frameM wrqO), (6, frameM madeO), (7, frameM slotsO)] ++ memOrcs ++ confOrcs ++ wordOrcs ++ intsOrcs
theorem gp0_ok : Sounds Tryz.prog Tab gp0 := sounds_append (sounds_append (sounds_append (sounds_append (sounds_cons awake_sound <| sounds_cons (laid_sound.frame tab_kept) <| sounds_cons (wr_sound.frame tab_kept) <| sounds_cons (wrq_sound.frame tab_kept) <| sounds_cons (made_sound.frame tab_kept) <| sounds_cons (slots_sound.frame tab_kept) sounds_nil) memOrcs_ok) confOrcs_ok) wordOrcs_ok) intsOrcs_ok
/-- With steps by what happens. -/
def gpS (f g : Orc) : List (FuncId × Orc) := [(26, frameM f), (27, frameM g)] ++ gp0
noncomputable def gpEv (f g : Orc) : Env := mkEnv Tryz.prog gpFns [slotEq] (gpS f g) []
theorem gpEv_ok {f g : Orc} (hf : Sound Tryz.prog Tab 26 f) (hg : Sound Tryz.prog Tab 27 g) (X : Nat → Prop) (w0 : World) (h0 : X 0) (hB : Bnd X w0) (hT : Tab w0) : EnvOK (gpEv f g) X w0 :=
  mkEnv_ok slotEq_ok (by kernel_rfl) gpFns_ok (sounds_append (sounds_cons (hf.frame tab_kept) <| sounds_cons (hg.frame tab_kept) sounds_nil) gp0_ok) lpSounds_nil h0 hB hT
noncomputable def gpBody : Code := Tryz.f4.body.getD .skip
noncomputable def gpRound : Code := lpB (blkAt 0 gpBody)
theorem gp_loop : blkAt 0 gpBody = .loop gpRound := by kernel_rfl
abbrev gpV (W : Wv) (j : Int) : List Value := [W.val 3, .bool false, .bool true, pK 4, pK 5, pK 6, pK 7, .int .i64 j]
abbrev gpA (G : Gv) (W : Wv) : List Go.Sx.Blk := [G.r0, G.r1, G.r2, W.row]
abbrev gpHN (G : Gv) (W : Wv) (N C : Nat) (tp tr : Int) (lp lr : List Int) (q p : Gq) : List Go.Sx.Blk := gpA G W ++ [.cells true true [.slice (some ⟨8, 0, none⟩) N C, .int .i64 tp], .cells true true [.slice (some ⟨9, 0, some 1⟩) N 0, .int .i64 tr], gBN q, yBN (gyOf p), .ints true true lp, .ints true true lr]
abbrev gpHR (G : Gv) (W : Wv) (N C : Nat) (tp tr : Int) (lp lr : List Int) (q p : Gq) (r : Rq) (s : Rr) : List Go.Sx.Blk := gpA G W ++ [.cells true true [.slice (some ⟨8, 0, none⟩) N C, .int .i64 tp], .cells true true [.slice (some ⟨9, 0, some 1⟩) N 0, .int .i64 tr], gBR 10 q, yBR 11 (gyOf p), .ints true true lp, .ints true true lr, rqB 10 r, rrB s]
theorem gp_treeN (G : Gv) (W : Wv) (N C : Nat) (tp tr : Int) (lp lr : List Int) (q p : Gq) (j : Int) :
    (roundV (gpEv gsNO ysNO) 40 noLps 171 [6, 14, 15, 20, 21, 22, 23, 24] 4 gpRound (unpack 171 [6, 14, 15, 20, 21, 22, 23, 24] (gpV W j) (gpHN G W N C tp tr lp lr q p))).get =
    bif decide (j < 30) then bt (okM N lp && Nat.beq W.nl W.nl && smallN W.nl) (bt (okM N lr && Nat.beq W.nl W.nl && smallN W.nl && wrOK N W.gi W.nl) (bt (okM N (wrsL N W.gi j W.nl lp) && gOKN q.st && !gGoes N (wrsL N W.gi j W.nl lp) q) (bt (okM N (wrsL N W.gi j W.nl lr) && bOK (strB p.st) && gOKN (stOf (strB p.st)) && !yGoes N (wrsL N W.gi j W.nl lr) (gqOf (gyOf p))) (bif !(gret N (wrsL N W.gi j W.nl lp) q == yret N (wrsL N W.gi j W.nl lr) (gqOf (gyOf p))) then (some (.ret, gpV W j, gpHN G W N C (gtch N q (wrsT N W.gi j W.nl tp)) (ytch N (gqOf (gyOf p)) tr) (gmem N (wrsL N W.gi j W.nl lp) q) (ymem N (wrsL N W.gi j W.nl lr) (gqOf (gyOf p))) (gq N (wrsL N W.gi j W.nl lp) q) (yq N (wrsL N W.gi j W.nl lr) (gqOf (gyOf p))))) else bif (gq N (wrsL N W.gi j W.nl lp) q).e != (yq N (wrsL N W.gi j W.nl lr) (gqOf (gyOf p))).e then (some (.ret, gpV W j, gpHN G W N C (gtch N q (wrsT N W.gi j W.nl tp)) (ytch N (gqOf (gyOf p)) tr) (gmem N (wrsL N W.gi j W.nl lp) q) (ymem N (wrsL N W.gi j W.nl lr) (gqOf (gyOf p))) (gq N (wrsL N W.gi j W.nl lp) q) (yq N (wrsL N W.gi j W.nl lr) (gqOf (gyOf p))))) else bif !(((gq N (wrsL N W.gi j W.nl lp) q).st == 4) == ((strB (yq N (wrsL N W.gi j W.nl lr) (gqOf (gyOf p))).st).data.toList == (strB 4).data.toList)) then (some (.ret, gpV W j, gpHN G W N C (gtch N q (wrsT N W.gi j W.nl tp)) (ytch N (gqOf (gyOf p)) tr) (gmem N (wrsL N W.gi j W.nl lp) q) (ymem N (wrsL N W.gi j W.nl lr) (gqOf (gyOf p))) (gq N (wrsL N W.gi j W.nl lp) q) (yq N (wrsL N W.gi j W.nl lr) (gqOf (gyOf p))))) else bif w64 (gtch N q (wrsT N W.gi j W.nl tp) - (wrsT N W.gi j W.nl tp)) != w64 (ytch N (gqOf (gyOf p)) tr - tr) then (some (.ret, gpV W j, gpHN G W N C (gtch N q (wrsT N W.gi j W.nl tp)) (ytch N (gqOf (gyOf p)) tr) (gmem N (wrsL N W.gi j W.nl lp) q) (ymem N (wrsL N W.gi j W.nl lr) (gqOf (gyOf p))) (gq N (wrsL N W.gi j W.nl lp) q) (yq N (wrsL N W.gi j W.nl lr) (gqOf (gyOf p))))) else bif decide (w64 (gtch N q (wrsT N W.gi j W.nl tp) - (wrsT N W.gi j W.nl tp)) > 1) then (some (.ret, gpV W j, gpHN G W N C (gtch N q (wrsT N W.gi j W.nl tp)) (ytch N (gqOf (gyOf p)) tr) (gmem N (wrsL N W.gi j W.nl lp) q) (ymem N (wrsL N W.gi j W.nl lr) (gqOf (gyOf p))) (gq N (wrsL N W.gi j W.nl lp) q) (yq N (wrsL N W.gi j W.nl lr) (gqOf (gyOf p))))) else bt (okM N (gmem N (wrsL N W.gi j W.nl lp) q)) (bt (lenOK N (gmem N (wrsL N W.gi j W.nl lp) q) && lenOK N (ymem N (wrsL N W.gi j W.nl lr) (gqOf (gyOf p)))) (bif !decide (gmem N (wrsL N W.gi j W.nl lp) q = ymem N (wrsL N W.gi j W.nl lr) (gqOf (gyOf p))) then (some (.ret, gpV W j, gpHN G W N C (gtch N q (wrsT N W.gi j W.nl tp)) (ytch N (gqOf (gyOf p)) tr) (gmem N (wrsL N W.gi j W.nl lp) q) (ymem N (wrsL N W.gi j W.nl lr) (gqOf (gyOf p))) (gq N (wrsL N W.gi j W.nl lp) q) (yq N (wrsL N W.gi j W.nl lr) (gqOf (gyOf p))))) else (some (.normal, gpV W (w64 (j + 1)), gpHN G W N C (gtch N q (wrsT N W.gi j W.nl tp)) (ytch N (gqOf (gyOf p)) tr) (gmem N (wrsL N W.gi j W.nl lp) q) (ymem N (wrsL N W.gi j W.nl lr) (gqOf (gyOf p))) (gq N (wrsL N W.gi j W.nl lp) q) (yq N (wrsL N W.gi j W.nl lr) (gqOf (gyOf p))))))))))) else some (.exit 0, gpV W j, gpHN G W N C tp tr lp lr q p) := by kernel_rfl
theorem gp_treeG (G : Gv) (W : Wv) (N C : Nat) (tp tr : Int) (lp lr : List Int) (q p : Gq) (j : Int) :
    (roundV (gpEv gsGO ysGO) 40 noLps 171 [6, 14, 15, 20, 21, 22, 23, 24] 4 gpRound (unpack 171 [6, 14, 15, 20, 21, 22, 23, 24] (gpV W j) (gpHN G W N C tp tr lp lr q p))).get =
    bif decide (j < 30) then bt (okM N lp && Nat.beq W.nl W.nl && smallN W.nl) (bt (okM N lr && Nat.beq W.nl W.nl && smallN W.nl && wrOK N W.gi W.nl) (bt (okM N (wrsL N W.gi j W.nl lp) && gOKN q.st && gGoes N (wrsL N W.gi j W.nl lp) q) (bt (okM N (wrsL N W.gi j W.nl lr) && bOK (strB p.st) && gOKN (stOf (strB p.st)) && yGoes N (wrsL N W.gi j W.nl lr) (gqOf (gyOf p))) (bif !(false == false) then (some (.ret, gpV W j, gpHR G W N C (gtch N q (wrsT N W.gi j W.nl tp)) (ytch N (gqOf (gyOf p)) tr) (gmem N (wrsL N W.gi j W.nl lp) q) (ymem N (wrsL N W.gi j W.nl lr) (gqOf (gyOf p))) (gq N (wrsL N W.gi j W.nl lp) q) (yq N (wrsL N W.gi j W.nl lr) (gqOf (gyOf p))) (gNew N (wrsL N W.gi j W.nl lp) q) (yNew N (wrsL N W.gi j W.nl lr) (gqOf (gyOf p))))) else bif (gq N (wrsL N W.gi j W.nl lp) q).e != (yq N (wrsL N W.gi j W.nl lr) (gqOf (gyOf p))).e then (some (.ret, gpV W j, gpHR G W N C (gtch N q (wrsT N W.gi j W.nl tp)) (ytch N (gqOf (gyOf p)) tr) (gmem N (wrsL N W.gi j W.nl lp) q) (ymem N (wrsL N W.gi j W.nl lr) (gqOf (gyOf p))) (gq N (wrsL N W.gi j W.nl lp) q) (yq N (wrsL N W.gi j W.nl lr) (gqOf (gyOf p))) (gNew N (wrsL N W.gi j W.nl lp) q) (yNew N (wrsL N W.gi j W.nl lr) (gqOf (gyOf p))))) else bif !(((gq N (wrsL N W.gi j W.nl lp) q).st == 4) == ((strB (yq N (wrsL N W.gi j W.nl lr) (gqOf (gyOf p))).st).data.toList == (strB 4).data.toList)) then (some (.ret, gpV W j, gpHR G W N C (gtch N q (wrsT N W.gi j W.nl tp)) (ytch N (gqOf (gyOf p)) tr) (gmem N (wrsL N W.gi j W.nl lp) q) (ymem N (wrsL N W.gi j W.nl lr) (gqOf (gyOf p))) (gq N (wrsL N W.gi j W.nl lp) q) (yq N (wrsL N W.gi j W.nl lr) (gqOf (gyOf p))) (gNew N (wrsL N W.gi j W.nl lp) q) (yNew N (wrsL N W.gi j W.nl lr) (gqOf (gyOf p))))) else bif w64 (gtch N q (wrsT N W.gi j W.nl tp) - (wrsT N W.gi j W.nl tp)) != w64 (ytch N (gqOf (gyOf p)) tr - tr) then (some (.ret, gpV W j, gpHR G W N C (gtch N q (wrsT N W.gi j W.nl tp)) (ytch N (gqOf (gyOf p)) tr) (gmem N (wrsL N W.gi j W.nl lp) q) (ymem N (wrsL N W.gi j W.nl lr) (gqOf (gyOf p))) (gq N (wrsL N W.gi j W.nl lp) q) (yq N (wrsL N W.gi j W.nl lr) (gqOf (gyOf p))) (gNew N (wrsL N W.gi j W.nl lp) q) (yNew N (wrsL N W.gi j W.nl lr) (gqOf (gyOf p))))) else bif decide (w64 (gtch N q (wrsT N W.gi j W.nl tp) - (wrsT N W.gi j W.nl tp)) > 1) then (some (.ret, gpV W j, gpHR G W N C (gtch N q (wrsT N W.gi j W.nl tp)) (ytch N (gqOf (gyOf p)) tr) (gmem N (wrsL N W.gi j W.nl lp) q) (ymem N (wrsL N W.gi j W.nl lr) (gqOf (gyOf p))) (gq N (wrsL N W.gi j W.nl lp) q) (yq N (wrsL N W.gi j W.nl lr) (gqOf (gyOf p))) (gNew N (wrsL N W.gi j W.nl lp) q) (yNew N (wrsL N W.gi j W.nl lr) (gqOf (gyOf p))))) else bt (okM N (gmem N (wrsL N W.gi j W.nl lp) q)) (bt (lenOK N (gmem N (wrsL N W.gi j W.nl lp) q) && lenOK N (ymem N (wrsL N W.gi j W.nl lr) (gqOf (gyOf p)))) (bif !decide (gmem N (wrsL N W.gi j W.nl lp) q = ymem N (wrsL N W.gi j W.nl lr) (gqOf (gyOf p))) then (some (.ret, gpV W j, gpHR G W N C (gtch N q (wrsT N W.gi j W.nl tp)) (ytch N (gqOf (gyOf p)) tr) (gmem N (wrsL N W.gi j W.nl lp) q) (ymem N (wrsL N W.gi j W.nl lr) (gqOf (gyOf p))) (gq N (wrsL N W.gi j W.nl lp) q) (yq N (wrsL N W.gi j W.nl lr) (gqOf (gyOf p))) (gNew N (wrsL N W.gi j W.nl lp) q) (yNew N (wrsL N W.gi j W.nl lr) (gqOf (gyOf p))))) else (some (.normal, gpV W (w64 (j + 1)), gpHR G W N C (gtch N q (wrsT N W.gi j W.nl tp)) (ytch N (gqOf (gyOf p)) tr) (gmem N (wrsL N W.gi j W.nl lp) q) (ymem N (wrsL N W.gi j W.nl lr) (gqOf (gyOf p))) (gq N (wrsL N W.gi j W.nl lp) q) (yq N (wrsL N W.gi j W.nl lr) (gqOf (gyOf p))) (gNew N (wrsL N W.gi j W.nl lp) q) (yNew N (wrsL N W.gi j W.nl lr) (gqOf (gyOf p))))))))))) else some (.exit 0, gpV W j, gpHN G W N C tp tr lp lr q p) := by kernel_rfl
theorem gp_treeR (G : Gv) (W : Wv) (N C : Nat) (tp tr : Int) (lp lr : List Int) (q p : Gq) (r : Rq) (s : Rr) (j : Int) :
    (roundV (gpEv gsRO ysRO) 40 noLps 171 [6, 14, 15, 20, 21, 22, 23, 24] 4 gpRound (unpack 171 [6, 14, 15, 20, 21, 22, 23, 24] (gpV W j) (gpHR G W N C tp tr lp lr q p r s))).get =
    bif decide (j < 30) then bt (okM N lp && Nat.beq W.nl W.nl && smallN W.nl) (bt (okM N lr && Nat.beq W.nl W.nl && smallN W.nl && wrOK N W.gi W.nl) (bt (okM N (wrsL N W.gi j W.nl lp) && gOKN q.st && !gGoes N (wrsL N W.gi j W.nl lp) q) (bt (okM N (wrsL N W.gi j W.nl lr) && bOK (strB p.st) && gOKN (stOf (strB p.st)) && !yGoes N (wrsL N W.gi j W.nl lr) (gqOf (gyOf p))) (bif !(gret N (wrsL N W.gi j W.nl lp) q == yret N (wrsL N W.gi j W.nl lr) (gqOf (gyOf p))) then (some (.ret, gpV W j, gpHR G W N C (gtch N q (wrsT N W.gi j W.nl tp)) (ytch N (gqOf (gyOf p)) tr) (gmem N (wrsL N W.gi j W.nl lp) q) (ymem N (wrsL N W.gi j W.nl lr) (gqOf (gyOf p))) (gq N (wrsL N W.gi j W.nl lp) q) (yq N (wrsL N W.gi j W.nl lr) (gqOf (gyOf p))) (r) (s))) else bif (gq N (wrsL N W.gi j W.nl lp) q).e != (yq N (wrsL N W.gi j W.nl lr) (gqOf (gyOf p))).e then (some (.ret, gpV W j, gpHR G W N C (gtch N q (wrsT N W.gi j W.nl tp)) (ytch N (gqOf (gyOf p)) tr) (gmem N (wrsL N W.gi j W.nl lp) q) (ymem N (wrsL N W.gi j W.nl lr) (gqOf (gyOf p))) (gq N (wrsL N W.gi j W.nl lp) q) (yq N (wrsL N W.gi j W.nl lr) (gqOf (gyOf p))) (r) (s))) else bif !(((gq N (wrsL N W.gi j W.nl lp) q).st == 4) == ((strB (yq N (wrsL N W.gi j W.nl lr) (gqOf (gyOf p))).st).data.toList == (strB 4).data.toList)) then (some (.ret, gpV W j, gpHR G W N C (gtch N q (wrsT N W.gi j W.nl tp)) (ytch N (gqOf (gyOf p)) tr) (gmem N (wrsL N W.gi j W.nl lp) q) (ymem N (wrsL N W.gi j W.nl lr) (gqOf (gyOf p))) (gq N (wrsL N W.gi j W.nl lp) q) (yq N (wrsL N W.gi j W.nl lr) (gqOf (gyOf p))) (r) (s))) else bif w64 (gtch N q (wrsT N W.gi j W.nl tp) - (wrsT N W.gi j W.nl tp)) != w64 (ytch N (gqOf (gyOf p)) tr - tr) then (some (.ret, gpV W j, gpHR G W N C (gtch N q (wrsT N W.gi j W.nl tp)) (ytch N (gqOf (gyOf p)) tr) (gmem N (wrsL N W.gi j W.nl lp) q) (ymem N (wrsL N W.gi j W.nl lr) (gqOf (gyOf p))) (gq N (wrsL N W.gi j W.nl lp) q) (yq N (wrsL N W.gi j W.nl lr) (gqOf (gyOf p))) (r) (s))) else bif decide (w64 (gtch N q (wrsT N W.gi j W.nl tp) - (wrsT N W.gi j W.nl tp)) > 1) then (some (.ret, gpV W j, gpHR G W N C (gtch N q (wrsT N W.gi j W.nl tp)) (ytch N (gqOf (gyOf p)) tr) (gmem N (wrsL N W.gi j W.nl lp) q) (ymem N (wrsL N W.gi j W.nl lr) (gqOf (gyOf p))) (gq N (wrsL N W.gi j W.nl lp) q) (yq N (wrsL N W.gi j W.nl lr) (gqOf (gyOf p))) (r) (s))) else bt (okM N (gmem N (wrsL N W.gi j W.nl lp) q)) (bt (lenOK N (gmem N (wrsL N W.gi j W.nl lp) q) && lenOK N (ymem N (wrsL N W.gi j W.nl lr) (gqOf (gyOf p)))) (bif !decide (gmem N (wrsL N W.gi j W.nl lp) q = ymem N (wrsL N W.gi j W.nl lr) (gqOf (gyOf p))) then (some (.ret, gpV W j, gpHR G W N C (gtch N q (wrsT N W.gi j W.nl tp)) (ytch N (gqOf (gyOf p)) tr) (gmem N (wrsL N W.gi j W.nl lp) q) (ymem N (wrsL N W.gi j W.nl lr) (gqOf (gyOf p))) (gq N (wrsL N W.gi j W.nl lp) q) (yq N (wrsL N W.gi j W.nl lr) (gqOf (gyOf p))) (r) (s))) else (some (.normal, gpV W (w64 (j + 1)), gpHR G W N C (gtch N q (wrsT N W.gi j W.nl tp)) (ytch N (gqOf (gyOf p)) tr) (gmem N (wrsL N W.gi j W.nl lp) q) (ymem N (wrsL N W.gi j W.nl lr) (gqOf (gyOf p))) (gq N (wrsL N W.gi j W.nl lp) q) (yq N (wrsL N W.gi j W.nl lr) (gqOf (gyOf p))) (r) (s))))))))) else some (.exit 0, gpV W j, gpHR G W N C tp tr lp lr q p r s) := by kernel_rfl
theorem gp_treeRG (G : Gv) (W : Wv) (N C : Nat) (tp tr : Int) (lp lr : List Int) (q p : Gq) (r : Rq) (s : Rr) (j : Int) :
    (roundV (gpEv gsRGO ysRGO) 40 noLps 171 [6, 14, 15, 20, 21, 22, 23, 24] 4 gpRound (unpack 171 [6, 14, 15, 20, 21, 22, 23, 24] (gpV W j) (gpHR G W N C tp tr lp lr q p r s))).get =
    bif decide (j < 30) then bt (okM N lp && Nat.beq W.nl W.nl && smallN W.nl) (bt (okM N lr && Nat.beq W.nl W.nl && smallN W.nl && wrOK N W.gi W.nl) (bt (okM N (wrsL N W.gi j W.nl lp) && gOKN q.st && gGoes N (wrsL N W.gi j W.nl lp) q) (bt (okM N (wrsL N W.gi j W.nl lr) && bOK (strB p.st) && gOKN (stOf (strB p.st)) && yGoes N (wrsL N W.gi j W.nl lr) (gqOf (gyOf p))) (bif !(false == false) then (some (.ret, gpV W j, gpHR G W N C (gtch N q (wrsT N W.gi j W.nl tp)) (ytch N (gqOf (gyOf p)) tr) (gmem N (wrsL N W.gi j W.nl lp) q) (ymem N (wrsL N W.gi j W.nl lr) (gqOf (gyOf p))) (gq N (wrsL N W.gi j W.nl lp) q) (yq N (wrsL N W.gi j W.nl lr) (gqOf (gyOf p))) (gNew N (wrsL N W.gi j W.nl lp) q) (yNew N (wrsL N W.gi j W.nl lr) (gqOf (gyOf p))))) else bif (gq N (wrsL N W.gi j W.nl lp) q).e != (yq N (wrsL N W.gi j W.nl lr) (gqOf (gyOf p))).e then (some (.ret, gpV W j, gpHR G W N C (gtch N q (wrsT N W.gi j W.nl tp)) (ytch N (gqOf (gyOf p)) tr) (gmem N (wrsL N W.gi j W.nl lp) q) (ymem N (wrsL N W.gi j W.nl lr) (gqOf (gyOf p))) (gq N (wrsL N W.gi j W.nl lp) q) (yq N (wrsL N W.gi j W.nl lr) (gqOf (gyOf p))) (gNew N (wrsL N W.gi j W.nl lp) q) (yNew N (wrsL N W.gi j W.nl lr) (gqOf (gyOf p))))) else bif !(((gq N (wrsL N W.gi j W.nl lp) q).st == 4) == ((strB (yq N (wrsL N W.gi j W.nl lr) (gqOf (gyOf p))).st).data.toList == (strB 4).data.toList)) then (some (.ret, gpV W j, gpHR G W N C (gtch N q (wrsT N W.gi j W.nl tp)) (ytch N (gqOf (gyOf p)) tr) (gmem N (wrsL N W.gi j W.nl lp) q) (ymem N (wrsL N W.gi j W.nl lr) (gqOf (gyOf p))) (gq N (wrsL N W.gi j W.nl lp) q) (yq N (wrsL N W.gi j W.nl lr) (gqOf (gyOf p))) (gNew N (wrsL N W.gi j W.nl lp) q) (yNew N (wrsL N W.gi j W.nl lr) (gqOf (gyOf p))))) else bif w64 (gtch N q (wrsT N W.gi j W.nl tp) - (wrsT N W.gi j W.nl tp)) != w64 (ytch N (gqOf (gyOf p)) tr - tr) then (some (.ret, gpV W j, gpHR G W N C (gtch N q (wrsT N W.gi j W.nl tp)) (ytch N (gqOf (gyOf p)) tr) (gmem N (wrsL N W.gi j W.nl lp) q) (ymem N (wrsL N W.gi j W.nl lr) (gqOf (gyOf p))) (gq N (wrsL N W.gi j W.nl lp) q) (yq N (wrsL N W.gi j W.nl lr) (gqOf (gyOf p))) (gNew N (wrsL N W.gi j W.nl lp) q) (yNew N (wrsL N W.gi j W.nl lr) (gqOf (gyOf p))))) else bif decide (w64 (gtch N q (wrsT N W.gi j W.nl tp) - (wrsT N W.gi j W.nl tp)) > 1) then (some (.ret, gpV W j, gpHR G W N C (gtch N q (wrsT N W.gi j W.nl tp)) (ytch N (gqOf (gyOf p)) tr) (gmem N (wrsL N W.gi j W.nl lp) q) (ymem N (wrsL N W.gi j W.nl lr) (gqOf (gyOf p))) (gq N (wrsL N W.gi j W.nl lp) q) (yq N (wrsL N W.gi j W.nl lr) (gqOf (gyOf p))) (gNew N (wrsL N W.gi j W.nl lp) q) (yNew N (wrsL N W.gi j W.nl lr) (gqOf (gyOf p))))) else bt (okM N (gmem N (wrsL N W.gi j W.nl lp) q)) (bt (lenOK N (gmem N (wrsL N W.gi j W.nl lp) q) && lenOK N (ymem N (wrsL N W.gi j W.nl lr) (gqOf (gyOf p)))) (bif !decide (gmem N (wrsL N W.gi j W.nl lp) q = ymem N (wrsL N W.gi j W.nl lr) (gqOf (gyOf p))) then (some (.ret, gpV W j, gpHR G W N C (gtch N q (wrsT N W.gi j W.nl tp)) (ytch N (gqOf (gyOf p)) tr) (gmem N (wrsL N W.gi j W.nl lp) q) (ymem N (wrsL N W.gi j W.nl lr) (gqOf (gyOf p))) (gq N (wrsL N W.gi j W.nl lp) q) (yq N (wrsL N W.gi j W.nl lr) (gqOf (gyOf p))) (gNew N (wrsL N W.gi j W.nl lp) q) (yNew N (wrsL N W.gi j W.nl lr) (gqOf (gyOf p))))) else (some (.normal, gpV W (w64 (j + 1)), gpHR G W N C (gtch N q (wrsT N W.gi j W.nl tp)) (ytch N (gqOf (gyOf p)) tr) (gmem N (wrsL N W.gi j W.nl lp) q) (ymem N (wrsL N W.gi j W.nl lr) (gqOf (gyOf p))) (gq N (wrsL N W.gi j W.nl lp) q) (yq N (wrsL N W.gi j W.nl lr) (gqOf (gyOf p))) (gNew N (wrsL N W.gi j W.nl lp) q) (yNew N (wrsL N W.gi j W.nl lr) (gqOf (gyOf p))))))))))) else some (.exit 0, gpV W j, gpHR G W N C tp tr lp lr q p r s) := by kernel_rfl
theorem gp_tree3 (G : Gv) (W : Wv) (N C : Nat) (tp tr : Int) (lp lr : List Int) (q p : Gq) (r : Rq) (s : Rr) (j : Int) :
    (roundV (gpEv gsR3O ysR3O) 40 noLps 171 [6, 14, 15, 20, 21, 22, 23, 24] 4 gpRound (unpack 171 [6, 14, 15, 20, 21, 22, 23, 24] (gpV W j) (gpHR G W N C tp tr lp lr q p r s))).get =
    bif decide (j < 30) then bt (okM N lp && Nat.beq W.nl W.nl && smallN W.nl) (bt (okM N lr && Nat.beq W.nl W.nl && smallN W.nl && wrOK N W.gi W.nl) (bt (okM N (wrsL N W.gi j W.nl lp) && rOK r.f && (q.st == 3)) (bt (okM N (wrsL N W.gi j W.nl lr) && bOK (strB p.st) && (stOf (strB p.st) == 3)) (bif !(((gqR N (wrsL N W.gi j W.nl lp) q r).st == 4) == ((yqR N (wrsL N W.gi j W.nl lr) (gqOf (gyOf p)) s).st == 4)) then (some (.ret, gpV W j, gpHR G W N C (rtch N r (wrsT N W.gi j W.nl tp)) (rrtch N s tr) (rmem N (wrsL N W.gi j W.nl lp) r) (rrmem N (wrsL N W.gi j W.nl lr) s) (gqR N (wrsL N W.gi j W.nl lp) q r) (yqR N (wrsL N W.gi j W.nl lr) (gqOf (gyOf p)) s) (rstep N (wrsL N W.gi j W.nl lp) r) (rrstep N (wrsL N W.gi j W.nl lr) s))) else bif (gqR N (wrsL N W.gi j W.nl lp) q r).e != (yqR N (wrsL N W.gi j W.nl lr) (gqOf (gyOf p)) s).e then (some (.ret, gpV W j, gpHR G W N C (rtch N r (wrsT N W.gi j W.nl tp)) (rrtch N s tr) (rmem N (wrsL N W.gi j W.nl lp) r) (rrmem N (wrsL N W.gi j W.nl lr) s) (gqR N (wrsL N W.gi j W.nl lp) q r) (yqR N (wrsL N W.gi j W.nl lr) (gqOf (gyOf p)) s) (rstep N (wrsL N W.gi j W.nl lp) r) (rrstep N (wrsL N W.gi j W.nl lr) s))) else bif !(((gqR N (wrsL N W.gi j W.nl lp) q r).st == 4) == ((strB (yqR N (wrsL N W.gi j W.nl lr) (gqOf (gyOf p)) s).st).data.toList == (strB 4).data.toList)) then (some (.ret, gpV W j, gpHR G W N C (rtch N r (wrsT N W.gi j W.nl tp)) (rrtch N s tr) (rmem N (wrsL N W.gi j W.nl lp) r) (rrmem N (wrsL N W.gi j W.nl lr) s) (gqR N (wrsL N W.gi j W.nl lp) q r) (yqR N (wrsL N W.gi j W.nl lr) (gqOf (gyOf p)) s) (rstep N (wrsL N W.gi j W.nl lp) r) (rrstep N (wrsL N W.gi j W.nl lr) s))) else bif w64 (rtch N r (wrsT N W.gi j W.nl tp) - (wrsT N W.gi j W.nl tp)) != w64 (rrtch N s tr - tr) then (some (.ret, gpV W j, gpHR G W N C (rtch N r (wrsT N W.gi j W.nl tp)) (rrtch N s tr) (rmem N (wrsL N W.gi j W.nl lp) r) (rrmem N (wrsL N W.gi j W.nl lr) s) (gqR N (wrsL N W.gi j W.nl lp) q r) (yqR N (wrsL N W.gi j W.nl lr) (gqOf (gyOf p)) s) (rstep N (wrsL N W.gi j W.nl lp) r) (rrstep N (wrsL N W.gi j W.nl lr) s))) else bif decide (w64 (rtch N r (wrsT N W.gi j W.nl tp) - (wrsT N W.gi j W.nl tp)) > 1) then (some (.ret, gpV W j, gpHR G W N C (rtch N r (wrsT N W.gi j W.nl tp)) (rrtch N s tr) (rmem N (wrsL N W.gi j W.nl lp) r) (rrmem N (wrsL N W.gi j W.nl lr) s) (gqR N (wrsL N W.gi j W.nl lp) q r) (yqR N (wrsL N W.gi j W.nl lr) (gqOf (gyOf p)) s) (rstep N (wrsL N W.gi j W.nl lp) r) (rrstep N (wrsL N W.gi j W.nl lr) s))) else bt (okM N (rmem N (wrsL N W.gi j W.nl lp) r)) (bt (lenOK N (rmem N (wrsL N W.gi j W.nl lp) r) && lenOK N (rrmem N (wrsL N W.gi j W.nl lr) s)) (bif !decide (rmem N (wrsL N W.gi j W.nl lp) r = rrmem N (wrsL N W.gi j W.nl lr) s) then (some (.ret, gpV W j, gpHR G W N C (rtch N r (wrsT N W.gi j W.nl tp)) (rrtch N s tr) (rmem N (wrsL N W.gi j W.nl lp) r) (rrmem N (wrsL N W.gi j W.nl lr) s) (gqR N (wrsL N W.gi j W.nl lp) q r) (yqR N (wrsL N W.gi j W.nl lr) (gqOf (gyOf p)) s) (rstep N (wrsL N W.gi j W.nl lp) r) (rrstep N (wrsL N W.gi j W.nl lr) s))) else (some (.normal, gpV W (w64 (j + 1)), gpHR G W N C (rtch N r (wrsT N W.gi j W.nl tp)) (rrtch N s tr) (rmem N (wrsL N W.gi j W.nl lp) r) (rrmem N (wrsL N W.gi j W.nl lr) s) (gqR N (wrsL N W.gi j W.nl lp) q r) (yqR N (wrsL N W.gi j W.nl lr) (gqOf (gyOf p)) s) (rstep N (wrsL N W.gi j W.nl lp) r) (rrstep N (wrsL N W.gi j W.nl lr) s))))))))) else some (.exit 0, gpV W j, gpHR G W N C tp tr lp lr q p r s) := by kernel_rfl
end Go.Proofs.YthfoljgaiincdaaGreatDoor

/- GivePlays: its loop. No condition of its own. -/
namespace Go.Proofs.YthfoljgaiincdaaGreatDoor
open Go.RowKit Go.Fld Go.Sx
set_option linter.unusedVariables false
set_option linter.unusedSimpArgs false
theorem strB_done {st : Int} (h : gOKN st = true ∨ st = 3) : ((strB st).data.toList == (strB 4).data.toList) = (st == 4) := by
  have : st = 0 ∨ st = 1 ∨ st = 2 ∨ st = 3 ∨ st = 4 := by
    rcases h with h | h
    · have := gOKN_cases h; omega
    · omega
  rcases this with rfl | rfl | rfl | rfl | rfl <;> rfl
theorem gp_chain {α : Type} {N : Nat} {a b : Bool} {q' p' : Gq} {u v : Int} {m1 m2 : List Int} {F G : Option α} (hab : a = b) (hq : p' = q') (hst : gOKN q'.st = true ∨ q'.st = 3) (huv : u = v) (hx : ¬ u > 1) (hm : m2 = m1) (hok : okM N m1 = true) :
    (bif !(a == b) then F else bif q'.e != p'.e then F else bif !((q'.st == 4) == ((strB p'.st).data.toList == (strB 4).data.toList)) then F else bif u != v then F else bif decide (u > 1) then F else bt (okM N m1) (bt (lenOK N m1 && lenOK N m2) (bif !decide (m1 = m2) then F else G))) = G := by
  subst hab; subst hq; subst huv; subst hm
  rw [beq_self_eq_true, bne_self_eq_false, strB_done hst, beq_self_eq_true, bne_self_eq_false, decide_eq_false hx, bt_of hok, bt_of (by rw [lenOK_okM hok]; rfl), decide_eq_true rfl]
  rfl
structure GpS where
  tp : Int
  tr : Int
  l : List Int
  q : Gq
  r : Option (Rq × Rr)
def gpH (G : Gv) (W : Wv) (N C : Nat) (s : GpS) : List Go.Sx.Blk := match s.r with
  | none => gpHN G W N C s.tp s.tr s.l s.l s.q s.q
  | some r => gpHR G W N C s.tp s.tr s.l s.l s.q s.q r.1 r.2
theorem gpH_len (G : Gv) (W : Wv) (N C : Nat) (s : GpS) : 4 ≤ (gpH G W N C s).length := by
  unfold gpH
  split
  · exact (by decide : 4 ≤ 10)
  · exact (by decide : 4 ≤ 12)
theorem gp_round {X : Nat → Prop} {w0 : World} (h0 : X 0) (hB : Bnd X w0) (hT : Tab w0) (G : Gv) (W : Wv) (N C : Nat) (s : GpS) (j : Nat) (hj : j < 30) (hl : W.nl ≤ 20) (hw : WrI W.gi W.nl) (H : GpInv N s.l s.q s.r) :
    ∃ s' : GpS, GpInv N s'.l s'.q s'.r ∧ RunsB Tryz.prog X w0 0 4 gpRound (unpack 171 [6, 14, 15, 20, 21, 22, 23, 24] (gpV W j) (gpH G W N C s)) .normal (unpack 171 [6, 14, 15, 20, 21, 22, 23, 24] (gpV W ((j + 1 : Nat) : Int)) (gpH G W N C s')) := by
  obtain ⟨tp, tr, l, q, ro⟩ := s
  simp only at H
  have H0 := H.wrs hw j
  have hN := (okM_iff.1 H.ok).2.1
  have hs : smallN W.nl = true := Nat.ble_eq_true_of_le (by omega)
  have c0 : (okM N l && Nat.beq W.nl W.nl && smallN W.nl) = true := by rw [H.ok, Nat.beq_refl, hs]; rfl
  have c1 : (okM N l && Nat.beq W.nl W.nl && smallN W.nl && wrOK N W.gi W.nl) = true := by rw [c0, wrOK_of hN hw]; rfl
  obtain ⟨s1, s2⟩ := gOK_str H.str
  have s3 := gqOf_str H.str
  obtain ⟨y1, y2, y3, y4⟩ := y_same (n := N) H0.I H0.wd
  have tA := gtch_same N q (wrsT N W.gi j W.nl tp) tr
  have hdec : decide ((j : Int) < 30) = true := decide_eq_true (by omega)
  have hw1 : w64 ((j : Int) + 1) = ((j + 1 : Nat) : Int) := w64_succ (by omega)
  generalize hl' : wrsL N W.gi j W.nl l = l' at H0 y1 y2 y3
  by_cases h3 : gOKN q.st = true
  · -- no Retire at work
    have m1 := gmem_okI (q := q) H0.ok H0.I
    have g0 := gq_st (n := N) (l := l') h3
    cases hg : gGoes N l' q with
    | false =>
      have e2 : (okM N l' && gOKN q.st && !gGoes N l' q) = true := by rw [H0.ok, h3, hg]; rfl
      have e3 : (okM N l' && bOK (strB q.st) && gOKN (stOf (strB q.st)) && !yGoes N l' q) = true := by rw [H0.ok, s2, s1, h3, y1, hg]; rfl
      cases ro with
      | none =>
        have ht := gp_treeN G W N C tp tr l l q q j
        rw [hl', s3, hdec, cond_true, bt_of c0, bt_of c1, bt_of e2, bt_of e3, y2, y3, y4, hw1] at ht
        have ht2 := ht.trans (gp_chain (by unfold gret yret; rw [y2]) rfl (.inl (g0.2 hg)) tA.1 tA.2 rfl m1.1)
        exact ⟨⟨_, _, _, _, none⟩, gp_plain H0 h3 (by rw [hg]; rfl), round_runs (gpEv_ok gsN_sound ysN_sound X w0 h0 hB hT) (noLps_ok _) ht2 (Nat.zero_le _) (show 4 ≤ 10 by decide)⟩
      | some r =>
        have ht := gp_treeR G W N C tp tr l l q q r.1 r.2 j
        rw [hl', s3, hdec, cond_true, bt_of c0, bt_of c1, bt_of e2, bt_of e3, y2, y3, y4, hw1] at ht
        have ht2 := ht.trans (gp_chain (by unfold gret yret; rw [y2]) rfl (.inl (g0.2 hg)) tA.1 tA.2 rfl m1.1)
        exact ⟨⟨_, _, _, _, some r⟩, gp_plain H0 h3 (by rw [hg]; rfl), round_runs (gpEv_ok gsR_sound ysR_sound X w0 h0 hB hT) (noLps_ok _) ht2 (Nat.zero_le _) (show 4 ≤ 12 by decide)⟩
    | true =>
      have e2 : (okM N l' && gOKN q.st && gGoes N l' q) = true := by rw [H0.ok, h3, hg]; rfl
      have e3 : (okM N l' && bOK (strB q.st) && gOKN (stOf (strB q.st)) && yGoes N l' q) = true := by rw [H0.ok, s2, s1, h3, y1, hg]; rfl
      cases ro with
      | none =>
        have ht := gp_treeG G W N C tp tr l l q q j
        rw [hl', s3, hdec, cond_true, bt_of c0, bt_of c1, bt_of e2, bt_of e3, y2, y3, y4, hw1] at ht
        have ht2 := ht.trans (gp_chain (a := false) (b := false) rfl rfl (.inr (g0.1 hg)) tA.1 tA.2 rfl m1.1)
        exact ⟨⟨_, _, _, _, some (gNew N l' q, yNew N l' q)⟩, gp_plain H0 h3 (by rw [hg]; rfl), round_runs (gpEv_ok gsG_sound ysG_sound X w0 h0 hB hT) (noLps_ok _) ht2 (Nat.zero_le _) (show 4 ≤ 10 by decide)⟩
      | some r =>
        have ht := gp_treeRG G W N C tp tr l l q q r.1 r.2 j
        rw [hl', s3, hdec, cond_true, bt_of c0, bt_of c1, bt_of e2, bt_of e3, y2, y3, y4, hw1] at ht
        have ht2 := ht.trans (gp_chain (a := false) (b := false) rfl rfl (.inr (g0.1 hg)) tA.1 tA.2 rfl m1.1)
        exact ⟨⟨_, _, _, _, some (gNew N l' q, yNew N l' q)⟩, gp_plain H0 h3 (by rw [hg]; rfl), round_runs (gpEv_ok gsRG_sound ysRG_sound X w0 h0 hB hT) (noLps_ok _) ht2 (Nat.zero_le _) (show 4 ≤ 12 by decide)⟩
  · rcases H0.st with h | ⟨hst, r, hr, hR⟩
    · exact absurd h h3
    subst hr
    have R := rp_step hR
    have e2 : (okM N l' && rOK r.1.f && (q.st == 3)) = true := by rw [H0.ok, hR.f, hst]; rfl
    have e3 : (okM N l' && bOK (strB q.st) && (stOf (strB q.st) == 3)) = true := by rw [H0.ok, s2, s1, hst]; rfl
    have HI := gp_ret H0 hst hR
    have ht := gp_tree3 G W N C tp tr l l q q r.1 r.2 j
    rw [hl', s3, hdec, cond_true, bt_of c0, bt_of c1, bt_of e2, bt_of e3, yqR_same hR, ← R.mem, hw1] at ht
    have ht2 := ht.trans (gp_chain rfl rfl HI.str (R.tch _ _) (rtch_one _ _ _) rfl HI.ok)
    exact ⟨⟨_, _, _, _, some (rstep N l' r.1, rrstep N l' r.2)⟩, HI, round_runs (gpEv_ok gsR3_sound ysR3_sound X w0 h0 hB hT) (noLps_ok _) ht2 (Nat.zero_le _) (show 4 ≤ 12 by decide)⟩
theorem gp_rounds {X : Nat → Prop} {w0 : World} (h0 : X 0) (hB : Bnd X w0) (hT : Tab w0) (G : Gv) (W : Wv) (N C : Nat) (hl : W.nl ≤ 20) (hw : WrI W.gi W.nl) : ∀ (m j : Nat) (s : GpS), j + m = 30 → GpInv N s.l s.q s.r →
    ∃ s' : GpS, LoopRunsB Tryz.prog X w0 0 4 gpRound (unpack 171 [6, 14, 15, 20, 21, 22, 23, 24] (gpV W j) (gpH G W N C s)) (.exit 0) (unpack 171 [6, 14, 15, 20, 21, 22, 23, 24] (gpV W 30) (gpH G W N C s'))
  | 0, j, s, hj, H => by
    obtain rfl : j = 30 := by omega
    have hE := gpEv_ok gsN_sound ysN_sound X w0 h0 hB hT
    obtain ⟨tp, tr, l, q, ro⟩ := s
    cases ro with
    | none =>
      have ht := gp_treeN G W N C tp tr l l q q 30
      rw [decide_eq_false (by omega)] at ht
      exact ⟨⟨tp, tr, l, q, none⟩, LoopRunsB.exit (round_runs hE (noLps_ok _) ht (Nat.zero_le _) (show 4 ≤ 10 by decide)) (by simp)⟩
    | some r =>
      have ht := gp_treeR G W N C tp tr l l q q r.1 r.2 30
      rw [decide_eq_false (by omega)] at ht
      exact ⟨⟨tp, tr, l, q, some r⟩, LoopRunsB.exit (round_runs (gpEv_ok gsR_sound ysR_sound X w0 h0 hB hT) (noLps_ok _) ht (Nat.zero_le _) (show 4 ≤ 12 by decide)) (by simp)⟩
  | m + 1, j, s, hj, H => by
    obtain ⟨s1, H1, hr⟩ := gp_round h0 hB hT G W N C s j (by omega) hl hw H
    obtain ⟨s2, h2⟩ := gp_rounds h0 hB hT G W N C hl hw m (j + 1) s1 (by omega) H1
    exact ⟨s2, LoopRunsB.step hr h2⟩
abbrev gpU : List Value := [.bool false, .bool true]
theorem gp_normN (G : Gv) (W : Wv) (N C : Nat) (tp tr : Int) (lp lr : List Int) (q p : Gq) (j : Int) : (normV 171 [14, 15] 4 (unpack 171 [6, 14, 15, 20, 21, 22, 23, 24] (gpV W j) (gpHN G W N C tp tr lp lr q p))).get = some (gpU, gpA G W) := by kernel_rfl
theorem gp_normR (G : Gv) (W : Wv) (N C : Nat) (tp tr : Int) (lp lr : List Int) (q p : Gq) (r : Rq) (s : Rr) (j : Int) : (normV 171 [14, 15] 4 (unpack 171 [6, 14, 15, 20, 21, 22, 23, 24] (gpV W j) (gpHR G W N C tp tr lp lr q p r s))).get = some (gpU, gpA G W) := by kernel_rfl
theorem gp_norm (G : Gv) (W : Wv) (N C : Nat) (s : GpS) (j : Int) : (normV 171 [14, 15] 4 (unpack 171 [6, 14, 15, 20, 21, 22, 23, 24] (gpV W j) (gpH G W N C s))).get = some (gpU, gpA G W) := by
  obtain ⟨tp, tr, l, q, ro⟩ := s
  cases ro with
  | none => exact gp_normN G W N C tp tr l l q q j
  | some r => exact gp_normR G W N C tp tr l l q q r.1 r.2 j
/-- The loop, from a state on. -/
theorem gp_runs {X : Nat → Prop} {w0 : World} (h0 : X 0) (hB : Bnd X w0) (hT : Tab w0) (G : Gv) (W : Wv) (N C : Nat) (hl : W.nl ≤ 20) (hw : WrI W.gi W.nl) (s : GpS) (H : GpInv N s.l s.q s.r) :
    RunsB Tryz.prog X w0 0 4 (.block 0 (blkAt 0 gpBody)) (unpack 171 [6, 14, 15, 20, 21, 22, 23, 24] (gpV W 0) (gpH G W N C s)) .normal (unpack 171 [14, 15] gpU (gpA G W)) := by
  obtain ⟨s', h3⟩ := gp_rounds h0 hB hT G W N C hl hw 30 0 s rfl H
  rw [gp_loop]
  exact h3.runs.block_exit.norm (gp_norm G W N C s' 30) (Nat.zero_le _)
end Go.Proofs.YthfoljgaiincdaaGreatDoor

/- GivePlays: the whole. No condition of its own. -/
namespace Go.Proofs.YthfoljgaiincdaaGreatDoor
open Go.RowKit Go.Fld Go.Sx
set_option linter.unusedVariables false
set_option linter.unusedSimpArgs false
noncomputable def gpE : Env := gpEv gsNO ysNO
theorem gpE_ok (X : Nat → Prop) (w0 : World) (h0 : X 0) (hB : Bnd X w0) (hT : Tab w0) : EnvOK gpE X w0 := gpEv_ok gsN_sound ysN_sound X w0 h0 hB hT
def gpQ0 (cf : Cf) (k i gen : Int) (disc : Bool) : Gq := ⟨cf, k, i, gen, disc, 0, 0, 0, 0⟩
abbrev gpV1 (W : Wv) (i gen : Int) (disc : Bool) (N : Nat) (k : Int) : List Value := [.int .i64 i, .int .i64 gen, .bool disc, W.val 3, .bool false, .bool true, pK 4, .slice (some ⟨5, 0, none⟩) N N, .int .i64 k]
abbrev gpV0 (W : Wv) (i gen : Int) (disc : Bool) : List Value := [.int .i64 i, .int .i64 gen, .bool disc, W.val 3, .bool true, .bool true, undef, undef, undef]
abbrev gpH1 (G : Gv) (W : Wv) (cf : Cf) (l : List Int) : List Go.Sx.Blk := gpA G W ++ [.cells true true (cfCells cf), .ints true true l]
def gpThere {α : Type} (cf : Cf) (l : List Int) (there : Bool) (i gen : Int) (K : Int → Option α) : Option α :=
  bif there then (bif decide (i ≥ 0) then bif decide (i < (cf.s.toNat : Int)) then ixR i cf.s.toNat cf.s.toNat (K (slD cf l i.toNat).gen) else K gen else K gen) else K gen
theorem gp_cut1 : cutOK 6 gpBody = true := by kernel_rfl
theorem gp_cut2 : cutOK 4 (cutZ 6 gpBody) = true := by kernel_rfl
theorem gp_pre (G : Gv) (W : Wv) (who i gen : Int) (there disc : Bool) :
    (roundV gpE 60 noLps 171 [2, 3, 5, 6, 14, 15, 16, 17, 18] 4 (cutA 6 gpBody) ⟨[G.val, .int .u8 who, .int .i64 i, .int .i64 gen, .bool there, .bool disc, W.val 3] ++ List.replicate (171 - 7) undef, gpA G W⟩).get =
    bif decide ((W.nl : Int) > 20) then some (.ret, gpV0 W i gen disc, gpA G W) else bt (mdC G.cf G.ns G.nf G.np) (noW G.cf (bt (ldG G.cf G.l) (gpThere G.cf G.l there i gen fun gen' => some (.normal, gpV1 W i gen' disc (cntN G.cf) (atI G.cf.w who), gpH1 G W G.cf G.l)))) := by kernel_rfl
abbrev gpVM (W : Wv) : List Value := [W.val 3, .bool false, .bool true, pK 4, pK 5, pK 6, pK 7]
theorem gp_mid (G : Gv) (W : Wv) (cf : Cf) (l : List Int) (k i gen : Int) (disc : Bool) :
    (roundV gpE 60 noLps 171 [6, 14, 15, 20, 21, 22, 23] 4 (cutA 4 (cutZ 6 gpBody)) (unpack 171 [2, 3, 5, 6, 14, 15, 16, 17, 18] (gpV1 W i gen disc (cntN cf) k) (gpH1 G W cf l))).get =
    bt (ldG cf l) (cpyM (cntN cf) l (some (.normal, gpVM W, gpA G W ++ [.cells true true [.slice (some ⟨8, 0, none⟩) (cntN cf) (cntN cf), .int .i64 (cntN cf)], .cells true true [.slice (some ⟨9, 0, some 1⟩) (cpyN (cntN cf) l) 0, .int .i64 0], gBN (gpQ0 cf k i gen disc), yBN (gyOf (gpQ0 cf k i gen disc)), .ints true true l, .ints true true (cpyL (cntN cf) l)]))) := by kernel_rfl
noncomputable def gpTail : Code := cutZ 4 (cutZ 6 gpBody)
noncomputable def gpFirst : Code := cutA 0 (cutA 0 gpTail)
theorem gp_shape : gpTail = .seq (.seq gpFirst (.block 0 (blkAt 0 gpBody))) (cutZ 0 gpTail) := by kernel_rfl
theorem gp_first (G : Gv) (W : Wv) (N C : Nat) (tp tr : Int) (lp lr : List Int) (q p : Gq) : (roundV gpE 60 noLps 171 [6, 14, 15, 20, 21, 22, 23, 24] 4 gpFirst (unpack 171 [6, 14, 15, 20, 21, 22, 23] (gpVM W) (gpHN G W N C tp tr lp lr q p))).get = some (.normal, gpV W 0, gpHN G W N C tp tr lp lr q p) := by kernel_rfl
theorem gp_last (G : Gv) (W : Wv) : (roundV gpE 60 noLps 171 [14] 4 (cutZ 0 gpTail) (unpack 171 [14, 15] gpU (gpA G W))).get = some (.ret, [.bool true], gpA G W) := by kernel_rfl
theorem gp_res (H : List Go.Sx.Blk) : (resultsM Tryz.prog Tryz.f4 (unpack 171 [14] [.bool true] H)).get = some (.bool true) := by kernel_rfl
theorem gp_res0 (W : Wv) (i gen : Int) (disc : Bool) (H : List Go.Sx.Blk) : (resultsM Tryz.prog Tryz.f4 (unpack 171 [2, 3, 5, 6, 14, 15, 16, 17, 18] (gpV0 W i gen disc) H)).get = some (.bool true) := by kernel_rfl
theorem gpThere_cases {G : Gv} (hG : G.OK) {there : Bool} {i gen : Int} (hg : I64i gen) {α : Type} {K : Int → Option α} : ∃ gen', gpThere G.cf G.l there i gen K = K gen' := by
  have hs := hG.right.s
  unfold gpThere
  cases there with
  | false => exact ⟨gen, rfl⟩
  | true =>
    by_cases h1 : i ≥ 0
    case neg => rw [decide_eq_false h1]; exact ⟨gen, rfl⟩
    by_cases h2 : i < (G.cf.s.toNat : Int)
    case neg => rw [decide_eq_true h1, decide_eq_false h2]; exact ⟨gen, rfl⟩
    obtain ⟨j, rfl⟩ : ∃ j : Nat, i = j := ⟨i.toNat, by omega⟩
    rw [decide_eq_true h1, decide_eq_true h2, ixR_in rfl (by omega)]
    exact ⟨_, rfl⟩
theorem gp_go (w : World) (hT : Tab w) (G : Gv) (hG : G.OK) (who : Int) (hwho : 0 ≤ who ∧ who ≤ 255) (i : Int) (hi : I64i i) (gen : Int) (hgen : I64i gen) (there disc : Bool) (W : Wv) (hw : WrI W.gi W.nl) {σ : Nat → Option Pl} (hr : HR (· < w.heap.size) w 0 σ (gpA G W) w)
    {args' : Array Value} (hv : VRA σ [G.val, .int .u8 who, .int .i64 i, .int .i64 gen, .bool there, .bool disc, W.val 3].toArray args') : Calls Tryz.prog 4 args' w fun e w' => e = .returned (.bool true) ∧ Below w.heap.size w w' := by
  have hE := gpE_ok _ w hT.lt (bnd_self w) hT
  have hf : gpE.P.funcs[4]? = some Tryz.f4 := Tryz.func4
  have hb : Tryz.f4.body = some gpBody := by kernel_rfl
  have hn : Tryz.f4.ntmps = 171 := by kernel_rfl
  have hp := gp_pre G W who i gen there disc
  by_cases hl : W.nl ≤ 20
  case neg =>
    rw [decide_eq_true (by omega), cond_true] at hp
    have hq := (cut_runs hE (Nat.zero_le _) gp_cut1 (show 4 ≤ 4 by decide) hp).2 (by simp)
    exact body_start (E := gpE) rfl hf hb (by rw [hn]; exact hq) (.inr rfl) (gp_res0 W i gen disc _) rfl hr hv
  rw [decide_eq_false (by omega), cond_false, bt_of hG.made, noW_of hG.right, bt_of hG.ld] at hp
  generalize atI G.cf.w who = k at hp
  obtain ⟨gen', hg⟩ := gpThere_cases hG (there := there) (i := i) hgen (K := fun gen' => some (Exit.normal, gpV1 W i gen' disc (cntN G.cf) k, gpH1 G W G.cf G.l))
  rw [hg] at hp
  have h1 := (cut_runs hE (Nat.zero_le _) gp_cut1 (show 4 ≤ 4 by decide) hp).1 rfl
  obtain ⟨g1, g2⟩ := cpy_eq hG.okM
  have hm := gp_mid G W G.cf G.l k i gen' disc
  rw [bt_of hG.ld, cpyM_of hG.okM, g1, g2] at hm
  have h2 := (cut_runs hE (Nat.zero_le _) gp_cut2 (show 4 ≤ 6 by decide) hm).1 rfl
  let s : GpS := ⟨(cntN G.cf : Nat), 0, G.l, gpQ0 G.cf k i gen' disc, none⟩
  have hI : GpInv (cntN G.cf) s.l s.q s.r := ⟨hG.okM, hG.I, (show I64i 0 from ⟨by decide, by decide⟩), .inl rfl⟩
  have h3 := gp_runs (X := (· < w.heap.size)) (w0 := w) hT.lt (bnd_self w) hT G W (cntN G.cf) (cntN G.cf) hl hw s hI
  have h4 : RunsB Tryz.prog (· < w.heap.size) w 0 4 gpTail (unpack 171 [6, 14, 15, 20, 21, 22, 23] (gpVM W) (gpH G W (cntN G.cf) (cntN G.cf) s)) .ret (unpack 171 [14] [.bool true] (gpA G W)) := by
    rw [gp_shape]
    exact ((round_runs hE (noLps_ok _) (gp_first G W (cntN G.cf) (cntN G.cf) _ _ _ _ _ _) (Nat.zero_le _) (show 4 ≤ 10 by decide)).seq h3).seq (round_runs hE (noLps_ok _) (gp_last G W) (Nat.zero_le _) (show 4 ≤ 4 by decide))
  exact body_start (E := gpE) rfl hf hb (by rw [hn]; exact h1 _ _ (h2 _ _ h4)) (.inr rfl) (gp_res _) rfl hr hv
theorem gp_walk (w : World) (hT : Tab w) {v : Value} {a b c d e : Int} {A0 A1 A2 : Option Addr} {n0 c0 n1 c1 n2 c2 : Nat} {R0 R1 R2 : Go.Sx.Rows} (hg : GivenA w v a b c d e A0 n0 c0 R0 A1 n1 c1 R1 A2 n2 c2 R2) (x1 : Int) (b1 : 0 ≤ x1 ∧ x1 ≤ 255) (x2 : Int) (b2 : -9223372036854775808 ≤ x2 ∧ x2 ≤ 9223372036854775807) (x3 : Int) (b3 : -9223372036854775808 ≤ x3 ∧ x3 ≤ 9223372036854775807) (x4 : Bool) (x5 : Bool) {B6 : Option Addr} {m6 q6 : Nat} {S6 : Go.Sx.Rows} (k6 : S6.ks = kWr) (r6 : ArgRow w B6 m6 q6 3 S6) :
    Calls Tryz.prog 4 #[v, .int .u8 x1, .int .i64 x2, .int .i64 x3, .bool x4, .bool x5, .slice B6 m6 q6] w fun e w' => e = .returned (.bool true) ∧ Below w.heap.size w w' := by
  have hw6 : WrI S6.gi m6 := fun i hi => ⟨U8_of_wf (r6.wf i 1 .u8 hi (by decide) (by rw [k6]; rfl)), I64_of_wf (r6.wf i 2 .i64 hi (by decide) (by rw [k6]; rfl))⟩
  have hval := hg.val
  have hfi : ∀ i, i < n1 → 0 ≤ R1.gi i 0 ∧ R1.gi i 0 ≤ 255 := fun i hi => U8_of_wf (hg.r1.wf i 0 .u8 hi (by decide) (by rw [hg.k1]; rfl))
  have q0 := hg.k0; have q1 := hg.k1; have q2 := hg.k2
  obtain ⟨ks0, R0gi, R0gb⟩ := R0
  obtain ⟨ks1, R1gi, R1gb⟩ := R1
  obtain ⟨ks2, R2gi, R2gb⟩ := R2
  simp only at q0 q1 q2
  subst q0 q1 q2
  let G : Gv := ⟨n0, n1, n2, c0, c1, c2, R0gi, R1gi, R2gi, R0gb, R1gb, R2gb, a, b, c, d, e⟩
  have hG : G.OK := ⟨hg.ha, hg.hb, hg.hc, hg.hd, hg.he, hfi⟩
  obtain ⟨ks6, S6gi, S6gb⟩ := S6
  simp only at k6
  subst k6
  let L : List ArgE := [(A0, n0, c0, 9, ⟨kSlot, R0gi, R0gb⟩), (A1, n1, c1, 1, ⟨[.it .u8], R1gi, R1gb⟩), (A2, n2, c2, 1, ⟨[.it .u8], R2gi, R2gb⟩), (B6, m6, q6, 3, ⟨kWr, S6gi, S6gb⟩)]
  let σ : Nat → Option Pl := fun k => (L[k]?).bind fun e : ArgE => plOf e.1 e.2.1 e.2.2.2.1
  have hL : ∀ e ∈ L, ArgRow w e.1 e.2.1 e.2.2.1 e.2.2.2.1 e.2.2.2.2 := by
    intro e he
    simp only [L, List.mem_cons, List.not_mem_nil, or_false] at he
    rcases he with rfl | rfl | rfl | rfl
    · exact hg.r0
    · exact hg.r1
    · exact hg.r2
    · exact r6
  have hr : HR (· < w.heap.size) w 0 σ ((L.map fun e : ArgE => (e.2.2.2.1, e.2.1, e.2.2.2.2)).map fun e => .rows false false e.1 e.2.1 e.2.2) w := args_hr _ (plOfs_some L hL)
  rw [hval]
  refine gp_go w hT G hG x1 b1 x2 b2 x3 b3 x4 x5 ⟨m6, q6, S6gi, S6gb⟩ hw6 hr (VRA.of_list ?_)
  exact .cons (.agg rfl (VRA.of_list (.cons (.int _ _) (.cons (.int _ _) (.cons (.int _ _) (.cons (.int _ _) (.cons (.int _ _) (.cons (VR.argRow (σ := σ) (k := 0) hg.r0 rfl _) (.cons (VR.argRow (σ := σ) (k := 1) hg.r1 rfl _) (.cons (VR.argRow (σ := σ) (k := 2) hg.r2 rfl _) .nil))))))))).2) (.cons (.int _ _) (.cons (.int _ _) (.cons (.int _ _) (.cons (.bool _) (.cons (.bool _) (.cons (VR.argRow (σ := σ) (k := 3) r6 rfl _) .nil))))))
end Go.Proofs.YthfoljgaiincdaaGreatDoor
