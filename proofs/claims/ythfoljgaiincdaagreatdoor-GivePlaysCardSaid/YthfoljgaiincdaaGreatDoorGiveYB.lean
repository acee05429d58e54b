
/- give: a step of the document, its contract. No condition of its own. -/
import Derived.Test.YthfoljgaiincdaaGreatDoorGiveYA
import Derived.Test.YthfoljgaiincdaaGreatDoorRetPG
namespace Go.Proofs.YthfoljgaiincdaaGreatDoor
open Go.RowKit Go.Fld Go.Sx
set_option linter.unusedVariables false
set_option linter.unusedSimpArgs false
def yLk (n : Nat) (l : List Int) (q : Gq) : Nat := ylookK (decA (ldS n l (gCell q))) q 0 1 2 3
def yAft (q : Gq) : Option Int := aftS decA q.wd 4 q.w 0
def yHit (n : Nat) (l : List Int) (q : Gq) : Bool := bif (yAft q).isSome then casB n l (gCell q) q.wd else false
def yGoes (n : Nat) (l : List Int) (q : Gq) : Bool := bif q.st == 1 then (bif decide (gCell q < 0) then false else Nat.beq (yLk n l q) 2) else false
def yq (n : Nat) (l : List Int) (q : Gq) : Gq :=
  bif q.st == 0 then (bif ldS n l 0 == 2 then gEnd (gCl q (ldS n l 0)) 5 else gAt (gCl q (ldS n l 0)) 1) else
  bif q.st == 1 then (bif decide (gCell q < 0) then gEnd q 2 else bif Nat.beq (yLk n l q) 0 then gEnd (gWd q (ldS n l (gCell q))) 2 else bif Nat.beq (yLk n l q) 1 then gEnd (gWd q (ldS n l (gCell q))) 8 else bif Nat.beq (yLk n l q) 2 then gAt (gWd q (ldS n l (gCell q))) 3 else gAt (gWd q (ldS n l (gCell q))) 2) else
  bif q.st == 2 then (bif yHit n l q then gEnd q 0 else gAt q 1) else q
def ymem (n : Nat) (l : List Int) (q : Gq) : List Int := bif q.st == 2 then (bif (yAft q).isSome then casS n l (gCell q) q.wd ((yAft q).getD 0) else l) else l
def ytch (n : Nat) (q : Gq) (t : Int) : Int :=
  bif q.st == 0 then tcS n 0 t else bif q.st == 1 then (bif decide (gCell q < 0) then t else tcS n (gCell q) t) else bif q.st == 2 then (bif (yAft q).isSome then tcS n (gCell q) t else t) else t
def yret (n : Nat) (l : List Int) (q : Gq) : Bool := (yq n l q).st == 4
def yqR (n : Nat) (l : List Int) (q : Gq) (r : Rr) : Gq := bif (rrstep n l r).dn then (bif (rrstep n l r).sw then gEnd q 0 else gAt q 1) else q
theorem ylookK_C {α : Type} (d : Option Slt) (q : Gq) (A B C D : α) : ylookK d q A B C D = bif Nat.beq (ylookK d q 0 1 2 3) 0 then A else bif Nat.beq (ylookK d q 0 1 2 3) 1 then B else bif Nat.beq (ylookK d q 0 1 2 3) 2 then C else D := by
  unfold ylookK
  cases d.isSome <;> cases ((slt0 d).st != 3) <;> cases ((slt0 d).own != q.w) <;> cases ((slt0 d).gen != q.gen) <;> cases decide ((slt0 d).str > 0) <;> cases q.disc <;> cases (slt0 d).brk <;> cases decide ((slt0 d).uses ≥ q.cf.u) <;> cases (q.cl != 0) <;> rfl
theorem ylookK_lt (d : Option Slt) (q : Gq) : (ylookK d q 0 1 2 3 : Nat) = 0 ∨ (ylookK d q 0 1 2 3 : Nat) = 1 ∨ (ylookK d q 0 1 2 3 : Nat) = 2 ∨ (ylookK d q 0 1 2 3 : Nat) = 3 := by
  unfold ylookK
  cases d.isSome <;> cases ((slt0 d).st != 3) <;> cases ((slt0 d).own != q.w) <;> cases ((slt0 d).gen != q.gen) <;> cases decide ((slt0 d).str > 0) <;> cases q.disc <;> cases (slt0 d).brk <;> cases decide ((slt0 d).uses ≥ q.cf.u) <;> cases (q.cl != 0) <;> decide
theorem yq_0 {n : Nat} {l : List Int} {q : Gq} (h : q.st = 0) : yq n l q = bif ldS n l 0 == 2 then gEnd (gCl q (ldS n l 0)) 5 else gAt (gCl q (ldS n l 0)) 1 := by unfold yq; rw [h]; rfl
theorem yq_1 {n : Nat} {l : List Int} {q : Gq} (h : q.st = 1) : yq n l q = bif decide (gCell q < 0) then gEnd q 2 else bif Nat.beq (yLk n l q) 0 then gEnd (gWd q (ldS n l (gCell q))) 2 else bif Nat.beq (yLk n l q) 1 then gEnd (gWd q (ldS n l (gCell q))) 8 else bif Nat.beq (yLk n l q) 2 then gAt (gWd q (ldS n l (gCell q))) 3 else gAt (gWd q (ldS n l (gCell q))) 2 := by unfold yq; rw [h]; rfl
theorem yq_2 {n : Nat} {l : List Int} {q : Gq} (h : q.st = 2) : yq n l q = bif yHit n l q then gEnd q 0 else gAt q 1 := by unfold yq; rw [h]; rfl
theorem yq_4 {n : Nat} {l : List Int} {q : Gq} (h : q.st = 4) : yq n l q = q := by unfold yq; rw [h]; rfl
theorem ymem_0 {n : Nat} {l : List Int} {q : Gq} (h : q.st = 0) : ymem n l q = l := by unfold ymem; rw [h]; rfl
theorem ymem_1 {n : Nat} {l : List Int} {q : Gq} (h : q.st = 1) : ymem n l q = l := by unfold ymem; rw [h]; rfl
theorem ymem_2 {n : Nat} {l : List Int} {q : Gq} (h : q.st = 2) : ymem n l q = bif (yAft q).isSome then casS n l (gCell q) q.wd ((yAft q).getD 0) else l := by unfold ymem; rw [h]; rfl
theorem ymem_4 {n : Nat} {l : List Int} {q : Gq} (h : q.st = 4) : ymem n l q = l := by unfold ymem; rw [h]; rfl
theorem ytch_0 {n : Nat} {q : Gq} {t : Int} (h : q.st = 0) : ytch n q t = tcS n 0 t := by unfold ytch; rw [h]; rfl
theorem ytch_1 {n : Nat} {q : Gq} {t : Int} (h : q.st = 1) : ytch n q t = bif decide (gCell q < 0) then t else tcS n (gCell q) t := by unfold ytch; rw [h]; rfl
theorem ytch_2 {n : Nat} {q : Gq} {t : Int} (h : q.st = 2) : ytch n q t = bif (yAft q).isSome then tcS n (gCell q) t else t := by unfold ytch; rw [h]; rfl
theorem ytch_4 {n : Nat} {q : Gq} {t : Int} (h : q.st = 4) : ytch n q t = t := by unfold ytch; rw [h]; rfl
theorem yGoes_0 {n : Nat} {l : List Int} {q : Gq} (h : q.st = 0) : yGoes n l q = false := by unfold yGoes; rw [h]; rfl
theorem yGoes_1 {n : Nat} {l : List Int} {q : Gq} (h : q.st = 1) : yGoes n l q = bif decide (gCell q < 0) then false else Nat.beq (yLk n l q) 2 := by unfold yGoes; rw [h]; rfl
theorem yGoes_2 {n : Nat} {l : List Int} {q : Gq} (h : q.st = 2) : yGoes n l q = false := by unfold yGoes; rw [h]; rfl
theorem yGoes_4 {n : Nat} {l : List Int} {q : Gq} (h : q.st = 4) : yGoes n l q = false := by unfold yGoes; rw [h]; rfl
def yGoN (q : Gq) (n : Nat) (t : Int) (l : List Int) : Value × List Go.Sx.Blk := (.bool false, yBR 3 (gyOf (yq n l q)) :: memQt 2 n (ytch n q t) (ymem n l q) ++ [rrB (yNew n l q)])
def yGoR (q : Gq) (r : Rr) (n : Nat) (t : Int) (l : List Int) : Value × List Go.Sx.Blk := (.bool false, [yBR 4 (gyOf (yq n l q)), memQ3 n (ytch n q t), rrB r, .ints true true (ymem n l q), rrB (yNew n l q)])
def yStN (q : Gq) (n : Nat) (t : Int) (l : List Int) : Value × List Go.Sx.Blk := (.bool (yret n l q), yHN (gyOf (yq n l q)) n (ytch n q t) (ymem n l q))
def yStR (q : Gq) (r : Rr) (n : Nat) (t : Int) (l : List Int) : Value × List Go.Sx.Blk := (.bool (yret n l q), yHR (gyOf (yq n l q)) r n (ytch n q t) (ymem n l q))
def yStG (q : Gq) (r : Rr) (n : Nat) (t : Int) (l : List Int) : Value × List Go.Sx.Blk := (.bool ((yqR n l q r).st == 4), yHR (gyOf (yqR n l q r)) (rrstep n l r) n (rrtch n r t) (rrmem n l r))
theorem yN_run (q : Gq) (n : Nat) (t : Int) (l : List Int) (h : okM n l = true) (hs : gOKN q.st = true) : (callV gyEnv 40 27 [p0, pp1] (yHN (gyOf q) n t l)).get = bif yGoes n l q then some (yGoN q n t l) else some (yStN q n t l) := by
  obtain ⟨cf, w, i, gen, disc, st, cl, wd, e⟩ := q
  rcases gOKN_cases hs with hs | hs | hs | hs <;> (simp only at hs; subst hs)
  · rw [yN0_tree, bt_of h, yGoes_0 rfl]
    unfold yStN yret
    rw [yq_0 rfl, ymem_0 rfl, ytch_0 rfl]
    cases (ldS n l 0 == 2) <;> rfl
  · rw [yN1_tree, bt_of h, yGoes_1 rfl]
    unfold yStN yGoN yret
    rw [yq_1 rfl, ymem_1 rfl, ytch_1 rfl, ylookK_C]
    unfold yLk gCell
    simp only
    cases decide (cellC cf i < 0) with
    | true => rfl
    | false =>
      simp only [cond_false]
      rcases ylookK_lt (decA (ldS n l (cellC cf i))) ⟨cf, w, i, gen, disc, 1, cl, wd, e⟩ with hl | hl | hl | hl <;> (rw [hl]; rfl)
  · rw [yN2_tree, bt_of h, yGoes_2 rfl]
    unfold yStN yret
    rw [yq_2 rfl, ymem_2 rfl, ytch_2 rfl]
    unfold yHit yAft gCell
    simp only
    cases aftS decA wd 4 w 0 with
    | none => rfl
    | some x =>
      simp only [Option.isSome_some, cond_true]
      cases casB n l (cellC cf i) wd <;> rfl
  · rw [yN4_tree, yGoes_4 rfl]
    unfold yStN yret
    rw [yq_4 rfl, ymem_4 rfl, ytch_4 rfl]
    rfl
theorem yR_run (q : Gq) (r : Rr) (n : Nat) (t : Int) (l : List Int) (h : okM n l = true) (hs : gOKN q.st = true) : (callV gyEnv 40 27 [p0, pp1] (yHR (gyOf q) r n t l)).get = bif yGoes n l q then some (yGoR q r n t l) else some (yStR q r n t l) := by
  obtain ⟨cf, w, i, gen, disc, st, cl, wd, e⟩ := q
  rcases gOKN_cases hs with hs | hs | hs | hs <;> (simp only at hs; subst hs)
  · rw [yR0_tree, bt_of h, yGoes_0 rfl]
    unfold yStR yret
    rw [yq_0 rfl, ymem_0 rfl, ytch_0 rfl]
    cases (ldS n l 0 == 2) <;> rfl
  · rw [yR1_tree, bt_of h, yGoes_1 rfl]
    unfold yStR yGoR yret
    rw [yq_1 rfl, ymem_1 rfl, ytch_1 rfl, ylookK_C]
    unfold yLk gCell
    simp only
    cases decide (cellC cf i < 0) with
    | true => rfl
    | false =>
      simp only [cond_false]
      rcases ylookK_lt (decA (ldS n l (cellC cf i))) ⟨cf, w, i, gen, disc, 1, cl, wd, e⟩ with hl | hl | hl | hl <;> (rw [hl]; rfl)
  · rw [yR2_tree, bt_of h, yGoes_2 rfl]
    unfold yStR yret
    rw [yq_2 rfl, ymem_2 rfl, ytch_2 rfl]
    unfold yHit yAft gCell
    simp only
    cases aftS decA wd 4 w 0 with
    | none => rfl
    | some x =>
      simp only [Option.isSome_some, cond_true]
      cases casB n l (cellC cf i) wd <;> rfl
  · rw [yR4_tree, yGoes_4 rfl]
    unfold yStR yret
    rw [yq_4 rfl, ymem_4 rfl, ytch_4 rfl]
    rfl
theorem yR3_run (q : Gq) (r : Rr) (n : Nat) (t : Int) (l : List Int) (h : okM n l = true) (hs : q.st = 3) : (callV gyEnv 40 27 [p0, pp1] (yHR (gyOf q) r n t l)).get = some (yStG q r n t l) := by
  obtain ⟨cf, w, i, gen, disc, st, cl, wd, e⟩ := q
  simp only at hs; subst hs
  rw [yR3_tree, bt_of h]
  unfold yStG yqR
  cases (rrstep n l r).dn with
  | false => rfl
  | true => cases (rrstep n l r).sw <;> rfl
def stOf (b : ByteArray) : Int := bif b.data.toList == (strB 0).data.toList then 0 else bif b.data.toList == (strB 1).data.toList then 1 else bif b.data.toList == (strB 2).data.toList then 2 else bif b.data.toList == (strB 3).data.toList then 3 else 4
def bOK (b : ByteArray) : Bool := b.data.toList == (strB (stOf b)).data.toList
theorem bOK_eq {b : ByteArray} (h : bOK b = true) : b = strB (stOf b) := by
  unfold bOK at h
  rw [beq_iff_eq] at h
  have := Array.toList_inj.1 h
  cases b
  exact congrArg ByteArray.mk this
theorem stOf_str {st : Int} (h : st = 0 ∨ st = 1 ∨ st = 2 ∨ st = 3 ∨ st = 4) : stOf (strB st) = st ∧ bOK (strB st) = true := by
  rcases h with rfl | rfl | rfl | rfl | rfl <;> exact ⟨by kernel_rfl, by kernel_rfl⟩
def gqOf (y : Gy) : Gq := ⟨y.cf, y.w, y.i, y.gen, y.disc, stOf y.b, y.cl, y.wd, y.e⟩
theorem gyOf_gqOf {y : Gy} (h : bOK y.b = true) : gyOf (gqOf y) = y := by
  obtain ⟨cf, w, i, gen, disc, cl, wd, b, e⟩ := y
  unfold gqOf gyOf
  simp only
  rw [← bOK_eq h]
theorem gqOf_gyOf {q : Gq} (h : q.st = 0 ∨ q.st = 1 ∨ q.st = 2 ∨ q.st = 3 ∨ q.st = 4) : gqOf (gyOf q) = q := by
  obtain ⟨cf, w, i, gen, disc, st, cl, wd, e⟩ := q
  unfold gqOf gyOf
  simp only at h ⊢
  rw [(stOf_str h).1]
def gyO : Orc := fun args lh => match args, lh with
  | [.pointer (some ⟨0, 0, none⟩), .pointer (some ⟨1, 0, none⟩)], [.cells true true [.int .i64 cw, .int .i64 cs, .int .i64 cst, .int .i64 cwt, .int .i64 cu, .int .i64 w, .int .i64 i, .int .i64 gen, .bool disc, .int .i64 cl, .int .i64 wd, .string b, .pointer none, .int .i64 e], .cells true true [.slice (some ⟨2, 0, some 1⟩) n 0, .int .i64 t], .ints true true l] =>
    .br (okM n l && bOK b && gOKN (stOf b)) (.br (yGoes n l (gqOf ⟨⟨cw, cs, cst, cwt, cu⟩, w, i, gen, disc, cl, wd, b, e⟩)) (.ret (yGoN (gqOf ⟨⟨cw, cs, cst, cwt, cu⟩, w, i, gen, disc, cl, wd, b, e⟩) n t l)) (.ret (yStN (gqOf ⟨⟨cw, cs, cst, cwt, cu⟩, w, i, gen, disc, cl, wd, b, e⟩) n t l))) .bad
  | [.pointer (some ⟨0, 0, none⟩), .pointer (some ⟨1, 0, none⟩)], [.cells true true [.int .i64 cw, .int .i64 cs, .int .i64 cst, .int .i64 cwt, .int .i64 cu, .int .i64 w, .int .i64 i, .int .i64 gen, .bool disc, .int .i64 cl, .int .i64 wd, .string b, .pointer (some ⟨2, 0, none⟩), .int .i64 e], .cells true true [.slice (some ⟨3, 0, some 1⟩) n 0, .int .i64 t], .cells true true [.int .i64 dw, .int .i64 ds, .int .i64 dst, .int .i64 dwt, .int .i64 du, .int .i64 ri, .int .i64 rw, .int .i64 re, .int .i64 rst, .bool rs, .bool rd], .ints true true l] =>
    .br (okM n l && bOK b && (gOKN (stOf b) || stOf b == 3)) (.br (stOf b == 3) (.ret (yStG (gqOf ⟨⟨cw, cs, cst, cwt, cu⟩, w, i, gen, disc, cl, wd, b, e⟩) ⟨⟨dw, ds, dst, dwt, du⟩, ri, rw, re, rst, rs, rd⟩ n t l))
      (.br (yGoes n l (gqOf ⟨⟨cw, cs, cst, cwt, cu⟩, w, i, gen, disc, cl, wd, b, e⟩)) (.ret (yGoR (gqOf ⟨⟨cw, cs, cst, cwt, cu⟩, w, i, gen, disc, cl, wd, b, e⟩) ⟨⟨dw, ds, dst, dwt, du⟩, ri, rw, re, rst, rs, rd⟩ n t l)) (.ret (yStR (gqOf ⟨⟨cw, cs, cst, cwt, cu⟩, w, i, gen, disc, cl, wd, b, e⟩) ⟨⟨dw, ds, dst, dwt, du⟩, ri, rw, re, rst, rs, rd⟩ n t l)))) .bad
  | _, _ => .bad
theorem gy_sound : Sound Tryz.prog Tab 27 gyO := by
  refine Sound.of_run ⟨Tryz.func27, by kernel_rfl, by kernel_rfl⟩ rfl rfl gyEnv_ok 40 fun args lh r hr => ?_
  unfold gyO at hr
  split at hr
  · rename_i cw cs cst cwt cu w i gen disc cl wd b e n t l
    rcases M.get_br_some hr with ⟨hc, hr⟩ | ⟨_, hr⟩
    · rw [Bool.and_eq_true, Bool.and_eq_true] at hc
      have hy := gyOf_gqOf (y := ⟨⟨cw, cs, cst, cwt, cu⟩, w, i, gen, disc, cl, wd, b, e⟩) hc.1.2
      have h0 := yN_run (gqOf ⟨⟨cw, cs, cst, cwt, cu⟩, w, i, gen, disc, cl, wd, b, e⟩) n t l hc.1.1 hc.2
      rw [hy] at h0
      refine h0.trans ?_
      rcases M.get_br_some hr with ⟨hg, hr⟩ | ⟨hg, hr⟩
      · simp only [M.get_ret, Option.some.injEq] at hr; subst hr
        rw [hg]; rfl
      · simp only [M.get_ret, Option.some.injEq] at hr; subst hr
        rw [hg]; rfl
    · cases hr
  · rename_i cw cs cst cwt cu w i gen disc cl wd b e n t dw ds dst dwt du ri rw' re rst rs rd l
    rcases M.get_br_some hr with ⟨hc, hr⟩ | ⟨_, hr⟩
    · rw [Bool.and_eq_true, Bool.and_eq_true] at hc
      have hy := gyOf_gqOf (y := ⟨⟨cw, cs, cst, cwt, cu⟩, w, i, gen, disc, cl, wd, b, e⟩) hc.1.2
      rcases M.get_br_some hr with ⟨h3, hr⟩ | ⟨h3, hr⟩
      · have h3 := eq_of_beq h3
        simp only [M.get_ret, Option.some.injEq] at hr; subst hr
        have h0 := yR3_run (gqOf ⟨⟨cw, cs, cst, cwt, cu⟩, w, i, gen, disc, cl, wd, b, e⟩) ⟨⟨dw, ds, dst, dwt, du⟩, ri, rw', re, rst, rs, rd⟩ n t l hc.1.1 h3
        rw [hy] at h0
        exact h0
      · have hN : gOKN (stOf b) = true := by
          have := hc.2
          rw [h3, Bool.or_false] at this
          exact this
        have h0 := yR_run (gqOf ⟨⟨cw, cs, cst, cwt, cu⟩, w, i, gen, disc, cl, wd, b, e⟩) ⟨⟨dw, ds, dst, dwt, du⟩, ri, rw', re, rst, rs, rd⟩ n t l hc.1.1 hN
        rw [hy] at h0
        refine h0.trans ?_
        rcases M.get_br_some hr with ⟨hg, hr⟩ | ⟨hg, hr⟩
        · simp only [M.get_ret, Option.some.injEq] at hr; subst hr
          rw [hg]; rfl
        · simp only [M.get_ret, Option.some.injEq] at hr; subst hr
          rw [hg]; rfl
    · cases hr
  · cases hr
def gyOrcs : List (FuncId × Orc) := [(27, frameM gyO)]
theorem gyOrcs_ok : Sounds Tryz.prog Tab gyOrcs := sounds_cons (gy_sound.frame tab_kept) sounds_nil
/-! ### One as the other -/
theorem look_same {w : Int} (hw : I64i w) (q : Gq) : ylookK (decA w) q 0 1 2 3 = lookC (decS w) q := by
  rw [decA_eq w hw]
  unfold lookC ylookK lookK
  cases h : decS w with
  | none => rfl
  | some s =>
    have F := dec_facts h
    have hs := F.str
    have : decide ((slt0 (some s)).str > 0) = ((slt0 (some s)).str != 0) := by
      show decide (s.str > 0) = (s.str != 0)
      by_cases h0 : s.str = 0
      · rw [h0]; rfl
      · rw [decide_eq_true (by omega), show (s.str != 0) = true from bne_iff_ne.2 h0]
    rw [this]
theorem y_same {n : Nat} {l : List Int} {q : Gq} (hI : AllI l) (hw : I64i q.wd) : yGoes n l q = gGoes n l q ∧ yq n l q = gq n l q ∧ ymem n l q = gmem n l q ∧ ∀ t, ytch n q t = gtch n q t := by
  have h1 : yLk n l q = gLk n l q := look_same (hI.ld n (gCell q)) q
  have h2 : yAft q = gAft q := aft_dec hw 4 q.w 0
  refine ⟨?_, ?_, ?_, fun t => ?_⟩
  · unfold yGoes gGoes; rw [h1]
  · unfold yq gq yHit gHit; rw [h1, h2]
  · unfold ymem gmem; rw [h2]
  · unfold ytch gtch; rw [h2]
end Go.Proofs.YthfoljgaiincdaaGreatDoor
