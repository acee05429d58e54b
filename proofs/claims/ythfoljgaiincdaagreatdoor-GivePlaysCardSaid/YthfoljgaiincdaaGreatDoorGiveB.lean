
/- give: a step's contract. No condition of its own. -/
import Derived.Test.YthfoljgaiincdaaGreatDoorGiveA
namespace Go.Proofs.YthfoljgaiincdaaGreatDoor
open Go.RowKit Go.Fld Go.Sx
set_option linter.unusedVariables false
set_option linter.unusedSimpArgs false
theorem gq_0 {n : Nat} {l : List Int} {q : Gq} (h : q.st = 0) : gq n l q = bif ldS n l 0 == 2 then gEnd (gCl q (ldS n l 0)) 5 else gAt (gCl q (ldS n l 0)) 1 := by unfold gq; rw [h]; rfl
theorem gq_1 {n : Nat} {l : List Int} {q : Gq} (h : q.st = 1) : gq n l q = bif decide (gCell q < 0) then gEnd q 2 else bif Nat.beq (gLk n l q) 0 then gEnd (gWd q (ldS n l (gCell q))) 2 else bif Nat.beq (gLk n l q) 1 then gEnd (gWd q (ldS n l (gCell q))) 8 else bif Nat.beq (gLk n l q) 2 then gAt (gWd q (ldS n l (gCell q))) 3 else gAt (gWd q (ldS n l (gCell q))) 2 := by unfold gq; rw [h]; rfl
theorem gq_2 {n : Nat} {l : List Int} {q : Gq} (h : q.st = 2) : gq n l q = bif gHit n l q then gEnd q 0 else gAt q 1 := by unfold gq; rw [h]; rfl
theorem gq_4 {n : Nat} {l : List Int} {q : Gq} (h : q.st = 4) : gq n l q = q := by unfold gq; rw [h]; rfl
theorem gmem_0 {n : Nat} {l : List Int} {q : Gq} (h : q.st = 0) : gmem n l q = l := by unfold gmem; rw [h]; rfl
theorem gmem_1 {n : Nat} {l : List Int} {q : Gq} (h : q.st = 1) : gmem n l q = l := by unfold gmem; rw [h]; rfl
theorem gmem_2 {n : Nat} {l : List Int} {q : Gq} (h : q.st = 2) : gmem n l q = bif (gAft q).isSome then casS n l (gCell q) q.wd ((gAft q).getD 0) else l := by unfold gmem; rw [h]; rfl
theorem gmem_4 {n : Nat} {l : List Int} {q : Gq} (h : q.st = 4) : gmem n l q = l := by unfold gmem; rw [h]; rfl
theorem gtch_0 {n : Nat} {q : Gq} {t : Int} (h : q.st = 0) : gtch n q t = tcS n 0 t := by unfold gtch; rw [h]; rfl
theorem gtch_1 {n : Nat} {q : Gq} {t : Int} (h : q.st = 1) : gtch n q t = bif decide (gCell q < 0) then t else tcS n (gCell q) t := by unfold gtch; rw [h]; rfl
theorem gtch_2 {n : Nat} {q : Gq} {t : Int} (h : q.st = 2) : gtch n q t = bif (gAft q).isSome then tcS n (gCell q) t else t := by unfold gtch; rw [h]; rfl
theorem gtch_4 {n : Nat} {q : Gq} {t : Int} (h : q.st = 4) : gtch n q t = t := by unfold gtch; rw [h]; rfl
theorem gGoes_0 {n : Nat} {l : List Int} {q : Gq} (h : q.st = 0) : gGoes n l q = false := by unfold gGoes; rw [h]; rfl
theorem gGoes_1 {n : Nat} {l : List Int} {q : Gq} (h : q.st = 1) : gGoes n l q = bif decide (gCell q < 0) then false else Nat.beq (gLk n l q) 2 := by unfold gGoes; rw [h]; rfl
theorem gGoes_2 {n : Nat} {l : List Int} {q : Gq} (h : q.st = 2) : gGoes n l q = false := by unfold gGoes; rw [h]; rfl
theorem gGoes_3 {n : Nat} {l : List Int} {q : Gq} (h : q.st = 3) : gGoes n l q = false := by unfold gGoes; rw [h]; rfl
theorem gGoes_4 {n : Nat} {l : List Int} {q : Gq} (h : q.st = 4) : gGoes n l q = false := by unfold gGoes; rw [h]; rfl
theorem gRest_eq (d : Option Slt) (q : Gq) (N : gOut) (Y X : Option Int → gOut) (c : Bool) :
    gRest d q true N (Y (encS (slt0 (nextS (slt0 d) 4 q.w 0)))) (X (encS (slt0 (nextS (slt0 d) 4 q.w 0)))) c = bif ((d.bind fun s => nextS s 4 q.w 0).bind encS).isSome then (bif c then Y ((d.bind fun s => nextS s 4 q.w 0).bind encS) else X ((d.bind fun s => nextS s 4 q.w 0).bind encS)) else N := by
  unfold gRest slt0
  cases d with
  | none => rfl
  | some s =>
    simp only [Option.getD_some, Option.bind_some]
    cases nextS s 4 q.w 0 <;> rfl
def gOKN (st : Int) : Bool := st == 0 || st == 1 || st == 2 || st == 4
def gOKR (st : Int) (f : Nat) : Bool := gOKN st || st == 3 && rOK f
theorem gOKN_cases {st : Int} (h : gOKN st = true) : st = 0 ∨ st = 1 ∨ st = 2 ∨ st = 4 := by
  unfold gOKN at h
  simp only [Bool.or_eq_true, beq_iff_eq] at h
  omega
def gGoN (q : Gq) (n c : Nat) (t : Int) (l : List Int) : Value × List Go.Sx.Blk := (.bool false, gBR 3 (gq n l q) :: memAt 2 n c (gtch n q t) (gmem n l q) ++ [rqB 3 (gNew n l q)])
def gGoR (q : Gq) (r : Rq) (n c : Nat) (t : Int) (l : List Int) : Value × List Go.Sx.Blk := (.bool false, [gBR 4 (gq n l q), memA3 n c (gtch n q t), rqB 2 r, .ints true true (gmem n l q), rqB 4 (gNew n l q)])
/-- A step without a Retire at work. -/
def gStN (q : Gq) (n c : Nat) (t : Int) (l : List Int) : Value × List Go.Sx.Blk := (.bool (gret n l q), gHN (gq n l q) n c (gtch n q t) (gmem n l q))
def gStR (q : Gq) (r : Rq) (n c : Nat) (t : Int) (l : List Int) : Value × List Go.Sx.Blk := (.bool (gret n l q), gHR (gq n l q) r n c (gtch n q t) (gmem n l q))
/-- A step of the Retire. -/
def gStG (q : Gq) (r : Rq) (n c : Nat) (t : Int) (l : List Int) : Value × List Go.Sx.Blk := (.bool ((gqR n l q r).st == 4), gHR (gqR n l q r) (rstep n l r) n c (rtch n r t) (rmem n l r))
theorem gN_run (q : Gq) (n c : Nat) (t : Int) (l : List Int) (h : okM n l = true) (hs : gOKN q.st = true) : (callV gvEnv 40 26 [p0, pp1] (gHN q n c t l)).get = bif gGoes n l q then some (gGoN q n c t l) else some (gStN q n c t l) := by
  obtain ⟨cf, w, i, gen, disc, st, cl, wd, e⟩ := q
  rcases gOKN_cases hs with hs | hs | hs | hs <;> (simp only at hs; subst hs)
  · rw [gN0_tree, bt_of h, gGoes_0 rfl]
    unfold gStN gret
    rw [gq_0 rfl, gmem_0 rfl, gtch_0 rfl]
    cases (ldS n l 0 == 2) <;> rfl
  · rw [gN1_tree, bt_of h, gGoes_1 rfl]
    unfold gStN gGoN gret
    rw [gq_1 rfl, gmem_1 rfl, gtch_1 rfl, lookK_C]
    unfold gLk gCell
    simp only
    cases decide (cellC cf i < 0) with
    | true => rfl
    | false =>
      simp only [cond_false]
      rcases lookC_lt (decS (ldS n l (cellC cf i))) ⟨cf, w, i, gen, disc, 1, cl, wd, e⟩ with hl | hl | hl | hl <;> (rw [hl]; rfl)
  · rw [gN2_tree, h, gGoes_2 rfl]
    unfold gStN gret
    rw [gq_2 rfl, gmem_2 rfl, gtch_2 rfl]
    refine (gRest_eq (decS wd) ⟨cf, w, i, gen, disc, 2, cl, wd, e⟩ (some (.bool false, gHN (gAt ⟨cf, w, i, gen, disc, 2, cl, wd, e⟩ 1) n c t l)) (fun A => some (.bool true, gHN (gEnd ⟨cf, w, i, gen, disc, 2, cl, wd, e⟩ 0) n c (tcS n (cellC cf i) t) (casS n l (cellC cf i) wd (A.getD 0)))) (fun A => some (.bool false, gHN (gAt ⟨cf, w, i, gen, disc, 2, cl, wd, e⟩ 1) n c (tcS n (cellC cf i) t) (casS n l (cellC cf i) wd (A.getD 0)))) (casB n l (cellC cf i) wd)).trans ?_
    unfold gHit gAft aftS gCell
    simp only
    cases ((decS wd).bind fun s => nextS s 4 w 0).bind encS with
    | none => rfl
    | some x =>
      simp only [Option.isSome_some, cond_true]
      cases casB n l (cellC cf i) wd <;> rfl
  · rw [gN4_tree, gGoes_4 rfl]
    unfold gStN gret
    rw [gq_4 rfl, gmem_4 rfl, gtch_4 rfl]
    rfl
theorem gR_run (q : Gq) (r : Rq) (n c : Nat) (t : Int) (l : List Int) (h : okM n l = true) (hs : gOKN q.st = true) : (callV gvEnv 40 26 [p0, pp1] (gHR q r n c t l)).get = bif gGoes n l q then some (gGoR q r n c t l) else some (gStR q r n c t l) := by
  obtain ⟨cf, w, i, gen, disc, st, cl, wd, e⟩ := q
  rcases gOKN_cases hs with hs | hs | hs | hs <;> (simp only at hs; subst hs)
  · rw [gR0_tree, bt_of h, gGoes_0 rfl]
    unfold gStR gret
    rw [gq_0 rfl, gmem_0 rfl, gtch_0 rfl]
    cases (ldS n l 0 == 2) <;> rfl
  · rw [gR1_tree, bt_of h, gGoes_1 rfl]
    unfold gStR gGoR gret
    rw [gq_1 rfl, gmem_1 rfl, gtch_1 rfl, lookK_C]
    unfold gLk gCell
    simp only
    cases decide (cellC cf i < 0) with
    | true => rfl
    | false =>
      simp only [cond_false]
      rcases lookC_lt (decS (ldS n l (cellC cf i))) ⟨cf, w, i, gen, disc, 1, cl, wd, e⟩ with hl | hl | hl | hl <;> (rw [hl]; rfl)
  · rw [gR2_tree, h, gGoes_2 rfl]
    unfold gStR gret
    rw [gq_2 rfl, gmem_2 rfl, gtch_2 rfl]
    refine (gRest_eq (decS wd) ⟨cf, w, i, gen, disc, 2, cl, wd, e⟩ (some (.bool false, gHR (gAt ⟨cf, w, i, gen, disc, 2, cl, wd, e⟩ 1) r n c t l)) (fun A => some (.bool true, gHR (gEnd ⟨cf, w, i, gen, disc, 2, cl, wd, e⟩ 0) r n c (tcS n (cellC cf i) t) (casS n l (cellC cf i) wd (A.getD 0)))) (fun A => some (.bool false, gHR (gAt ⟨cf, w, i, gen, disc, 2, cl, wd, e⟩ 1) r n c (tcS n (cellC cf i) t) (casS n l (cellC cf i) wd (A.getD 0)))) (casB n l (cellC cf i) wd)).trans ?_
    unfold gHit gAft aftS gCell
    simp only
    cases ((decS wd).bind fun s => nextS s 4 w 0).bind encS with
    | none => rfl
    | some x =>
      simp only [Option.isSome_some, cond_true]
      cases casB n l (cellC cf i) wd <;> rfl
  · rw [gR4_tree, gGoes_4 rfl]
    unfold gStR gret
    rw [gq_4 rfl, gmem_4 rfl, gtch_4 rfl]
    rfl
theorem gR3_run (q : Gq) (r : Rq) (n c : Nat) (t : Int) (l : List Int) (h : okM n l = true) (hf : rOK r.f = true) (hs : q.st = 3) : (callV gvEnv 40 26 [p0, pp1] (gHR q r n c t l)).get = some (gStG q r n c t l) := by
  obtain ⟨cf, w, i, gen, disc, st, cl, wd, e⟩ := q
  simp only at hs; subst hs
  rw [gR3_tree, bt_of (by rw [h, hf]; rfl)]
  unfold gStG gqR
  cases rret n l r with
  | false => rfl
  | true => cases (rstep n l r).sw <;> rfl
def gstepO : Orc := fun args lh => match args, lh with
  | [.pointer (some ⟨0, 0, none⟩), .pointer (some ⟨1, 0, none⟩)], [.cells true true [.int .i64 cw, .int .i64 cs, .int .i64 cst, .int .i64 cwt, .int .i64 cu, .int .i64 w, .int .i64 i, .int .i64 gen, .bool disc, .int .i64 st, .int .i64 cl, .int .i64 wd, .pointer none, .int .i64 e], .cells true true [.slice (some ⟨2, 0, none⟩) n c, .int .i64 t], .ints true true l] =>
    .br (okM n l && gOKN st) (.br (gGoes n l ⟨⟨cw, cs, cst, cwt, cu⟩, w, i, gen, disc, st, cl, wd, e⟩) (.ret (gGoN ⟨⟨cw, cs, cst, cwt, cu⟩, w, i, gen, disc, st, cl, wd, e⟩ n c t l)) (.ret (gStN ⟨⟨cw, cs, cst, cwt, cu⟩, w, i, gen, disc, st, cl, wd, e⟩ n c t l))) .bad
  | [.pointer (some ⟨0, 0, none⟩), .pointer (some ⟨1, 0, none⟩)], [.cells true true [.int .i64 cw, .int .i64 cs, .int .i64 cst, .int .i64 cwt, .int .i64 cu, .int .i64 w, .int .i64 i, .int .i64 gen, .bool disc, .int .i64 st, .int .i64 cl, .int .i64 wd, .pointer (some ⟨2, 0, none⟩), .int .i64 e], .cells true true [.slice (some ⟨3, 0, none⟩) n c, .int .i64 t], .cells true true [.int .i64 ra, .int .i64 rb, .int .i64 re, .func (.func f) fa fc, .bool rs, .bool rd], .ints true true l] =>
    match fa.toList, fc.toList with
    | [.pointer (some ⟨2, 0, none⟩)], [] =>
      .br (okM n l && gOKR st f) (.br (st == 3) (.ret (gStG ⟨⟨cw, cs, cst, cwt, cu⟩, w, i, gen, disc, st, cl, wd, e⟩ ⟨ra, rb, re, f, rs, rd⟩ n c t l))
        (.br (gGoes n l ⟨⟨cw, cs, cst, cwt, cu⟩, w, i, gen, disc, st, cl, wd, e⟩) (.ret (gGoR ⟨⟨cw, cs, cst, cwt, cu⟩, w, i, gen, disc, st, cl, wd, e⟩ ⟨ra, rb, re, f, rs, rd⟩ n c t l)) (.ret (gStR ⟨⟨cw, cs, cst, cwt, cu⟩, w, i, gen, disc, st, cl, wd, e⟩ ⟨ra, rb, re, f, rs, rd⟩ n c t l)))) .bad
    | _, _ => .bad
  | _, _ => .bad
theorem gstep_sound : Sound Tryz.prog Tab 26 gstepO := by
  refine Sound.of_run ⟨Tryz.func26, by kernel_rfl, by kernel_rfl⟩ rfl rfl gvEnv_ok 40 fun args lh r hr => ?_
  unfold gstepO at hr
  split at hr
  · rename_i cw cs cst cwt cu w i gen disc st cl wd e n c t l
    rcases M.get_br_some hr with ⟨hc, hr⟩ | ⟨_, hr⟩
    · rw [Bool.and_eq_true] at hc
      refine (gN_run ⟨⟨cw, cs, cst, cwt, cu⟩, w, i, gen, disc, st, cl, wd, e⟩ n c t l hc.1 hc.2).trans ?_
      rcases M.get_br_some hr with ⟨hg, hr⟩ | ⟨hg, hr⟩
      · simp only [M.get_ret, Option.some.injEq] at hr; subst hr
        rw [hg]; rfl
      · simp only [M.get_ret, Option.some.injEq] at hr; subst hr
        rw [hg]; rfl
    · cases hr
  · rename_i cw cs cst cwt cu w i gen disc st cl wd e n c t ra rb re f fa fc rs rd l
    split at hr
    · rename_i h1 h2
      obtain rfl : fa = #[.pointer (some ⟨2, 0, none⟩)] := Array.toList_inj.1 h1
      obtain rfl : fc = #[] := Array.toList_inj.1 h2
      rcases M.get_br_some hr with ⟨hc, hr⟩ | ⟨_, hr⟩
      · rw [Bool.and_eq_true] at hc
        unfold gOKR at hc
        rcases M.get_br_some hr with ⟨h3, hr⟩ | ⟨h3, hr⟩
        · have h3 := eq_of_beq h3
          have hf : rOK f = true := by
            have := hc.2
            rw [h3] at this
            exact this
          simp only [M.get_ret, Option.some.injEq] at hr; subst hr
          exact gR3_run ⟨⟨cw, cs, cst, cwt, cu⟩, w, i, gen, disc, st, cl, wd, e⟩ ⟨ra, rb, re, f, rs, rd⟩ n c t l hc.1 hf h3
        · have hN : gOKN st = true := by
            have := hc.2
            rw [h3] at this
            simpa using this
          refine (gR_run ⟨⟨cw, cs, cst, cwt, cu⟩, w, i, gen, disc, st, cl, wd, e⟩ ⟨ra, rb, re, f, rs, rd⟩ n c t l hc.1 hN).trans ?_
          rcases M.get_br_some hr with ⟨hg, hr⟩ | ⟨hg, hr⟩
          · simp only [M.get_ret, Option.some.injEq] at hr; subst hr
            rw [hg]; rfl
          · simp only [M.get_ret, Option.some.injEq] at hr; subst hr
            rw [hg]; rfl
      · cases hr
    · cases hr
  · cases hr
def giveOrcs : List (FuncId × Orc) := [(26, frameM gstepO)]
theorem giveOrcs_ok : Sounds Tryz.prog Tab giveOrcs := sounds_cons (gstep_sound.frame tab_kept) sounds_nil
end Go.Proofs.YthfoljgaiincdaaGreatDoor
