
/- stream: the contract of the document's step; the program's step and it tell one. No condition of its own. -/
import Derived.Test.YthfoljgaiincdaaGreatDoorStrYA
import Derived.Test.YthfoljgaiincdaaGreatDoorRetPG
namespace Go.Proofs.YthfoljgaiincdaaGreatDoor
open Go.RowKit Go.Fld Go.Sx
set_option linter.unusedVariables false
set_option linter.unusedSimpArgs false
def ysDo (q : Yq) : Int := bif q.op then 14 else 15
def ysMore (q : Yq) : Int := bif q.op then q.cf.st else q.num
def ysAft (q : Yq) (wd : Int) : Option Int := aftS decA wd (ysDo q) q.w (ysMore q)
def ysCell (q : Yq) : Int := cellC q.cf q.i
def ysErr (q : Yq) : Int := bif q.op then 10 else 11
def ysBrk (q : Yq) (d : Option Slt) : Bool := bif q.op then (slt0 d).brk else false
def ysLook (n : Nat) (l : List Int) (q : Yq) : Yq :=
  yslookK (decA (ldS n l (ysCell q))) q (yEnd (yWd q (ldS n l (ysCell q))) 2) (bif ysBrk q (decA (ldS n l (ysCell q))) then yEnd (yWd q (ldS n l (ysCell q))) 9 else bif !(ysAft q (ldS n l (ysCell q))).isSome then yEnd (yWd q (ldS n l (ysCell q))) (ysErr q) else yAt (yWd q (ldS n l (ysCell q))) 2)
def ysNum (q : Yq) : Yq := bif q.op then yNum q (lowI (slt0 (decA q.wd)).str) else q
def ysq (n : Nat) (l : List Int) (q : Yq) : Yq :=
  bif q.st == 0 then (bif ldS n l 0 == 2 then yEnd q 5 else yAt q 1) else
  bif q.st == 1 then (bif decide (ysCell q < 0) then yEnd q 2 else ysLook n l q) else
  bif q.st == 2 then (bif casB n l (ysCell q) q.wd then yEnd (ysNum q) 0 else yAt q 1) else q
def ysmem (n : Nat) (l : List Int) (q : Yq) : List Int := bif q.st == 2 then casS n l (ysCell q) q.wd ((ysAft q q.wd).getD 0) else l
def ystch (n : Nat) (q : Yq) (t : Int) : Int := bif q.st == 0 then tcS n 0 t else bif q.st == 1 then (bif decide (ysCell q < 0) then t else tcS n (ysCell q) t) else bif q.st == 2 then tcS n (ysCell q) t else t
theorem ysq_0 {n : Nat} {l : List Int} {q : Yq} (h : q.st = 0) : ysq n l q = bif ldS n l 0 == 2 then yEnd q 5 else yAt q 1 := by unfold ysq; rw [h]; rfl
theorem ysq_1 {n : Nat} {l : List Int} {q : Yq} (h : q.st = 1) : ysq n l q = bif decide (ysCell q < 0) then yEnd q 2 else ysLook n l q := by unfold ysq; rw [h]; rfl
theorem ysq_2 {n : Nat} {l : List Int} {q : Yq} (h : q.st = 2) : ysq n l q = bif casB n l (ysCell q) q.wd then yEnd (ysNum q) 0 else yAt q 1 := by unfold ysq; rw [h]; rfl
theorem ysq_3 {n : Nat} {l : List Int} {q : Yq} (h : q.st = 3) : ysq n l q = q := by unfold ysq; rw [h]; rfl
theorem ysmem_0 {n : Nat} {l : List Int} {q : Yq} (h : q.st = 0) : ysmem n l q = l := by unfold ysmem; rw [h]; rfl
theorem ysmem_1 {n : Nat} {l : List Int} {q : Yq} (h : q.st = 1) : ysmem n l q = l := by unfold ysmem; rw [h]; rfl
theorem ysmem_2 {n : Nat} {l : List Int} {q : Yq} (h : q.st = 2) : ysmem n l q = casS n l (ysCell q) q.wd ((ysAft q q.wd).getD 0) := by unfold ysmem; rw [h]; rfl
theorem ysmem_3 {n : Nat} {l : List Int} {q : Yq} (h : q.st = 3) : ysmem n l q = l := by unfold ysmem; rw [h]; rfl
theorem ystch_0 {n : Nat} {q : Yq} {t : Int} (h : q.st = 0) : ystch n q t = tcS n 0 t := by unfold ystch; rw [h]; rfl
theorem ystch_1 {n : Nat} {q : Yq} {t : Int} (h : q.st = 1) : ystch n q t = bif decide (ysCell q < 0) then t else tcS n (ysCell q) t := by unfold ystch; rw [h]; rfl
theorem ystch_2 {n : Nat} {q : Yq} {t : Int} (h : q.st = 2) : ystch n q t = tcS n (ysCell q) t := by unfold ystch; rw [h]; rfl
theorem ystch_3 {n : Nat} {q : Yq} {t : Int} (h : q.st = 3) : ystch n q t = t := by unfold ystch; rw [h]; rfl
def ysOut (q : Yq) (n : Nat) (t : Int) (l : List Int) : Value × List Go.Sx.Blk := (.bool ((ysq n l q).st == 3), yqH (ysq n l q) n (ystch n q t) (ysmem n l q))
theorem decA_slt {x : Int} {s : Slt} (h : decA x = some s) : Facts s := by
  unfold decA at h
  split at h
  · cases h
  · split at h
    · rename_i hr
      cases h
      exact right_facts.1 hr
    · cases h
theorem decA_str (x : Int) : 0 ≤ (slt0 (decA x)).str ∧ (slt0 (decA x)).str ≤ 255 := by
  cases h : decA x with
  | none => exact ⟨by show (0 : Int) ≤ 0; omega, by show (0 : Int) ≤ 255; omega⟩
  | some s => exact (decA_slt h).str
theorem yS_run (q : Yq) (n : Nat) (t : Int) (l : List Int) (h : okM n l = true) (hs : sOK q.st = true) : (callV syEnv 40 16 [p0, pp1] (yqH q n t l)).get = some (ysOut q n t l) := by
  obtain ⟨cf, w, i, gen, num, op, wd, st, e⟩ := q
  rcases sOK_cases hs with hs | hs | hs | hs <;> (simp only at hs; subst hs) <;> cases op
  · refine (ySf0_tree cf w i gen num wd e n t l).trans ?_
    unfold ysOut
    rw [bt_of h, ysq_0 rfl, ysmem_0 rfl, ystch_0 rfl]
    cases (ldS n l 0 == 2) <;> rfl
  · refine (ySt0_tree cf w i gen num wd e n t l).trans ?_
    unfold ysOut
    rw [bt_of h, ysq_0 rfl, ysmem_0 rfl, ystch_0 rfl]
    cases (ldS n l 0 == 2) <;> rfl
  · refine (ySf1_tree cf w i gen num wd e n t l).trans ?_
    unfold ysOut
    rw [bt_of h, ysq_1 rfl, ysmem_1 rfl, ystch_1 rfl]
    unfold ysLook yslookK ysCell ysBrk ysErr ysAft ysDo ysMore
    simp only [cond_true, cond_false]
    cases decide (cellC cf i < 0) with
    | true => rfl
    | false =>
    cases (decA (ldS n l (cellC cf i))).isSome with
    | false => rfl
    | true =>
    cases ((slt0 (decA (ldS n l (cellC cf i)))).st != 3) with
    | true => rfl
    | false =>
    cases ((slt0 (decA (ldS n l (cellC cf i)))).own != w) with
    | true => rfl
    | false =>
    cases ((slt0 (decA (ldS n l (cellC cf i)))).gen != gen) with
    | true => rfl
    | false =>
    cases (aftS decA (ldS n l (cellC cf i)) 15 w num).isSome <;> rfl
  · refine (ySt1_tree cf w i gen num wd e n t l).trans ?_
    unfold ysOut
    rw [bt_of h, ysq_1 rfl, ysmem_1 rfl, ystch_1 rfl]
    unfold ysLook yslookK ysCell ysBrk ysErr ysAft ysDo ysMore
    simp only [cond_true, cond_false]
    cases decide (cellC cf i < 0) with
    | true => rfl
    | false =>
    cases (decA (ldS n l (cellC cf i))).isSome with
    | false => rfl
    | true =>
    cases ((slt0 (decA (ldS n l (cellC cf i)))).st != 3) with
    | true => rfl
    | false =>
    cases ((slt0 (decA (ldS n l (cellC cf i)))).own != w) with
    | true => rfl
    | false =>
    cases ((slt0 (decA (ldS n l (cellC cf i)))).gen != gen) with
    | true => rfl
    | false =>
    cases (slt0 (decA (ldS n l (cellC cf i)))).brk with
    | true => rfl
    | false => cases (aftS decA (ldS n l (cellC cf i)) 14 w cf.st).isSome <;> rfl
  · refine (ySf2_tree cf w i gen num wd e n t l).trans ?_
    unfold ysOut
    rw [bt_of h, ysq_2 rfl, ysmem_2 rfl, ystch_2 rfl]
    unfold ysCell
    simp only
    cases casB n l (cellC cf i) wd <;> rfl
  · refine (ySt2_tree cf w i gen num wd e n t l).trans ?_
    unfold ysOut
    rw [bt_of h, ysq_2 rfl, ysmem_2 rfl, ystch_2 rfl]
    obtain ⟨k1, k2⟩ := decA_str wd
    rw [bt_of (sure_of (by exact ⟨rfl, rfl, k1, k2, rfl⟩))]
    unfold ysCell
    simp only
    cases casB n l (cellC cf i) wd <;> rfl
  · refine (ySf3_tree cf w i gen num wd e n t l).trans ?_
    unfold ysOut
    rw [ysq_3 rfl, ysmem_3 rfl, ystch_3 rfl]
    rfl
  · refine (ySt3_tree cf w i gen num wd e n t l).trans ?_
    unfold ysOut
    rw [ysq_3 rfl, ysmem_3 rfl, ystch_3 rfl]
    rfl
def stSt (b : ByteArray) : Int := bif b.data.toList == (strS 0).data.toList then 0 else bif b.data.toList == (strS 1).data.toList then 1 else bif b.data.toList == (strS 2).data.toList then 2 else 3
def bSt (b : ByteArray) : Bool := b.data.toList == (strS (stSt b)).data.toList
theorem bSt_eq {b : ByteArray} (h : bSt b = true) : b = strS (stSt b) := by
  unfold bSt at h
  rw [beq_iff_eq] at h
  have := Array.toList_inj.1 h
  cases b
  exact congrArg ByteArray.mk this
theorem stSt_str {st : Int} (h : sOK st = true) : stSt (strS st) = st ∧ bSt (strS st) = true := by
  rcases sOK_cases h with rfl | rfl | rfl | rfl <;> exact ⟨by kernel_rfl, by kernel_rfl⟩
theorem stSt_ok (b : ByteArray) : sOK (stSt b) = true := by
  unfold stSt
  cases (b.data.toList == (strS 0).data.toList) with
  | true => rfl
  | false =>
    cases (b.data.toList == (strS 1).data.toList) with
    | true => rfl
    | false => cases (b.data.toList == (strS 2).data.toList) <;> rfl
def yqOf (y : Yb) : Yq := ⟨y.cf, y.w, y.i, y.gen, y.num, y.op, y.wd, stSt y.b, y.e⟩
theorem ybOf_yqOf {y : Yb} (h : bSt y.b = true) : ybOf (yqOf y) = y := by
  obtain ⟨cf, w, i, gen, num, op, wd, b, e⟩ := y
  unfold yqOf ybOf
  simp only
  rw [← bSt_eq h]
def syO : Orc := fun args lh => match args, lh with
  | [.pointer (some ⟨0, 0, none⟩), .pointer (some ⟨1, 0, none⟩)], [.cells true true [.int .i64 cw, .int .i64 cs, .int .i64 cst, .int .i64 cwt, .int .i64 cu, .int .i64 w, .int .i64 i, .int .i64 gen, .int .i64 num, .bool op, .int .i64 wd, .string b, .int .i64 e], .cells true true [.slice (some ⟨2, 0, some 1⟩) n 0, .int .i64 t], .ints true true l] =>
    .br (okM n l && bSt b) (.ret (ysOut (yqOf ⟨⟨cw, cs, cst, cwt, cu⟩, w, i, gen, num, op, wd, b, e⟩) n t l)) .bad
  | _, _ => .bad
theorem sy_sound : Sound Tryz.prog Tab 16 syO := by
  refine Sound.of_run ⟨Tryz.func16, by kernel_rfl, by kernel_rfl⟩ rfl rfl syEnv_ok 40 fun args lh r hr => ?_
  unfold syO at hr
  split at hr
  · rename_i cw cs cst cwt cu w i gen num op wd b e n t l
    rcases M.get_br_some hr with ⟨hc, hr⟩ | ⟨_, hr⟩
    · rw [Bool.and_eq_true] at hc
      simp only [M.get_ret, Option.some.injEq] at hr; subst hr
      have h0 := yS_run (yqOf ⟨⟨cw, cs, cst, cwt, cu⟩, w, i, gen, num, op, wd, b, e⟩) n t l hc.1 (stSt_ok b)
      unfold yqH yqB at h0
      rw [ybOf_yqOf (y := ⟨⟨cw, cs, cst, cwt, cu⟩, w, i, gen, num, op, wd, b, e⟩) hc.2] at h0
      exact h0
    · cases hr
  · cases hr
/-! ### The answers -/
noncomputable def anFns : List (FuncId × Func) := [(17, Tryz.f17), (18, Tryz.f18)]
theorem anFns_ok : ∀ e ∈ anFns, FnOK Tryz.prog e.1 e.2 := fns_ok_cons ⟨Tryz.func17, by kernel_rfl, by kernel_rfl⟩ <| fns_ok_cons ⟨Tryz.func18, by kernel_rfl, by kernel_rfl⟩ <| fns_ok_nil rfl
noncomputable def anEnv : Env := mkEnv Tryz.prog anFns [] [] []
theorem anEnv_ok (X : Nat → Prop) (w0 : World) (h0 : X 0) (hB : Bnd X w0) (hT : Tab w0) : EnvOK anEnv X w0 := mkEnv_ok (fun e he => by cases he) (by kernel_rfl) anFns_ok sounds_nil lpSounds_nil h0 hB hT
def anE (st e : Int) : Int := bif st != 3 then 0 else bif e != 0 then e else 0
def anN (st e num : Int) : Int := bif st != 3 then 0 else bif e != 0 then 0 else num
def anV (st e num : Int) : Value := .tuple #[.int .i64 (anE st e), .int .i64 (anN st e num), .bool (st == 3)]
abbrev anH (K : Kd) (q : Sq) : List Go.Sx.Blk := match K with
  | .op w c => [sB (kV fOpen 1 2) q, i1 w, cB c]
  | .sh w m => [sB (kV fShut 1 2) q, i1 w, i1 m]
theorem anO_treeO (w : Int) (c : Cf) (q : Sq) : (callV anEnv 40 17 [p0] (anH (.op w c) q)).get =
    bif q.st != 3 then some (.tuple #[.int .i64 0, .int .i64 0, .bool false], anH (.op w c) q) else bif q.e != 0 then some (.tuple #[.int .i64 q.e, .int .i64 0, .bool true], anH (.op w c) q) else some (.tuple #[.int .i64 0, .int .i64 q.num, .bool true], anH (.op w c) q) := by kernel_rfl
theorem anO_treeS (w m : Int) (q : Sq) : (callV anEnv 40 17 [p0] (anH (.sh w m) q)).get =
    bif q.st != 3 then some (.tuple #[.int .i64 0, .int .i64 0, .bool false], anH (.sh w m) q) else bif q.e != 0 then some (.tuple #[.int .i64 q.e, .int .i64 0, .bool true], anH (.sh w m) q) else some (.tuple #[.int .i64 0, .int .i64 q.num, .bool true], anH (.sh w m) q) := by kernel_rfl
theorem anY0_tree (q : Yq) (hs : q.st = 3) : (callV anEnv 40 18 [p0] [yqB q]).get =
    bif q.e != 0 then some (.tuple #[.int .i64 q.e, .int .i64 0, .bool true], [yqB q]) else some (.tuple #[.int .i64 0, .int .i64 q.num, .bool true], [yqB q]) := by
  obtain ⟨cf, w, i, gen, num, op, wd, st, e⟩ := q
  simp only at hs; subst hs
  kernel_rfl
theorem anY1_tree (q : Yq) (hs : q.st = 0 ∨ q.st = 1 ∨ q.st = 2) : (callV anEnv 40 18 [p0] [yqB q]).get = some (.tuple #[.int .i64 0, .int .i64 0, .bool false], [yqB q]) := by
  obtain ⟨cf, w, i, gen, num, op, wd, st, e⟩ := q
  rcases hs with hs | hs | hs <;> (simp only at hs; subst hs; kernel_rfl)
theorem anO_run (K : Kd) (q : Sq) : (callV anEnv 40 17 [p0] (anH K q)).get = some (anV q.st q.e q.num, anH K q) := by
  have h0 : (callV anEnv 40 17 [p0] (anH K q)).get = bif q.st != 3 then some (.tuple #[.int .i64 0, .int .i64 0, .bool false], anH K q) else bif q.e != 0 then some (.tuple #[.int .i64 q.e, .int .i64 0, .bool true], anH K q) else some (.tuple #[.int .i64 0, .int .i64 q.num, .bool true], anH K q) := by
    cases K with
    | op w c => exact anO_treeO w c q
    | sh w m => exact anO_treeS w m q
  rw [h0]
  unfold anV anE anN
  by_cases h : q.st = 3
  · rw [h]
    cases q.e != 0 <;> rfl
  · rw [show (q.st != 3) = true from bne_iff_ne.2 h, show (q.st == 3) = false from beq_eq_false_iff_ne.2 h]; rfl
theorem anY_run (q : Yq) (hs : sOK q.st = true) : (callV anEnv 40 18 [p0] [yqB q]).get = some (anV q.st q.e q.num, [yqB q]) := by
  rcases sOK_cases hs with h | h | h | h
  · refine (anY1_tree q (.inl h)).trans ?_; unfold anV anE anN; rw [h]; rfl
  · refine (anY1_tree q (.inr (.inl h))).trans ?_; unfold anV anE anN; rw [h]; rfl
  · refine (anY1_tree q (.inr (.inr h))).trans ?_; unfold anV anE anN; rw [h]; rfl
  · refine (anY0_tree q h).trans ?_
    unfold anV anE anN
    rw [h]
    cases q.e != 0 <;> rfl
def anOO : Orc := fun args lh => match args, lh with
  | [.pointer (some ⟨0, 0, none⟩)], [.cells true true [.int .i64 cw, .int .i64 cs, .int .i64 cst, .int .i64 cwt, .int .i64 cu, .int .i64 w, .int .i64 i, .int .i64 gen, .int .i64 st, .int .i64 wd, .int .i64 nx, .int .i64 num, .func (.func f) fa fc, .int .i64 e], .cells true true [.int .i64 bw], .cells true true B] =>
    match fa.toList, fc.toList, B with
    | [], [.pointer (some ⟨1, 0, none⟩), .pointer (some ⟨2, 0, none⟩)], [.int .i64 bn] => .br (Nat.beq f fShut) (.ret (anV st e num, anH (.sh bw bn) ⟨⟨cw, cs, cst, cwt, cu⟩, w, i, gen, st, wd, nx, num, e⟩)) .bad
    | [], [.pointer (some ⟨1, 0, none⟩), .pointer (some ⟨2, 0, none⟩)], [.int .i64 b1, .int .i64 b2, .int .i64 b3, .int .i64 b4, .int .i64 b5] => .br (Nat.beq f fOpen) (.ret (anV st e num, anH (.op bw ⟨b1, b2, b3, b4, b5⟩) ⟨⟨cw, cs, cst, cwt, cu⟩, w, i, gen, st, wd, nx, num, e⟩)) .bad
    | _, _, _ => .bad
  | _, _ => .bad
def anYO : Orc := fun args lh => match args, lh with
  | [.pointer (some ⟨0, 0, none⟩)], [.cells true true [.int .i64 cw, .int .i64 cs, .int .i64 cst, .int .i64 cwt, .int .i64 cu, .int .i64 w, .int .i64 i, .int .i64 gen, .int .i64 num, .bool op, .int .i64 wd, .string b, .int .i64 e]] =>
    .br (bSt b) (.ret (anV (stSt b) e num, [ybB ⟨⟨cw, cs, cst, cwt, cu⟩, w, i, gen, num, op, wd, b, e⟩])) .bad
  | _, _ => .bad
theorem anO_sound : Sound Tryz.prog Tab 17 anOO := by
  refine Sound.of_run ⟨Tryz.func17, by kernel_rfl, by kernel_rfl⟩ rfl rfl anEnv_ok 40 fun args lh r hr => ?_
  unfold anOO at hr
  split at hr
  · rename_i cw cs cst cwt cu w i gen st wd nx num f fa fc e bw B
    split at hr
    · rename_i bn h1 h2
      obtain rfl : fa = #[] := Array.toList_inj.1 h1
      obtain rfl : fc = #[.pointer (some ⟨1, 0, none⟩), .pointer (some ⟨2, 0, none⟩)] := Array.toList_inj.1 h2
      rcases M.get_br_some hr with ⟨hc, hr2⟩ | ⟨_, hr2⟩ <;> clear hr
      · obtain rfl := Nat.eq_of_beq_eq_true hc
        simp only [M.get_ret, Option.some.injEq] at hr2; subst hr2
        exact anO_run (.sh bw bn) ⟨⟨cw, cs, cst, cwt, cu⟩, w, i, gen, st, wd, nx, num, e⟩
      · cases hr2
    · rename_i b1 b2 b3 b4 b5 h1 h2
      obtain rfl : fa = #[] := Array.toList_inj.1 h1
      obtain rfl : fc = #[.pointer (some ⟨1, 0, none⟩), .pointer (some ⟨2, 0, none⟩)] := Array.toList_inj.1 h2
      rcases M.get_br_some hr with ⟨hc, hr2⟩ | ⟨_, hr2⟩ <;> clear hr
      · obtain rfl := Nat.eq_of_beq_eq_true hc
        simp only [M.get_ret, Option.some.injEq] at hr2; subst hr2
        exact anO_run (.op bw ⟨b1, b2, b3, b4, b5⟩) ⟨⟨cw, cs, cst, cwt, cu⟩, w, i, gen, st, wd, nx, num, e⟩
      · cases hr2
    · cases hr
  · cases hr
theorem anY_sound : Sound Tryz.prog Tab 18 anYO := by
  refine Sound.of_run ⟨Tryz.func18, by kernel_rfl, by kernel_rfl⟩ rfl rfl anEnv_ok 40 fun args lh r hr => ?_
  unfold anYO at hr
  split at hr
  · rename_i cw cs cst cwt cu w i gen num op wd b e
    rcases M.get_br_some hr with ⟨hc, hr⟩ | ⟨_, hr⟩
    · simp only [M.get_ret, Option.some.injEq] at hr; subst hr
      have h0 := anY_run (yqOf ⟨⟨cw, cs, cst, cwt, cu⟩, w, i, gen, num, op, wd, b, e⟩) (stSt_ok b)
      unfold yqB at h0
      rw [ybOf_yqOf (y := ⟨⟨cw, cs, cst, cwt, cu⟩, w, i, gen, num, op, wd, b, e⟩) hc] at h0
      exact h0
    · cases hr
  · cases hr
def streamYOrcs : List (FuncId × Orc) := [(16, frameM syO), (18, frameM anYO), (17, frameM anOO)]
theorem streamYOrcs_ok : Sounds Tryz.prog Tab streamYOrcs := sounds_cons (sy_sound.frame tab_kept) <| sounds_cons (anY_sound.frame tab_kept) <| sounds_cons (anO_sound.frame tab_kept) sounds_nil
/-! ### One as the other -/
/-- What one that opens, or shuts, is of. -/
def kFor (op : Bool) (w : Int) (cf : Cf) (n : Int) : Kd := bif op then .op w cf else .sh w n
structure SsInv (N : Nat) (l : List Int) (K : Kd) (q : Sq) (y : Yq) : Prop where
  ok : okM N l = true
  I : AllI l
  cf : y.cf = q.cf
  w : y.w = q.w
  i : y.i = q.i
  gen : y.gen = q.gen
  wd : y.wd = q.wd
  st : y.st = q.st
  e : y.e = q.e
  kk : (y.op = true ∧ K = .op q.w q.cf) ∨ (y.op = false ∧ K = .sh q.w y.num)
  s : sOK q.st = true
  sw : q.st = 2 → I64i q.wd ∧ I64i q.nx ∧ ∃ s t, decS q.wd = some s ∧ kNext K s = some t ∧ encS t = some q.nx ∧ q.num = kNum K s
  an : q.st = 3 → q.e = 0 → q.num = y.num
theorem SsInv.wrs {N : Nat} {l : List Int} {K : Kd} {q : Sq} {y : Yq} (H : SsInv N l K q y) {gi : Nat → Nat → Int} {nl : Nat} (hw : WrI gi nl) (i : Int) : SsInv N (wrsL N gi i nl l) K q y :=
  ⟨by rw [okM_wrs]; exact H.ok, H.I.wrs N gi i nl hw, H.cf, H.w, H.i, H.gen, H.wd, H.st, H.e, H.kk, H.s, H.sw, H.an⟩
structure SsStep (N : Nat) (l : List Int) (K : Kd) (q : Sq) (y : Yq) : Prop where
  mem : smem N l q = ysmem N l y
  tch : ∀ t u, w64 (stch N q t - t) = w64 (ystch N y u - u)
  inv : SsInv N (smem N l q) K (sq K N l q) (ysq N l y)
theorem ss_aft {K : Kd} {q : Sq} {y : Yq} (hw : y.w = q.w) (hcf : y.cf = q.cf) (hK : (y.op = true ∧ K = .op q.w q.cf) ∨ (y.op = false ∧ K = .sh q.w y.num)) {x : Int} (hx : I64i x) {s : Slt} (hs : decS x = some s) : ysAft y x = (kNext K s).bind encS := by
  unfold ysAft
  rw [aft_dec hx]
  unfold aftS ysDo ysMore
  rw [hs]
  rcases hK with ⟨ho, rfl⟩ | ⟨ho, rfl⟩
  · rw [ho, hw, hcf]; rfl
  · rw [ho, hw]; rfl
theorem ss_err {K : Kd} {q : Sq} {y : Yq} (hK : (y.op = true ∧ K = .op q.w q.cf) ∨ (y.op = false ∧ K = .sh q.w y.num)) : ysErr y = kErr K ∧ ∀ d, ysBrk y d = kBrk K (slt0 d) := by
  unfold ysErr ysBrk
  rcases hK with ⟨ho, rfl⟩ | ⟨ho, rfl⟩ <;> (rw [ho]; exact ⟨rfl, fun _ => rfl⟩)
theorem kNext_enc {K : Kd} {s t : Slt} (h : kNext K s = some t) : ∃ x, encS t = some x ∧ I64i x := by
  have F : Facts t := by
    cases K with
    | op w c => exact (next_facts h).1
    | sh w n => exact (next_facts h).1
  obtain ⟨x, hx, _⟩ := enc_facts F
  have := dec_enc t x hx
  exact ⟨x, hx, by omega, by omega⟩
theorem ss_step {N : Nat} {l : List Int} {K : Kd} {q : Sq} {y : Yq} (H : SsInv N l K q y) : SsStep N l K q y := by
  obtain ⟨ok, I, hcf, hw, hi, hgen, hwd, hst, he, hK, hs, hsw, han⟩ := H
  have hc : ysCell y = sCell q := by unfold ysCell sCell; rw [hcf, hi]
  rcases sOK_cases hs with h | h | h | h
  · have hy := hst.trans h
    refine ⟨by rw [smem_0 h, ysmem_0 hy], fun t u => by rw [stch_0 h, ystch_0 hy]; exact tc_eq _ _ _ _, ?_⟩
    rw [smem_0 h, sq_0 h, ysq_0 hy]
    cases (ldS N l 0 == 2) with
    | true => exact ⟨ok, I, hcf, hw, hi, hgen, hwd, rfl, rfl, hK, rfl, fun e => absurd (show (3 : Int) = 2 from e) (by decide), fun _ e => absurd (show (5 : Int) = 0 from e) (by decide)⟩
    | false => exact ⟨ok, I, hcf, hw, hi, hgen, hwd, rfl, he, hK, rfl, fun e => absurd (show (1 : Int) = 2 from e) (by decide), fun e => absurd (show (1 : Int) = 3 from e) (by decide)⟩
  · have hy := hst.trans h
    refine ⟨by rw [smem_1 h, ysmem_1 hy], fun t u => by rw [stch_1 h, ystch_1 hy, hc]; cases decide (sCell q < 0); exact tc_eq _ _ _ _; simp only [cond_true, Int.sub_self], ?_⟩
    rw [smem_1 h, sq_1 h, ysq_1 hy, hc]
    cases decide (sCell q < 0) with
    | true => exact ⟨ok, I, hcf, hw, hi, hgen, hwd, rfl, rfl, hK, rfl, fun e => absurd (show (3 : Int) = 2 from e) (by decide), fun _ e => absurd (show (2 : Int) = 0 from e) (by decide)⟩
    | false =>
      have hx := I.ld N (sCell q)
      simp only [cond_false]
      unfold sLook ysLook sAft
      rw [hc, decA_eq _ hx, (ss_err hK).1, (ss_err hK).2]
      generalize hX : ldS N l (sCell q) = x at hx
      have hend : ∀ e : Int, e ≠ 0 → SsInv N l K (sEnd (sWd q x) e) (yEnd (yWd y x) e) := fun e he0 => ⟨ok, I, hcf, hw, hi, hgen, rfl, rfl, rfl, hK, rfl, fun e => absurd (show (3 : Int) = 2 from e) (by decide), fun _ e => absurd e he0⟩
      unfold slookK yslookK
      rw [hw, hgen]
      cases hd : decS x with
      | none => exact hend 2 (by decide)
      | some s =>
        simp only [Option.isSome_some, Bool.not_true, cond_false]
        rw [show slt0 (some s) = s from rfl]
        cases (s.st != 3) with
        | true => exact hend 2 (by decide)
        | false =>
        cases (s.own != q.w) with
        | true => exact hend 2 (by decide)
        | false =>
        cases (s.gen != q.gen) with
        | true => exact hend 2 (by decide)
        | false =>
        cases kBrk K s with
        | true => exact hend 9 (by decide)
        | false =>
        rw [ss_aft hw hcf hK hx hd]
        cases hn : kNext K s with
        | none =>
          refine hend (kErr K) ?_
          cases K with
          | op _ _ => exact (by decide : (10 : Int) ≠ 0)
          | sh _ _ => exact (by decide : (11 : Int) ≠ 0)
        | some t =>
          obtain ⟨x', hx', hI'⟩ := kNext_enc hn
          rw [show (some t : Option Slt).bind encS = some x' from hx', show slt0 (some t) = t from rfl, hx']
          exact ⟨ok, I, hcf, hw, hi, hgen, rfl, rfl, he, hK, rfl, fun _ => ⟨hx, hI', s, t, hd, hn, hx', rfl⟩, fun e => absurd (show (2 : Int) = 3 from e) (by decide)⟩
  · have hy := hst.trans h
    obtain ⟨hwI, hnI, s, t, hd, hn, hx', hnum⟩ := hsw h
    have ha : ysAft y y.wd = some q.nx := by rw [hwd, ss_aft hw hcf hK hwI hd, hn]; exact hx'
    refine ⟨by rw [smem_2 h, ysmem_2 hy, hc, ha, hwd]; rfl, fun u v => by rw [stch_2 h, ystch_2 hy, hc]; exact tc_eq _ _ _ _, ?_⟩
    rw [smem_2 h, sq_2 h, ysq_2 hy, hc, hwd]
    have hok : okM N (casS N l (sCell q) q.wd q.nx) = true := (okM_cas N l _ _ _).trans ok
    have hI2 := I.cas N (sCell q) q.wd hnI
    cases casB N l (sCell q) q.wd with
    | true =>
      refine ⟨hok, hI2, ?_, ?_, ?_, ?_, ?_, rfl, rfl, ?_, rfl, fun e => absurd (show (3 : Int) = 2 from e) (by decide), fun _ _ => ?_⟩ <;> rcases hK with ⟨ho, hK⟩ | ⟨ho, hK⟩
      all_goals (first | (show _ = _ ; unfold yEnd ysNum yNum sEnd; simp only [ho, cond_true, cond_false]; first | exact hcf | exact hw | exact hi | exact hgen | exact hwd) | skip)
      · exact .inl ⟨by show (ysNum y).op = true; unfold ysNum; rw [ho]; exact ho, hK⟩
      · refine .inr ⟨by show (ysNum y).op = false; unfold ysNum; rw [ho]; exact ho, ?_⟩
        show K = .sh q.w (ysNum y).num
        unfold ysNum; rw [ho]; exact hK
      · show q.num = (ysNum y).num
        unfold ysNum
        rw [ho, hnum, hK, hwd, decA_eq _ hwI, hd]; rfl
      · show q.num = (ysNum y).num
        unfold ysNum
        rw [ho, hnum, hK]; rfl
    | false => exact ⟨hok, hI2, hcf, hw, hi, hgen, hwd, rfl, he, hK, rfl, fun e => absurd (show (1 : Int) = 2 from e) (by decide), fun e => absurd (show (1 : Int) = 3 from e) (by decide)⟩
  · have hy := hst.trans h
    refine ⟨by rw [smem_3 h, ysmem_3 hy], fun t u => by rw [stch_3 h, ystch_3 hy, Int.sub_self, Int.sub_self], ?_⟩
    rw [smem_3 h, sq_3 h, ysq_3 hy]
    exact ⟨ok, I, hcf, hw, hi, hgen, hwd, hst, he, hK, hs, hsw, han⟩
end Go.Proofs.YthfoljgaiincdaaGreatDoor
