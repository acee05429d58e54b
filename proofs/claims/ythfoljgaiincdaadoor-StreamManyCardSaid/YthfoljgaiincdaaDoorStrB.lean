
/- stream: a step's contract. No condition of its own. -/
import Derived.Test.YthfoljgaiincdaaDoorStrA
import Derived.Test.YthfoljgaiincdaaDoorWords
namespace Go.Proofs.YthfoljgaiincdaaDoor
open Go.RowKit Go.Fld Go.Sx
set_option linter.unusedVariables false
set_option linter.unusedSimpArgs false
/-! ### One bit -/
def bitUp (s : Int) : Bool := bif decide (lowI s < 8) then tzOK (sX s (s + 2 ^ (lowI s).toNat)) && (tzV (sX s (s + 2 ^ (lowI s).toNat)) == lowI s) else true
def bitDn (s : Int) (k : Nat) : Bool := bif s / 2 ^ k % 2 == 1 then tzOK (sX s (s - 2 ^ k)) && (tzV (sX s (s - 2 ^ k)) == (k : Int)) else true
theorem bitUp_all : (List.range 256).all (fun s => bitUp s) = true := by kernel_rfl
theorem bitDn_all : (List.range 256).all (fun s => (List.range 8).all fun k => bitDn s k) = true := by kernel_rfl
theorem bitUp_of {s : Int} (h : 0 ≤ s ∧ s ≤ 255) (hl : lowI s < 8) : tzOK (sX s (s + 2 ^ (lowI s).toNat)) = true ∧ tzV (sX s (s + 2 ^ (lowI s).toNat)) = lowI s := by
  have h1 := List.all_eq_true.1 bitUp_all s.toNat (List.mem_range.2 (by omega))
  rw [show ((s.toNat : Nat) : Int) = s by omega] at h1
  unfold bitUp at h1
  rw [decide_eq_true hl, cond_true, Bool.and_eq_true, beq_iff_eq] at h1
  exact h1
theorem bitDn_of {s k : Int} (h : 0 ≤ s ∧ s ≤ 255) (hk : 0 ≤ k ∧ k ≤ 7) (hb : s / 2 ^ k.toNat % 2 = 1) : tzOK (sX s (s - 2 ^ k.toNat)) = true ∧ tzV (sX s (s - 2 ^ k.toNat)) = k := by
  have h1 := List.all_eq_true.1 (List.all_eq_true.1 bitDn_all s.toNat (List.mem_range.2 (by omega))) k.toNat (List.mem_range.2 (by omega))
  rw [show ((s.toNat : Nat) : Int) = s by omega] at h1
  unfold bitDn at h1
  rw [show (s / 2 ^ k.toNat % 2 == 1) = true by rw [beq_iff_eq]; exact hb, cond_true, Bool.and_eq_true, beq_iff_eq, show ((k.toNat : Nat) : Int) = k by omega] at h1
  exact h1
theorem next_14 {s t : Slt} {w m : Int} (h : nextS s 14 w m = some t) : tzOK (sX s.str t.str) = true ∧ tzV (sX s.str t.str) = lowI s.str := by
  obtain ⟨F, h0, h1, r, hr, rfl⟩ := next_some h
  have hr : row14 s w m = some r := hr
  unfold row14 at hr
  split at hr
  · rename_i hc
    cases hr
    exact bitUp_of F.str hc.2.2.2.2
  · cases hr
theorem next_15 {s t : Slt} {w m : Int} (h : nextS s 15 w m = some t) : tzOK (sX s.str t.str) = true ∧ tzV (sX s.str t.str) = m := by
  obtain ⟨F, h0, h1, r, hr, rfl⟩ := next_some h
  have hr : row15 s w m = some r := hr
  unfold row15 at hr
  split at hr
  · rename_i hc
    cases hr
    exact bitDn_of F.str ⟨hc.2.2.1, hc.2.2.2.1⟩ hc.2.2.2.2
  · cases hr
/-! ### A step -/
def kNext : Kd → Slt → Option Slt
  | .op w c, s => nextS s 14 w c.st
  | .sh w n, s => nextS s 15 w n
def kNum : Kd → Slt → Int
  | .op _ _, s => lowI s.str
  | .sh _ n, _ => n
def kBrk : Kd → Slt → Bool
  | .op _ _, s => s.brk
  | .sh _ _, _ => false
def kErr : Kd → Int
  | .op _ _ => 10
  | .sh _ _ => 11
def kH (K : Kd) (q : Sq) (n c : Nat) (t : Int) (l : List Int) : List Go.Sx.Blk := match K with
  | .op w cc => kO q w cc n c t l
  | .sh w m => kS q w m n c t l
def sAft (K : Kd) (n : Nat) (l : List Int) (q : Sq) : Option Slt := kNext K (slt0 (decS (ldS n l (sCell q))))
/-- What a look does. -/
def sLook (K : Kd) (n : Nat) (l : List Int) (q : Sq) : Sq :=
  slookK (decS (ldS n l (sCell q))) q (sEnd (sWd q (ldS n l (sCell q))) 2) (bif kBrk K (slt0 (decS (ldS n l (sCell q)))) then sEnd (sWd q (ldS n l (sCell q))) 9 else bif !(sAft K n l q).isSome then sEnd (sWd q (ldS n l (sCell q))) (kErr K) else
    sGo q (ldS n l (sCell q)) ((encS (slt0 (sAft K n l q))).getD 0) (kNum K (slt0 (decS (ldS n l (sCell q))))))
def sq (K : Kd) (n : Nat) (l : List Int) (q : Sq) : Sq :=
  bif q.st == 0 then (bif ldS n l 0 == 2 then sEnd q 5 else sAt q 1) else
  bif q.st == 1 then (bif decide (sCell q < 0) then sEnd q 2 else sLook K n l q) else
  bif q.st == 2 then (bif casB n l (sCell q) q.wd then sEnd q 0 else sAt q 1) else q
def smem (n : Nat) (l : List Int) (q : Sq) : List Int := bif q.st == 2 then casS n l (sCell q) q.wd q.nx else l
def stch (n : Nat) (q : Sq) (t : Int) : Int := bif q.st == 0 then tcS n 0 t else bif q.st == 1 then (bif decide (sCell q < 0) then t else tcS n (sCell q) t) else bif q.st == 2 then tcS n (sCell q) t else t
def sret (K : Kd) (n : Nat) (l : List Int) (q : Sq) : Bool := (sq K n l q).st == 3
def sOK (st : Int) : Bool := st == 0 || st == 1 || st == 2 || st == 3
theorem sOK_cases {st : Int} (h : sOK st = true) : st = 0 ∨ st = 1 ∨ st = 2 ∨ st = 3 := by
  unfold sOK at h
  simp only [Bool.or_eq_true, beq_iff_eq] at h
  omega
theorem sq_0 {K : Kd} {n : Nat} {l : List Int} {q : Sq} (h : q.st = 0) : sq K n l q = bif ldS n l 0 == 2 then sEnd q 5 else sAt q 1 := by unfold sq; rw [h]; rfl
theorem sq_1 {K : Kd} {n : Nat} {l : List Int} {q : Sq} (h : q.st = 1) : sq K n l q = bif decide (sCell q < 0) then sEnd q 2 else sLook K n l q := by unfold sq; rw [h]; rfl
theorem sq_2 {K : Kd} {n : Nat} {l : List Int} {q : Sq} (h : q.st = 2) : sq K n l q = bif casB n l (sCell q) q.wd then sEnd q 0 else sAt q 1 := by unfold sq; rw [h]; rfl
theorem sq_3 {K : Kd} {n : Nat} {l : List Int} {q : Sq} (h : q.st = 3) : sq K n l q = q := by unfold sq; rw [h]; rfl
theorem smem_0 {n : Nat} {l : List Int} {q : Sq} (h : q.st = 0) : smem n l q = l := by unfold smem; rw [h]; rfl
theorem smem_1 {n : Nat} {l : List Int} {q : Sq} (h : q.st = 1) : smem n l q = l := by unfold smem; rw [h]; rfl
theorem smem_2 {n : Nat} {l : List Int} {q : Sq} (h : q.st = 2) : smem n l q = casS n l (sCell q) q.wd q.nx := by unfold smem; rw [h]; rfl
theorem smem_3 {n : Nat} {l : List Int} {q : Sq} (h : q.st = 3) : smem n l q = l := by unfold smem; rw [h]; rfl
theorem stch_0 {n : Nat} {q : Sq} {t : Int} (h : q.st = 0) : stch n q t = tcS n 0 t := by unfold stch; rw [h]; rfl
theorem stch_1 {n : Nat} {q : Sq} {t : Int} (h : q.st = 1) : stch n q t = bif decide (sCell q < 0) then t else tcS n (sCell q) t := by unfold stch; rw [h]; rfl
theorem stch_2 {n : Nat} {q : Sq} {t : Int} (h : q.st = 2) : stch n q t = tcS n (sCell q) t := by unfold stch; rw [h]; rfl
theorem stch_3 {n : Nat} {q : Sq} {t : Int} (h : q.st = 3) : stch n q t = t := by unfold stch; rw [h]; rfl
def sOut (K : Kd) (q : Sq) (n c : Nat) (t : Int) (l : List Int) : Value × List Go.Sx.Blk := (.bool (sret K n l q), kH K (sq K n l q) n c (stch n q t) (smem n l q))
theorem sO_run (q : Sq) (bw : Int) (bc : Cf) (n c : Nat) (t : Int) (l : List Int) (h : okM n l = true) (hs : sOK q.st = true) : (callV svEnv 40 37 [p0, pp1] (kH (.op bw bc) q n c t l)).get = some (sOut (.op bw bc) q n c t l) := by
  obtain ⟨cf, w, i, gen, st, wd, nx, num, e⟩ := q
  rcases sOK_cases hs with hs | hs | hs | hs <;> (simp only at hs; subst hs)
  · refine (sO0_tree cf w i gen wd nx num e bw bc n c t l).trans ?_
    unfold sOut sret
    rw [bt_of h, sq_0 rfl, smem_0 rfl, stch_0 rfl]
    cases (ldS n l 0 == 2) <;> rfl
  · refine (sO1_tree cf w i gen wd nx num e bw bc n c t l).trans ?_
    unfold sOut sret
    rw [bt_of h, sq_1 rfl, smem_1 rfl, stch_1 rfl]
    unfold sLook sAft sCell kNext kNum kErr kBrk slookK
    simp only
    cases decide (cellC cf i < 0) with
    | true => rfl
    | false =>
    cases (decS (ldS n l (cellC cf i))).isSome with
    | false => rfl
    | true =>
    cases ((slt0 (decS (ldS n l (cellC cf i)))).st != 3) with
    | true => rfl
    | false =>
    cases ((slt0 (decS (ldS n l (cellC cf i)))).own != w) with
    | true => rfl
    | false =>
    cases ((slt0 (decS (ldS n l (cellC cf i)))).gen != gen) with
    | true => rfl
    | false =>
      cases hb : (slt0 (decS (ldS n l (cellC cf i)))).brk with
      | true => rfl
      | false =>
        cases hn : nextS (slt0 (decS (ldS n l (cellC cf i)))) 14 bw bc.st with
        | none => rfl
        | some t' =>
          obtain ⟨e1, e2⟩ := next_14 hn
          simp only [Bool.not_true, cond_false, Option.isSome_some]
          rw [show (slt0 (some t')) = t' from rfl, bt_of e1, e2]
          rfl
  · refine (sO2_tree cf w i gen wd nx num e bw bc n c t l).trans ?_
    unfold sOut sret
    rw [bt_of h, sq_2 rfl, smem_2 rfl, stch_2 rfl]
    unfold sCell
    simp only
    cases casB n l (cellC cf i) wd <;> rfl
  · refine (sO3_tree cf w i gen wd nx num e bw bc n c t l).trans ?_
    unfold sOut sret
    rw [sq_3 rfl, smem_3 rfl, stch_3 rfl]
    rfl
theorem sS_run (q : Sq) (bw bn : Int) (n c : Nat) (t : Int) (l : List Int) (h : okM n l = true) (hs : sOK q.st = true) : (callV svEnv 40 37 [p0, pp1] (kH (.sh bw bn) q n c t l)).get = some (sOut (.sh bw bn) q n c t l) := by
  obtain ⟨cf, w, i, gen, st, wd, nx, num, e⟩ := q
  rcases sOK_cases hs with hs | hs | hs | hs <;> (simp only at hs; subst hs)
  · refine (sS0_tree cf w i gen wd nx num e bw bn n c t l).trans ?_
    unfold sOut sret
    rw [bt_of h, sq_0 rfl, smem_0 rfl, stch_0 rfl]
    cases (ldS n l 0 == 2) <;> rfl
  · refine (sS1_tree cf w i gen wd nx num e bw bn n c t l).trans ?_
    unfold sOut sret
    rw [bt_of h, sq_1 rfl, smem_1 rfl, stch_1 rfl]
    unfold sLook sAft sCell kNext kNum kErr kBrk slookK
    simp only
    cases decide (cellC cf i < 0) with
    | true => rfl
    | false =>
    cases (decS (ldS n l (cellC cf i))).isSome with
    | false => rfl
    | true =>
    cases ((slt0 (decS (ldS n l (cellC cf i)))).st != 3) with
    | true => rfl
    | false =>
    cases ((slt0 (decS (ldS n l (cellC cf i)))).own != w) with
    | true => rfl
    | false =>
    cases ((slt0 (decS (ldS n l (cellC cf i)))).gen != gen) with
    | true => rfl
    | false =>
      cases hn : nextS (slt0 (decS (ldS n l (cellC cf i)))) 15 bw bn with
      | none => rfl
      | some t' =>
        obtain ⟨e1, e2⟩ := next_15 hn
        simp only [Bool.not_true, cond_false, Option.isSome_some]
        rw [show (slt0 (some t')) = t' from rfl, bt_of e1, e2]
        rfl
  · refine (sS2_tree cf w i gen wd nx num e bw bn n c t l).trans ?_
    unfold sOut sret
    rw [bt_of h, sq_2 rfl, smem_2 rfl, stch_2 rfl]
    unfold sCell
    simp only
    cases casB n l (cellC cf i) wd <;> rfl
  · refine (sS3_tree cf w i gen wd nx num e bw bn n c t l).trans ?_
    unfold sOut sret
    rw [sq_3 rfl, smem_3 rfl, stch_3 rfl]
    rfl
def sstepO : Orc := fun args lh => match args, lh with
  | [.pointer (some ⟨0, 0, none⟩), .pointer (some ⟨1, 0, none⟩)], [.cells true true [.int .i64 cw, .int .i64 cs, .int .i64 cst, .int .i64 cwt, .int .i64 cu, .int .i64 w, .int .i64 i, .int .i64 gen, .int .i64 st, .int .i64 wd, .int .i64 nx, .int .i64 num, .func (.func f) fa fc, .int .i64 e], .cells true true [.slice (some ⟨4, 0, none⟩) n c, .int .i64 t], .cells true true [.int .i64 bw], .cells true true B, .ints true true l] =>
    match fa.toList, fc.toList, B with
    | [], [.pointer (some ⟨2, 0, none⟩), .pointer (some ⟨3, 0, none⟩)], [.int .i64 bn] => .br (okM n l && sOK st && Nat.beq f fShut) (.ret (sOut (.sh bw bn) ⟨⟨cw, cs, cst, cwt, cu⟩, w, i, gen, st, wd, nx, num, e⟩ n c t l)) .bad
    | [], [.pointer (some ⟨2, 0, none⟩), .pointer (some ⟨3, 0, none⟩)], [.int .i64 b1, .int .i64 b2, .int .i64 b3, .int .i64 b4, .int .i64 b5] => .br (okM n l && sOK st && Nat.beq f fOpen) (.ret (sOut (.op bw ⟨b1, b2, b3, b4, b5⟩) ⟨⟨cw, cs, cst, cwt, cu⟩, w, i, gen, st, wd, nx, num, e⟩ n c t l)) .bad
    | _, _, _ => .bad
  | _, _ => .bad
theorem sstep_sound : SoundG KT Tryd.prog TT 37 sstepO := by
  refine SoundG.of_run ⟨Tryd.func37, by kernel_rfl, by kernel_rfl⟩ rfl rfl svEnv_ok 40 fun args lh r hr => ?_
  unfold sstepO at hr
  split at hr
  · rename_i cw cs cst cwt cu w i gen st wd nx num f fa fc e n c t bw B l
    split at hr
    · rename_i bn h1 h2
      obtain rfl : fa = #[] := Array.toList_inj.1 h1
      obtain rfl : fc = #[.pointer (some ⟨2, 0, none⟩), .pointer (some ⟨3, 0, none⟩)] := Array.toList_inj.1 h2
      rcases M.get_br_some hr with ⟨hc, hr2⟩ | ⟨_, hr2⟩ <;> clear hr
      · rw [Bool.and_eq_true, Bool.and_eq_true] at hc
        obtain rfl := Nat.eq_of_beq_eq_true hc.2
        simp only [M.get_ret, Option.some.injEq] at hr2; subst hr2
        exact sS_run ⟨⟨cw, cs, cst, cwt, cu⟩, w, i, gen, st, wd, nx, num, e⟩ bw bn n c t l hc.1.1 hc.1.2
      · cases hr2
    · rename_i b1 b2 b3 b4 b5 h1 h2
      obtain rfl : fa = #[] := Array.toList_inj.1 h1
      obtain rfl : fc = #[.pointer (some ⟨2, 0, none⟩), .pointer (some ⟨3, 0, none⟩)] := Array.toList_inj.1 h2
      rcases M.get_br_some hr with ⟨hc, hr2⟩ | ⟨_, hr2⟩ <;> clear hr
      · rw [Bool.and_eq_true, Bool.and_eq_true] at hc
        obtain rfl := Nat.eq_of_beq_eq_true hc.2
        simp only [M.get_ret, Option.some.injEq] at hr2; subst hr2
        exact sO_run ⟨⟨cw, cs, cst, cwt, cu⟩, w, i, gen, st, wd, nx, num, e⟩ bw ⟨b1, b2, b3, b4, b5⟩ n c t l hc.1.1 hc.1.2
      · cases hr2
    · cases hr
  · cases hr
def streamOrcs : List (FuncId × Orc) := [(37, frameM sstepO)]
theorem streamOrcs_ok : SoundsG KT Tryd.prog TT streamOrcs := sounds_consG (sstep_sound.frame tt_kept) sounds_nilG
end Go.Proofs.YthfoljgaiincdaaDoor
