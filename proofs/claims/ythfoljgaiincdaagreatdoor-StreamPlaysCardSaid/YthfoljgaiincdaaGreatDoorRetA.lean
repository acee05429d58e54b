
/- retire: a step, of the program and of the document. No condition of its own. -/
import Derived.Test.YthfoljgaiincdaaGreatDoorLawGen
namespace Go.Proofs.YthfoljgaiincdaaGreatDoor
open Go.RowKit Go.Fld Go.Sx
set_option linter.unusedVariables false
set_option linter.unusedSimpArgs false
def fSwap : Nat := 109
def fLook : Nat := 124
def fAge : Nat := 131
def fGoOn : Nat := 133
def fEnd : Nat := 123
noncomputable def rtFns : List (FuncId × Func) := [(122, Tryz.f122), (78, Tryz.f78), (79, Tryz.f79), (109, Tryz.f109), (124, Tryz.f124), (131, Tryz.f131), (133, Tryz.f133), (123, Tryz.f123), (77, Tryz.f77), (58, Tryz.f58), (80, Tryz.f80)]
theorem rtFns_ok : ∀ e ∈ rtFns, FnOK Tryz.prog e.1 e.2 :=
  fns_ok_cons ⟨Tryz.func122, by kernel_rfl, by kernel_rfl⟩ <| fns_ok_cons ⟨Tryz.func78, by kernel_rfl, by kernel_rfl⟩ <| fns_ok_cons ⟨Tryz.func79, by kernel_rfl, by kernel_rfl⟩ <| fns_ok_cons ⟨Tryz.func109, by kernel_rfl, by kernel_rfl⟩ <| fns_ok_cons ⟨Tryz.func124, by kernel_rfl, by kernel_rfl⟩ <| fns_ok_cons ⟨Tryz.func131, by kernel_rfl, by kernel_rfl⟩ <| fns_ok_cons ⟨Tryz.func133, by kernel_rfl, by kernel_rfl⟩ <| fns_ok_cons ⟨Tryz.func123, by kernel_rfl, by kernel_rfl⟩ <| fns_ok_cons ⟨Tryz.func77, by kernel_rfl, by kernel_rfl⟩ <| fns_ok_cons ⟨Tryz.func58, by kernel_rfl, by kernel_rfl⟩ <| fns_ok_cons ⟨Tryz.func80, by kernel_rfl, by kernel_rfl⟩ <| fns_ok_nil rfl
def aftO : Orc := fun args lh => match args with | [.int .i64 w, .int .i64 k, .int .i64 more] => .ret (optV (aftS decS w k 0 more), lh) | _ => .bad
noncomputable def rtwEnv : Env := mkEnv Tryz.prog rtFns [slotEq] wordOrcs []
theorem rtwEnv_ok (X : Nat → Prop) (w0 : World) (h0 : X 0) (hB : Bnd X w0) (hT : Tab w0) : EnvOK rtwEnv X w0 := mkEnv_ok slotEq_ok (by kernel_rfl) rtFns_ok wordOrcs_ok lpSounds_nil h0 hB hT
theorem aft_tree (w k more : Int) : (callV rtwEnv 40 122 [.int .i64 w, .int .i64 k, .int .i64 more] []).get =
    bif !(decS w).isSome then some (optV none, []) else bif !(nextS (slt0 (decS w)) k 0 more).isSome then some (optV none, []) else some (optV (encS (slt0 (nextS (slt0 (decS w)) k 0 more))), []) := by kernel_rfl
theorem aft_sound : Sound Tryz.prog Tab 122 aftO := by
  refine Sound.of_empty ⟨Tryz.func122, by kernel_rfl, by kernel_rfl⟩ rfl rfl rtwEnv_ok 40 fun args lh r hr => ?_
  unfold aftO at hr
  split at hr
  · simp only [M.get_ret, Option.some.injEq] at hr; subst hr
    exact ⟨rfl, rfl, plain_optV _, optV_ne _, (aft_tree _ _ _).trans (aft_eq decS _ _ _ _)⟩
  · cases hr
/-! ### A step of the program -/
structure Rq where
  cell : Int
  word : Int
  ep : Int
  f : Nat
  sw : Bool
  dn : Bool
abbrev rqV (k f : Nat) : Value := .func (.func f) #[.pointer (some ⟨k, 0, none⟩)] #[]
abbrev rqB (k : Nat) (q : Rq) : Go.Sx.Blk := .cells true true [.int .i64 q.cell, .int .i64 q.word, .int .i64 q.ep, rqV k q.f, .bool q.sw, .bool q.dn]
def rNext (q : Rq) : Option Int := aftS decS q.word 11 0 4095
def rAged (q : Rq) : Option Int := aftS decS q.word 17 0 q.ep
def rEnd (q : Rq) : Rq := ⟨q.cell, q.word, q.ep, fEnd, q.sw, true⟩
/-- Does the swap succeed? -/
def rHit (n : Nat) (l : List Int) (q : Rq) : Bool := bif (rNext q).isSome then casB n l q.cell q.word else false
def rstep (n : Nat) (l : List Int) (q : Rq) : Rq :=
  bif Nat.beq q.f fSwap then (bif rHit n l q then ⟨q.cell, (rNext q).getD 0, q.ep, fLook, true, q.dn⟩ else rEnd q) else
  bif Nat.beq q.f fLook then ⟨q.cell, q.word, ldS n l 2, fAge, q.sw, q.dn⟩ else
  bif Nat.beq q.f fAge then ⟨q.cell, q.word, q.ep, fGoOn, q.sw, q.dn⟩ else rEnd q
def rmem (n : Nat) (l : List Int) (q : Rq) : List Int :=
  bif Nat.beq q.f fSwap then (bif (rNext q).isSome then casS n l q.cell q.word ((rNext q).getD 0) else l) else
  bif Nat.beq q.f fLook then l else
  bif Nat.beq q.f fAge then (bif (rAged q).isSome then casS n l q.cell q.word ((rAged q).getD 0) else l) else
  bif Nat.beq q.f fGoOn then addS n l 2 1 else l
def rtch (n : Nat) (q : Rq) (t : Int) : Int :=
  bif Nat.beq q.f fSwap then (bif (rNext q).isSome then tcS n q.cell t else t) else
  bif Nat.beq q.f fLook then tcS n 2 t else
  bif Nat.beq q.f fAge then (bif (rAged q).isSome then tcS n q.cell t else t) else
  bif Nat.beq q.f fGoOn then tcS n 2 t else t
def rret (n : Nat) (l : List Int) (q : Rq) : Bool :=
  bif Nat.beq q.f fSwap then !rHit n l q else bif Nat.beq q.f fLook then false else bif Nat.beq q.f fAge then false else true
def rOK (f : Nat) : Bool := Nat.beq f fSwap || Nat.beq f fLook || Nat.beq f fAge || Nat.beq f fGoOn || Nat.beq f fEnd
def rt1 : List (FuncId × Orc) := [(122, aftO)] ++ memOrcs ++ confOrcs ++ refMemOrcs ++ wordOrcs ++ [(57, aftAO)]
theorem rt1_ok : Sounds Tryz.prog Tab rt1 := sounds_append (sounds_append (sounds_append (sounds_append (sounds_append (sounds_cons aft_sound sounds_nil) memOrcs_ok) confOrcs_ok) refMemOrcs_ok) wordOrcs_ok) (sounds_cons aftA_sound sounds_nil)
noncomputable def rt1Env : Env := mkEnv Tryz.prog rtFns [] rt1 []
theorem rt1Env_ok (X : Nat → Prop) (w0 : World) (h0 : X 0) (hB : Bnd X w0) (hT : Tab w0) : EnvOK rt1Env X w0 := mkEnv_ok (fun e he => by cases he) (by kernel_rfl) rtFns_ok rt1_ok lpSounds_nil h0 hB hT
abbrev rtH (q : Rq) (n c : Nat) (t : Int) (l : List Int) : List Go.Sx.Blk := rqB 0 q :: memAt 2 n c t l
theorem rswap_tree (a b e : Int) (s d : Bool) (n c : Nat) (t : Int) (l : List Int) : (callV rt1Env 40 78 [p0, pp1] (rtH ⟨a, b, e, fSwap, s, d⟩ n c t l)).get =
    bif !(rNext ⟨a, b, e, fSwap, s, d⟩).isSome then some (.bool true, rtH ⟨a, b, e, fEnd, s, true⟩ n c t l) else bt (okM n l) (bif !casB n l a b then some (.bool true, rtH ⟨a, b, e, fEnd, s, true⟩ n c (tcS n a t) (casS n l a b ((rNext ⟨a, b, e, fSwap, s, d⟩).getD 0)))
      else some (.bool false, rtH ⟨a, (rNext ⟨a, b, e, fSwap, s, d⟩).getD 0, e, fLook, true, d⟩ n c (tcS n a t) (casS n l a b ((rNext ⟨a, b, e, fSwap, s, d⟩).getD 0)))) := by kernel_rfl
theorem rlook_tree (a b e : Int) (s d : Bool) (n c : Nat) (t : Int) (l : List Int) : (callV rt1Env 40 78 [p0, pp1] (rtH ⟨a, b, e, fLook, s, d⟩ n c t l)).get =
    bt (okM n l) (some (.bool false, rtH ⟨a, b, ldS n l 2, fAge, s, d⟩ n c (tcS n 2 t) l)) := by kernel_rfl
theorem rage_tree (a b e : Int) (s d : Bool) (n c : Nat) (t : Int) (l : List Int) : (callV rt1Env 40 78 [p0, pp1] (rtH ⟨a, b, e, fAge, s, d⟩ n c t l)).get =
    bif (rAged ⟨a, b, e, fAge, s, d⟩).isSome then bt (okM n l) (some (.bool false, rtH ⟨a, b, e, fGoOn, s, d⟩ n c (tcS n a t) (casS n l a b ((rAged ⟨a, b, e, fAge, s, d⟩).getD 0)))) else some (.bool false, rtH ⟨a, b, e, fGoOn, s, d⟩ n c t l) := by kernel_rfl
theorem rgo_tree (a b e : Int) (s d : Bool) (n c : Nat) (t : Int) (l : List Int) : (callV rt1Env 40 78 [p0, pp1] (rtH ⟨a, b, e, fGoOn, s, d⟩ n c t l)).get =
    bt (okM n l) (some (.bool true, rtH ⟨a, b, e, fEnd, s, true⟩ n c (tcS n 2 t) (addS n l 2 1))) := by kernel_rfl
theorem rend_tree (a b e : Int) (s d : Bool) (n c : Nat) (t : Int) (l : List Int) : (callV rt1Env 40 78 [p0, pp1] (rtH ⟨a, b, e, fEnd, s, d⟩ n c t l)).get =
    some (.bool true, rtH ⟨a, b, e, fEnd, s, true⟩ n c t l) := by kernel_rfl
def rstepO : Orc := fun args lh => match args, lh with
  | [.pointer (some ⟨0, 0, none⟩), .pointer (some ⟨1, 0, none⟩)], [.cells true true [.int .i64 a, .int .i64 b, .int .i64 e, .func (.func f) fa fc, .bool s, .bool d], .cells true true [.slice (some ⟨2, 0, none⟩) n c, .int .i64 t], .ints true true l] =>
    match fa.toList, fc.toList with
    | [.pointer (some ⟨0, 0, none⟩)], [] => .br (okM n l && rOK f) (.ret (.bool (rret n l ⟨a, b, e, f, s, d⟩), rtH (rstep n l ⟨a, b, e, f, s, d⟩) n c (rtch n ⟨a, b, e, f, s, d⟩ t) (rmem n l ⟨a, b, e, f, s, d⟩))) .bad
    | _, _ => .bad
  | _, _ => .bad
theorem rOK_cases {f : Nat} (h : rOK f = true) : f = fSwap ∨ f = fLook ∨ f = fAge ∨ f = fGoOn ∨ f = fEnd := by
  unfold rOK at h
  simp only [Bool.or_eq_true] at h
  rcases h with (((h | h) | h) | h) | h
  · exact .inl (Nat.eq_of_beq_eq_true h)
  · exact .inr (.inl (Nat.eq_of_beq_eq_true h))
  · exact .inr (.inr (.inl (Nat.eq_of_beq_eq_true h)))
  · exact .inr (.inr (.inr (.inl (Nat.eq_of_beq_eq_true h))))
  · exact .inr (.inr (.inr (.inr (Nat.eq_of_beq_eq_true h))))
theorem rstep_run (q : Rq) (n c : Nat) (t : Int) (l : List Int) (h : okM n l = true) (hf : rOK q.f = true) : (callV rt1Env 40 78 [p0, pp1] (rtH q n c t l)).get =
    some (.bool (rret n l q), rtH (rstep n l q) n c (rtch n q t) (rmem n l q)) := by
  obtain ⟨a, b, e, f, s, d⟩ := q
  rcases rOK_cases hf with hf | hf | hf | hf | hf <;> (simp only at hf; subst hf)
  · rw [rswap_tree, bt_of h]
    unfold rret rstep rtch rmem rHit rEnd
    simp only [Nat.beq_refl, cond_true]
    cases hn : (rNext ⟨a, b, e, fSwap, s, d⟩).isSome with
    | false => rfl
    | true =>
      simp only [cond_true, Bool.not_true, cond_false]
      cases casB n l a b <;> rfl
  · rw [rlook_tree, bt_of h]; rfl
  · rw [rage_tree, bt_of h]
    unfold rret rstep rtch rmem
    cases hn : (rAged ⟨a, b, e, fAge, s, d⟩).isSome with
    | false => simp only [hn]; rfl
    | true => simp only [hn]; rfl
  · rw [rgo_tree, bt_of h]; rfl
  · rw [rend_tree]; rfl
theorem rstep_sound : Sound Tryz.prog Tab 78 rstepO := by
  refine Sound.of_run ⟨Tryz.func78, by kernel_rfl, by kernel_rfl⟩ rfl rfl rt1Env_ok 40 fun args lh r hr => ?_
  unfold rstepO at hr
  split at hr
  · rename_i a b e f fa fc s d n c t l
    split at hr
    · rename_i h1 h2
      obtain rfl : fa = #[.pointer (some ⟨0, 0, none⟩)] := Array.toList_inj.1 h1
      obtain rfl : fc = #[] := Array.toList_inj.1 h2
      rcases M.get_br_some hr with ⟨hc, hr⟩ | ⟨_, hr⟩
      · simp only [M.get_ret, Option.some.injEq] at hr; subst hr
        rw [Bool.and_eq_true] at hc
        exact rstep_run ⟨a, b, e, f, s, d⟩ n c t l hc.1 hc.2
      · cases hr
    · cases hr
  · cases hr
/-! ### A step of the document -/
structure Rr where
  cf : Cf
  i : Int
  w : Int
  e : Int
  st : Int
  sw : Bool
  dn : Bool
abbrev rrB (q : Rr) : Go.Sx.Blk := .cells true true [.int .i64 q.cf.w, .int .i64 q.cf.s, .int .i64 q.cf.st, .int .i64 q.cf.wt, .int .i64 q.cf.u, .int .i64 q.i, .int .i64 q.w, .int .i64 q.e, .int .i64 q.st, .bool q.sw, .bool q.dn]
def rrNext (q : Rr) : Option Int := aftS decA q.w 11 0 4095
def rrAged (q : Rr) : Option Int := aftS decA q.w 17 0 q.e
def rrHit (n : Nat) (l : List Int) (q : Rr) : Bool := bif (rrNext q).isSome then casB n l (cellC q.cf q.i) q.w else q.sw
def rrstep (n : Nat) (l : List Int) (q : Rr) : Rr :=
  bif q.dn then q else bif w64 (q.st + 1) == 1 then ⟨q.cf, q.i, (rrNext q).getD 0, q.e, w64 (q.st + 1), rrHit n l q, !rrHit n l q⟩ else
  bif w64 (q.st + 1) == 2 then ⟨q.cf, q.i, q.w, ldS n l 2, w64 (q.st + 1), q.sw, q.dn⟩ else
  bif w64 (q.st + 1) == 4 then ⟨q.cf, q.i, q.w, q.e, w64 (q.st + 1), q.sw, true⟩ else ⟨q.cf, q.i, q.w, q.e, w64 (q.st + 1), q.sw, q.dn⟩
def rrmem (n : Nat) (l : List Int) (q : Rr) : List Int :=
  bif q.dn then l else bif w64 (q.st + 1) == 1 then (bif (rrNext q).isSome then casS n l (cellC q.cf q.i) q.w ((rrNext q).getD 0) else l) else
  bif w64 (q.st + 1) == 2 then l else
  bif w64 (q.st + 1) == 3 then (bif (rrAged q).isSome then casS n l (cellC q.cf q.i) q.w ((rrAged q).getD 0) else l) else
  bif w64 (q.st + 1) == 4 then addS n l 2 1 else l
def rrtch (n : Nat) (q : Rr) (t : Int) : Int :=
  bif q.dn then t else bif w64 (q.st + 1) == 1 then (bif (rrNext q).isSome then tcS n (cellC q.cf q.i) t else t) else
  bif w64 (q.st + 1) == 2 then tcS n 2 t else
  bif w64 (q.st + 1) == 3 then (bif (rrAged q).isSome then tcS n (cellC q.cf q.i) t else t) else
  bif w64 (q.st + 1) == 4 then tcS n 2 t else t
abbrev rrH (q : Rr) (n : Nat) (t : Int) (l : List Int) : List Go.Sx.Blk := rrB q :: memQt 2 n t l
theorem rr_tree (cf : Cf) (i w e st : Int) (s d : Bool) (n : Nat) (t : Int) (l : List Int) : (callV rt1Env 40 58 [p0, pp1] (rrH ⟨cf, i, w, e, st, s, d⟩ n t l)).get =
    bif d then some (.bool true, rrH ⟨cf, i, w, e, st, s, d⟩ n t l) else
    bif w64 (st + 1) == 1 then (bif (rrNext ⟨cf, i, w, e, st, s, d⟩).isSome then bt (okM n l) (some (.bool (!casB n l (cellC cf i) w), rrH ⟨cf, i, (rrNext ⟨cf, i, w, e, st, s, d⟩).getD 0, e, w64 (st + 1), casB n l (cellC cf i) w, !casB n l (cellC cf i) w⟩ n (tcS n (cellC cf i) t) (casS n l (cellC cf i) w ((rrNext ⟨cf, i, w, e, st, s, d⟩).getD 0))))
      else some (.bool (!s), rrH ⟨cf, i, (rrNext ⟨cf, i, w, e, st, s, d⟩).getD 0, e, w64 (st + 1), s, !s⟩ n t l)) else
    bif w64 (st + 1) == 2 then bt (okM n l) (some (.bool d, rrH ⟨cf, i, w, ldS n l 2, w64 (st + 1), s, d⟩ n (tcS n 2 t) l)) else
    bif w64 (st + 1) == 3 then (bif (rrAged ⟨cf, i, w, e, st, s, d⟩).isSome then bt (okM n l) (some (.bool d, rrH ⟨cf, i, w, e, w64 (st + 1), s, d⟩ n (tcS n (cellC cf i) t) (casS n l (cellC cf i) w ((rrAged ⟨cf, i, w, e, st, s, d⟩).getD 0)))) else some (.bool d, rrH ⟨cf, i, w, e, w64 (st + 1), s, d⟩ n t l)) else
    bif w64 (st + 1) == 4 then bt (okM n l) (some (.bool true, rrH ⟨cf, i, w, e, w64 (st + 1), s, true⟩ n (tcS n 2 t) (addS n l 2 1))) else some (.bool d, rrH ⟨cf, i, w, e, w64 (st + 1), s, d⟩ n t l) := by kernel_rfl
def rrstepO : Orc := fun args lh => match args, lh with
  | [.pointer (some ⟨0, 0, none⟩), .pointer (some ⟨1, 0, none⟩)], [.cells true true [.int .i64 cw, .int .i64 cs, .int .i64 cst, .int .i64 cwt, .int .i64 cu, .int .i64 i, .int .i64 w, .int .i64 e, .int .i64 st, .bool s, .bool d], .cells true true [.slice (some ⟨2, 0, some 1⟩) n 0, .int .i64 t], .ints true true l] =>
    .br (okM n l) (.ret (.bool (rrstep n l ⟨⟨cw, cs, cst, cwt, cu⟩, i, w, e, st, s, d⟩).dn, rrH (rrstep n l ⟨⟨cw, cs, cst, cwt, cu⟩, i, w, e, st, s, d⟩) n (rrtch n ⟨⟨cw, cs, cst, cwt, cu⟩, i, w, e, st, s, d⟩ t) (rrmem n l ⟨⟨cw, cs, cst, cwt, cu⟩, i, w, e, st, s, d⟩))) .bad
  | _, _ => .bad
theorem rr_run (q : Rr) (n : Nat) (t : Int) (l : List Int) (h : okM n l = true) : (callV rt1Env 40 58 [p0, pp1] (rrH q n t l)).get =
    some (.bool (rrstep n l q).dn, rrH (rrstep n l q) n (rrtch n q t) (rrmem n l q)) := by
  obtain ⟨cf, i, w, e, st, s, d⟩ := q
  rw [rr_tree, bt_of h, bt_of h, bt_of h, bt_of h]
  unfold rrstep rrtch rrmem rrHit
  simp only
  cases d with
  | true => rfl
  | false =>
    simp only [cond_false]
    cases h1 : (w64 (st + 1) == 1) with
    | true =>
      simp only [cond_true]
      cases hn : (rrNext ⟨cf, i, w, e, st, s, false⟩).isSome <;> rfl
    | false =>
      simp only [cond_false]
      cases h2 : (w64 (st + 1) == 2) with
      | true => rfl
      | false =>
        simp only [cond_false]
        cases h3 : (w64 (st + 1) == 3) with
        | true =>
          have h4 : (w64 (st + 1) == 4) = false := by simp only [beq_iff_eq, beq_eq_false_iff_ne] at h3 ⊢; omega
          rw [h4]
          simp only [cond_true]
          cases hn : (rrAged ⟨cf, i, w, e, st, s, false⟩).isSome <;> rfl
        | false =>
          simp only [cond_false]
          cases h4 : (w64 (st + 1) == 4) <;> rfl
theorem rrstep_sound : Sound Tryz.prog Tab 58 rrstepO := by
  refine Sound.of_run ⟨Tryz.func58, by kernel_rfl, by kernel_rfl⟩ rfl rfl rt1Env_ok 40 fun args lh r hr => ?_
  unfold rrstepO at hr
  split at hr
  · rename_i cw cs cst cwt cu i w e st s d n t l
    rcases M.get_br_some hr with ⟨hc, hr⟩ | ⟨_, hr⟩
    · simp only [M.get_ret, Option.some.injEq] at hr; subst hr
      exact rr_run ⟨⟨cw, cs, cst, cwt, cu⟩, i, w, e, st, s, d⟩ n t l hc
    · cases hr
  · cases hr
def retOrcs : List (FuncId × Orc) := [(78, frameM rstepO), (58, frameM rrstepO)]
theorem retOrcs_ok : Sounds Tryz.prog Tab retOrcs := sounds_cons (rstep_sound.frame tab_kept) <| sounds_cons (rrstep_sound.frame tab_kept) sounds_nil
end Go.Proofs.YthfoljgaiincdaaGreatDoor
