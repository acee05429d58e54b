
/- The laws of stream: what they run over. No condition of its own. -/
import Derived.Test.YthfoljgaiincdaaDoorStrB
import Derived.Test.YthfoljgaiincdaaDoorLaid19
namespace Go.Proofs.YthfoljgaiincdaaDoor
open Go.RowKit Go.Fld Go.Sx
set_option linter.unusedVariables false
set_option linter.unusedSimpArgs false
noncomputable def awFns : List (FuncId × Func) := [(33, Tryd.f33), (34, Tryd.f34), (36, Tryd.f36), (40, Tryd.f40), (38, Tryd.f38)]
theorem awFns_ok : ∀ e ∈ awFns, FnOK Tryd.prog e.1 e.2 :=
  fns_ok_cons ⟨Tryd.func33, by kernel_rfl, by kernel_rfl⟩ <| fns_ok_cons ⟨Tryd.func34, by kernel_rfl, by kernel_rfl⟩ <| fns_ok_cons ⟨Tryd.func36, by kernel_rfl, by kernel_rfl⟩ <| fns_ok_cons ⟨Tryd.func40, by kernel_rfl, by kernel_rfl⟩ <| fns_ok_cons ⟨Tryd.func38, by kernel_rfl, by kernel_rfl⟩ <| fns_ok_nil rfl
def aw1 : List (FuncId × Orc) := streamOrcs ++ wordOrcs ++ memOrcs ++ confOrcs
theorem aw1_ok : SoundsG KT Tryd.prog TT aw1 := sounds_appendG (sounds_appendG (sounds_appendG streamOrcs_ok wordOrcs_ok.tt) memOrcs_ok.tt) confOrcs_ok.tt
noncomputable def awEnv : Env := mkEnv Tryd.prog awFns [] aw1 []
theorem awEnv_ok (X : Nat → Prop) (w0 : World) (h0 : ∀ k, KT k → X k) (hB : Bnd X w0) (hT : TT w0) : EnvOK awEnv X w0 := mkEnv_okG (fun e he => by cases he) (by kernel_rfl) awFns_ok aw1_ok lpSounds_nilG h0 hB hT
theorem awake_tree : (callV awEnv 60 33 [] []).get = some (.bool true, []) := by kernel_rfl
/-- Memory of a conf that is right. -/
def confMemR : Orc := fun args lh => match args, lh with
  | [c], [] => confM c fun c => .br (rightC c) (.ret (.tuple #[p0, .int .i64 0], memB (cntN c) (cntN c) 0 (List.replicate (cntN c) 0))) .bad
  | _, _ => .bad
theorem confMemR_sound : Sound Tryd.prog Tab 15 confMemR := by
  refine Sound.of_run ⟨Tryd.func15, by kernel_rfl, by kernel_rfl⟩ rfl rfl confEnv_ok 40 fun args lh r hr => ?_
  unfold confMemR at hr
  split at hr
  · obtain ⟨c, rfl, h2⟩ := confM_some hr
    refine ((mem_tree c).trans (memT_eq c)).trans ?_
    rcases M.get_br_some h2 with ⟨hc, h3⟩ | ⟨hc, h3⟩
    · simp only [M.get_ret, Option.some.injEq] at h3; subst h3
      rw [hc]; rfl
    · cases h3
  · cases hr
def lw1 : List (FuncId × Orc) := [(15, frameM confMemR)] ++ aw1
theorem lw1_ok : SoundsG KT Tryd.prog TT lw1 := sounds_appendG (sounds_consG (confMemR_sound.frame tab_kept).tt sounds_nilG) aw1_ok
noncomputable def lwEnv : Env := mkEnv Tryd.prog awFns [] lw1 []
theorem lwEnv_ok (X : Nat → Prop) (w0 : World) (h0 : ∀ k, KT k → X k) (hB : Bnd X w0) (hT : TT w0) : EnvOK lwEnv X w0 := mkEnv_okG (fun e he => by cases he) (by kernel_rfl) awFns_ok lw1_ok lpSounds_nilG h0 hB hT
def awakeO : Orc := fun args lh => match args with | [] => .ret (.bool true, lh) | _ => .bad
/-- A contract of a function that needs no block, and makes none that stays. -/
theorem SoundG.of_empty {f : FuncId} {fn : Func} (hf : FnOK Tryd.prog f fn) {F : Orc} {E : Env} (hP : E.P = Tryd.prog) (hG : E.G = 0) (hE : ∀ (X : Nat → Prop) (w0 : World), (∀ k, KT k → X k) → Bnd X w0 → TT w0 → EnvOK E X w0) (fuel : Nat)
    (h : ∀ args lh r, (F args lh).get = some r → r.2 = lh ∧ args.all plainA = true ∧ Go.Sx.plain r.1 = true ∧ r.1 ≠ undef ∧ (callV E fuel f args []).get = some (r.1, [])) : SoundG KT Tryd.prog TT f F := by
  refine ⟨⟨fn, hf⟩, fun X w0 h0 hB hT args lh r hr => ?_⟩
  obtain ⟨e1, e2, e3, e4, e5⟩ := h args lh r hr
  obtain ⟨v, lh'⟩ := r
  simp only at e1 e3 e4 e5
  subst e1
  refine CallTo.pure e2 e3 fun w hk => ?_
  have hk2 := tt_kept X w0 w h0 hT hk
  have hc := callV_ok (hE (· < w.heap.size) w hk2.lt (bnd_self w) hk2) hG e5
  have hr : HR (· < w.heap.size) w E.G (fun _ => none) [] w := by rw [hG]; exact start_hr
  have ha : args.all Go.Sx.plain = true := by
    rw [List.all_eq_true] at e2 ⊢
    intro v hv
    have := e2 v hv
    unfold plainA at this
    split at this
    · exact this
    · cases v <;> first | exact this | rfl | (simp [Go.Sx.plain, plain1] at this ⊢)
  rw [hP] at hc
  refine (hc.2 _ w args.toArray hr (VRA.plain args ha)).mono fun e w' hh => ?_
  obtain ⟨v', rfl, σ', _, hvr, hr'⟩ := hh
  rw [VR.plain_eq hvr e3 e4]
  exact ⟨rfl, hr'.below.below⟩
theorem awake_sound : SoundG KT Tryd.prog TT 33 awakeO := by
  refine SoundG.of_empty ⟨Tryd.func33, by kernel_rfl, by kernel_rfl⟩ rfl rfl awEnv_ok 60 fun args lh r hr => ?_
  unfold awakeO at hr
  split at hr
  · simp only [M.get_ret, Option.some.injEq] at hr; subst hr
    exact ⟨rfl, rfl, rfl, by simp [undef], awake_tree⟩
  · cases hr
/-! ### Four steps -/
noncomputable def onFns : List (FuncId × Func) := [(39, Tryd.f39), (38, Tryd.f38)]
theorem onFns_ok : ∀ e ∈ onFns, FnOK Tryd.prog e.1 e.2 :=
  fns_ok_cons ⟨Tryd.func39, by kernel_rfl, by kernel_rfl⟩ <| fns_ok_cons ⟨Tryd.func38, by kernel_rfl, by kernel_rfl⟩ <| fns_ok_nil rfl
noncomputable def onEnv : Env := mkEnv Tryd.prog onFns [] streamOrcs []
theorem onEnv_ok (X : Nat → Prop) (w0 : World) (h0 : ∀ k, KT k → X k) (hB : Bnd X w0) (hT : TT w0) : EnvOK onEnv X w0 := mkEnv_okG (fun e he => by cases he) (by kernel_rfl) onFns_ok streamOrcs_ok lpSounds_nilG h0 hB hT
/-- A stream, and the memory. -/
structure S1 where
  l : List Int
  t : Int
  q : Sq
def s1N (K : Kd) (n : Nat) (s : S1) : S1 := ⟨smem n s.l s.q, stch n s.q s.t, sq K n s.l s.q⟩
def s14 (K : Kd) (n : Nat) (s : S1) : S1 := s1N K n (s1N K n (s1N K n (s1N K n s)))
theorem sOK_sq {K : Kd} {n : Nat} {l : List Int} {q : Sq} (h : sOK q.st = true) : sOK (sq K n l q).st = true := by
  rcases sOK_cases h with hs | hs | hs | hs
  · rw [sq_0 hs]; cases (ldS n l 0 == 2) <;> rfl
  · rw [sq_1 hs]
    unfold sLook slookK
    cases decide (sCell q < 0) <;> cases (decS (ldS n l (sCell q))).isSome <;> cases ((slt0 (decS (ldS n l (sCell q)))).st != 3) <;> cases ((slt0 (decS (ldS n l (sCell q)))).own != q.w) <;> cases ((slt0 (decS (ldS n l (sCell q)))).gen != q.gen) <;> cases kBrk K (slt0 (decS (ldS n l (sCell q)))) <;> cases (sAft K n l q).isSome <;> rfl
  · rw [sq_2 hs]; cases casB n l (sCell q) q.wd <;> rfl
  · rw [sq_3 hs]; exact h
theorem okM_smem {n : Nat} {l : List Int} {q : Sq} : okM n (smem n l q) = okM n l := by
  unfold smem
  cases q.st == 2
  · rfl
  · exact okM_cas n l _ _ _
def ansE (q : Sq) : Int := bif q.st != 3 then 0 else bif q.e != 0 then q.e else 0
def ansN (q : Sq) : Int := bif q.st != 3 then 0 else bif q.e != 0 then 0 else q.num
abbrev mem1 (n c : Nat) (t : Int) : Go.Sx.Blk := .cells true true [.slice (some ⟨2, 0, none⟩) n c, .int .i64 t]
def oneH (K : Kd) (n c : Nat) (s : S1) : List Go.Sx.Blk := match K with
  | .op w cc => [mem1 n c s.t, sB (kV fOpen 3 4) s.q, .ints true true s.l, i1 w, cB cc]
  | .sh w m => [mem1 n c s.t, sB (kV fShut 3 4) s.q, .ints true true s.l, i1 w, i1 m]
def sOKs (n : Nat) (s : S1) : Bool := okM n s.l && sOK s.q.st
def oneT (K : Kd) (n c : Nat) (s : S1) : Option (Value × List Go.Sx.Blk) :=
  bt (sOKs n s && Nat.beq 0 0) (bt (sOKs n (s1N K n s) && Nat.beq 0 0) (bt (sOKs n (s1N K n (s1N K n s)) && Nat.beq 0 0) (bt (sOKs n (s1N K n (s1N K n (s1N K n s))) && Nat.beq 0 0)
    (bif (s14 K n s).q.st != 3 then some (.tuple #[.int .i64 0, .int .i64 0], oneH K n c (s14 K n s)) else bif (s14 K n s).q.e != 0 then some (.tuple #[.int .i64 (s14 K n s).q.e, .int .i64 0], oneH K n c (s14 K n s)) else some (.tuple #[.int .i64 0, .int .i64 (s14 K n s).q.num], oneH K n c (s14 K n s))))))
theorem one_treeO (w : Int) (cc : Cf) (n c : Nat) (l : List Int) (t : Int) (cf : Cf) (qw i gen st wd nx num e : Int) : (callV onEnv 60 39 [p0, pp1] (oneH (.op w cc) n c ⟨l, t, ⟨cf, qw, i, gen, st, wd, nx, num, e⟩⟩)).get = oneT (.op w cc) n c ⟨l, t, ⟨cf, qw, i, gen, st, wd, nx, num, e⟩⟩ := by kernel_rfl
theorem one_treeS (w m : Int) (n c : Nat) (l : List Int) (t : Int) (cf : Cf) (qw i gen st wd nx num e : Int) : (callV onEnv 60 39 [p0, pp1] (oneH (.sh w m) n c ⟨l, t, ⟨cf, qw, i, gen, st, wd, nx, num, e⟩⟩)).get = oneT (.sh w m) n c ⟨l, t, ⟨cf, qw, i, gen, st, wd, nx, num, e⟩⟩ := by kernel_rfl
def oneRg (g : Kd → Nat → S1 → S1) (K : Kd) (n c : Nat) (s : S1) : Value × List Go.Sx.Blk := (.tuple #[.int .i64 (ansE (g K n s).q), .int .i64 (ansN (g K n s).q)], oneH K n c (g K n s))
def oneR (K : Kd) (n c : Nat) (s : S1) : Value × List Go.Sx.Blk := oneRg s14 K n c s
theorem sOKs_N {K : Kd} {n : Nat} {s : S1} (h : sOKs n s = true) : sOKs n (s1N K n s) = true := by
  unfold sOKs at h ⊢
  rw [Bool.and_eq_true] at h ⊢
  exact ⟨okM_smem.trans h.1, sOK_sq h.2⟩
theorem oneT_eq {K : Kd} {n c : Nat} {s : S1} (h : sOKs n s = true) : oneT K n c s = some (oneR K n c s) := by
  have h1 := sOKs_N (K := K) h
  have h2 := sOKs_N (K := K) h1
  have h3 := sOKs_N (K := K) h2
  unfold oneT oneR oneRg ansE ansN
  rw [h, h1, h2, h3, show (true && Nat.beq 0 0) = true from rfl, bt_of rfl, bt_of rfl, bt_of rfl, bt_of rfl]
  cases (s14 K n s).q.st != 3 with
  | true => rfl
  | false => cases (s14 K n s).q.e != 0 <;> rfl
def oneOg (g : Kd → Nat → S1 → S1) : Orc := fun args lh => match args, lh with
  | [.pointer (some ⟨0, 0, none⟩), .pointer (some ⟨1, 0, none⟩)], [.cells true true [.slice (some ⟨2, 0, none⟩) n c, .int .i64 t], .cells true true [.int .i64 cw, .int .i64 cs, .int .i64 cst, .int .i64 cwt, .int .i64 cu, .int .i64 w, .int .i64 i, .int .i64 gen, .int .i64 st, .int .i64 wd, .int .i64 nx, .int .i64 num, .func (.func f) fa fc, .int .i64 e], .ints true true l, .cells true true [.int .i64 bw], .cells true true B] =>
    match fa.toList, fc.toList, B with
    | [], [.pointer (some ⟨3, 0, none⟩), .pointer (some ⟨4, 0, none⟩)], [.int .i64 bn] => .br (okM n l && sOK st && Nat.beq f fShut) (.ret (oneRg g (.sh bw bn) n c ⟨l, t, ⟨⟨cw, cs, cst, cwt, cu⟩, w, i, gen, st, wd, nx, num, e⟩⟩)) .bad
    | [], [.pointer (some ⟨3, 0, none⟩), .pointer (some ⟨4, 0, none⟩)], [.int .i64 b1, .int .i64 b2, .int .i64 b3, .int .i64 b4, .int .i64 b5] => .br (okM n l && sOK st && Nat.beq f fOpen) (.ret (oneRg g (.op bw ⟨b1, b2, b3, b4, b5⟩) n c ⟨l, t, ⟨⟨cw, cs, cst, cwt, cu⟩, w, i, gen, st, wd, nx, num, e⟩⟩)) .bad
    | _, _, _ => .bad
  | _, _ => .bad
def oneO : Orc := oneOg s14
theorem one_sound : SoundG KT Tryd.prog TT 39 oneO := by
  refine SoundG.of_run ⟨Tryd.func39, by kernel_rfl, by kernel_rfl⟩ rfl rfl onEnv_ok 60 fun args lh r hr => ?_
  unfold oneO oneOg at hr
  split at hr
  · rename_i n c t cw cs cst cwt cu w i gen st wd nx num f fa fc e l bw B
    split at hr
    · rename_i bn h1 h2
      obtain rfl : fa = #[] := Array.toList_inj.1 h1
      obtain rfl : fc = #[.pointer (some ⟨3, 0, none⟩), .pointer (some ⟨4, 0, none⟩)] := Array.toList_inj.1 h2
      rcases M.get_br_some hr with ⟨hc, hr2⟩ | ⟨_, hr2⟩ <;> clear hr
      · rw [Bool.and_eq_true] at hc
        obtain rfl := Nat.eq_of_beq_eq_true hc.2
        simp only [M.get_ret, Option.some.injEq] at hr2; subst hr2
        exact (one_treeS bw bn n c l t ⟨cw, cs, cst, cwt, cu⟩ w i gen st wd nx num e).trans (oneT_eq hc.1)
      · cases hr2
    · rename_i b1 b2 b3 b4 b5 h1 h2
      obtain rfl : fa = #[] := Array.toList_inj.1 h1
      obtain rfl : fc = #[.pointer (some ⟨3, 0, none⟩), .pointer (some ⟨4, 0, none⟩)] := Array.toList_inj.1 h2
      rcases M.get_br_some hr with ⟨hc, hr2⟩ | ⟨_, hr2⟩ <;> clear hr
      · rw [Bool.and_eq_true] at hc
        obtain rfl := Nat.eq_of_beq_eq_true hc.2
        simp only [M.get_ret, Option.some.injEq] at hr2; subst hr2
        exact (one_treeO bw ⟨b1, b2, b3, b4, b5⟩ n c l t ⟨cw, cs, cst, cwt, cu⟩ w i gen st wd nx num e).trans (oneT_eq hc.1)
      · cases hr2
    · cases hr
  · cases hr
noncomputable def smFns : List (FuncId × Func) := [(9, Tryd.f9), (8, Tryd.f8), (7, Tryd.f7), (36, Tryd.f36), (40, Tryd.f40), (38, Tryd.f38)]
theorem smFns_ok : ∀ e ∈ smFns, FnOK Tryd.prog e.1 e.2 :=
  fns_ok_cons ⟨Tryd.func9, by kernel_rfl, by kernel_rfl⟩ <| fns_ok_cons ⟨Tryd.func8, by kernel_rfl, by kernel_rfl⟩ <| fns_ok_cons ⟨Tryd.func7, by kernel_rfl, by kernel_rfl⟩ <| fns_ok_cons ⟨Tryd.func36, by kernel_rfl, by kernel_rfl⟩ <| fns_ok_cons ⟨Tryd.func40, by kernel_rfl, by kernel_rfl⟩ <| fns_ok_cons ⟨Tryd.func38, by kernel_rfl, by kernel_rfl⟩ <| fns_ok_nil rfl
def sm1g (g : Kd → Nat → S1 → S1) : List (FuncId × Orc) := [(33, awakeO), (39, frameM (oneOg g))] ++ streamOrcs ++ ([(34, frameM laidO), (41, frameM madeO), (30, frameM slotsO)] ++ memOrcs ++ confOrcs ++ wordOrcs ++ intsOrcs)
def sm1 : List (FuncId × Orc) := sm1g s14
theorem sm0_ok : Sounds Tryd.prog Tab ([(34, frameM laidO), (41, frameM madeO), (30, frameM slotsO)] ++ memOrcs ++ confOrcs ++ wordOrcs ++ intsOrcs) := sounds_append (sounds_append (sounds_append (sounds_append (sounds_cons (laid_sound.frame tab_kept) <| sounds_cons (made_sound.frame tab_kept) <| sounds_cons (slots_sound.frame tab_kept) sounds_nil) memOrcs_ok) confOrcs_ok) wordOrcs_ok) intsOrcs_ok
theorem sm1_ok : SoundsG KT Tryd.prog TT sm1 := sounds_appendG (sounds_appendG (sounds_consG awake_sound <| sounds_consG (one_sound.frame tt_kept) sounds_nilG) streamOrcs_ok) sm0_ok.tt
noncomputable def smEnvG (g : Kd → Nat → S1 → S1) : Env := mkEnv Tryd.prog smFns [slotEq] (sm1g g) []
noncomputable def smEnv : Env := smEnvG s14
theorem smEnv_ok (X : Nat → Prop) (w0 : World) (h0 : ∀ k, KT k → X k) (hB : Bnd X w0) (hT : TT w0) : EnvOK smEnv X w0 := mkEnv_okG slotEq_ok (by kernel_rfl) smFns_ok sm1_ok lpSounds_nilG h0 hB hT
/-- A loop that is not met. -/
theorem lpSound_badG {P : Program} {T : World → Prop} {K : Nat → Prop} {f : FuncId} {fn : Func} {c : Code} {id : Nat} (hf : P.funcs[f]? = some fn) (hb : fn.body = some c) (ho : (onlyBlk id c).isSome = true) : LpSoundG K P T f id (fun _ _ => .bad) :=
  ⟨fn, c, hf, hb, ho, fun X w0 h0 hB hT base s e s' hbs hs => by cases hs⟩
end Go.Proofs.YthfoljgaiincdaaDoor
