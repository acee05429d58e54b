
/- StreamMany: the pieces of a round. No condition of its own. -/
import Derived.Test.YthfoljgaiincdaaDoorStrManyP
import Derived.Test.YthfoljgaiincdaaDoorSxMf
namespace Go.Proofs.YthfoljgaiincdaaDoor
open Go.RowKit Go.Fld Go.Sx
set_option linter.unusedVariables false
set_option linter.unusedSimpArgs false
noncomputable def oneCo (s1 : S1) : Orc := fun args lh => match args, lh with
  | [.pointer (some ⟨0, 0, none⟩), .pointer (some ⟨1, 0, none⟩)], [.cells true true [.slice (some ⟨2, 0, none⟩) n c, .int .i64 t], .cells true true [.int .i64 cw, .int .i64 cs, .int .i64 cst, .int .i64 cwt, .int .i64 cu, .int .i64 w, .int .i64 i, .int .i64 gen, .int .i64 st, .int .i64 wd, .int .i64 nx, .int .i64 num, .func (.func f) fa fc, .int .i64 e], .ints true true l, .cells true true [.int .i64 bw], .cells true true B] =>
    match fa.toList, fc.toList, B with
    | [], [.pointer (some ⟨3, 0, none⟩), .pointer (some ⟨4, 0, none⟩)], [.int .i64 b1, .int .i64 b2, .int .i64 b3, .int .i64 b4, .int .i64 b5] => .br (okM n l && sOK st && Nat.beq f fOpen && sure (s14 (.op bw ⟨b1, b2, b3, b4, b5⟩) n ⟨l, t, ⟨⟨cw, cs, cst, cwt, cu⟩, w, i, gen, st, wd, nx, num, e⟩⟩ = s1)) (.ret (oneRg (fun _ _ _ => s1) (.op bw ⟨b1, b2, b3, b4, b5⟩) n c ⟨l, t, ⟨⟨cw, cs, cst, cwt, cu⟩, w, i, gen, st, wd, nx, num, e⟩⟩)) .bad
    | _, _, _ => .bad
  | _, _ => .bad
noncomputable def oneCs (s1 : S1) : Orc := fun args lh => match args, lh with
  | [.pointer (some ⟨0, 0, none⟩), .pointer (some ⟨1, 0, none⟩)], [.cells true true [.slice (some ⟨2, 0, none⟩) n c, .int .i64 t], .cells true true [.int .i64 cw, .int .i64 cs, .int .i64 cst, .int .i64 cwt, .int .i64 cu, .int .i64 w, .int .i64 i, .int .i64 gen, .int .i64 st, .int .i64 wd, .int .i64 nx, .int .i64 num, .func (.func f) fa fc, .int .i64 e], .ints true true l, .cells true true [.int .i64 bw], .cells true true B] =>
    match fa.toList, fc.toList, B with
    | [], [.pointer (some ⟨3, 0, none⟩), .pointer (some ⟨4, 0, none⟩)], [.int .i64 bn] => .br (okM n l && sOK st && Nat.beq f fShut && sure (s14 (.sh bw bn) n ⟨l, t, ⟨⟨cw, cs, cst, cwt, cu⟩, w, i, gen, st, wd, nx, num, e⟩⟩ = s1)) (.ret (oneRg (fun _ _ _ => s1) (.sh bw bn) n c ⟨l, t, ⟨⟨cw, cs, cst, cwt, cu⟩, w, i, gen, st, wd, nx, num, e⟩⟩)) .bad
    | _, _, _ => .bad
  | _, _ => .bad
theorem oneRg_eq {K : Kd} {n c : Nat} {s s1 : S1} (h : s14 K n s = s1) : oneR K n c s = oneRg (fun _ _ _ => s1) K n c s := by
  unfold oneR oneRg
  rw [h]
theorem oneCo_sound (s1 : S1) : SoundG KT Tryd.prog TT 39 (oneCo s1) := by
  refine SoundG.of_run ⟨Tryd.func39, by kernel_rfl, by kernel_rfl⟩ rfl rfl onEnv_ok 60 fun args lh r hr => ?_
  unfold oneCo at hr
  split at hr
  · rename_i n c t cw cs cst cwt cu w i gen st wd nx num f fa fc e l bw B
    split at hr
    · rename_i b1 b2 b3 b4 b5 h1 h2
      obtain rfl : fa = #[] := Array.toList_inj.1 h1
      obtain rfl : fc = #[.pointer (some ⟨3, 0, none⟩), .pointer (some ⟨4, 0, none⟩)] := Array.toList_inj.1 h2
      rcases M.get_br_some hr with ⟨hc, hr2⟩ | ⟨_, hr2⟩ <;> clear hr
      · rw [Bool.and_eq_true, Bool.and_eq_true] at hc
        obtain rfl := Nat.eq_of_beq_eq_true hc.1.2
        simp only [M.get_ret, Option.some.injEq] at hr2; subst hr2
        have hs := sure_iff.1 hc.2
        rw [← oneRg_eq hs]
        exact (one_treeO bw ⟨b1, b2, b3, b4, b5⟩ n c l t ⟨cw, cs, cst, cwt, cu⟩ w i gen st wd nx num e).trans (oneT_eq hc.1.1)
      · cases hr2
    · cases hr
  · cases hr
theorem oneCs_sound (s1 : S1) : SoundG KT Tryd.prog TT 39 (oneCs s1) := by
  refine SoundG.of_run ⟨Tryd.func39, by kernel_rfl, by kernel_rfl⟩ rfl rfl onEnv_ok 60 fun args lh r hr => ?_
  unfold oneCs at hr
  split at hr
  · rename_i n c t cw cs cst cwt cu w i gen st wd nx num f fa fc e l bw B
    split at hr
    · rename_i bn h1 h2
      obtain rfl : fa = #[] := Array.toList_inj.1 h1
      obtain rfl : fc = #[.pointer (some ⟨3, 0, none⟩), .pointer (some ⟨4, 0, none⟩)] := Array.toList_inj.1 h2
      rcases M.get_br_some hr with ⟨hc, hr2⟩ | ⟨_, hr2⟩ <;> clear hr
      · rw [Bool.and_eq_true, Bool.and_eq_true] at hc
        obtain rfl := Nat.eq_of_beq_eq_true hc.1.2
        simp only [M.get_ret, Option.some.injEq] at hr2; subst hr2
        have hs := sure_iff.1 hc.2
        rw [← oneRg_eq hs]
        exact (one_treeS bw bn n c l t ⟨cw, cs, cst, cwt, cu⟩ w i gen st wd nx num e).trans (oneT_eq hc.1.1)
      · cases hr2
    · cases hr
  · cases hr
def smC (f : Orc) : List (FuncId × Orc) := [(39, frameM f)] ++ sm1
noncomputable def smEnvC (f : Orc) : Env := mkEnv Tryd.prog smFns [slotEq] (smC f) []
theorem smEnvC_ok {f : Orc} (hf : SoundG KT Tryd.prog TT 39 f) (X : Nat → Prop) (w0 : World) (h0 : ∀ k, KT k → X k) (hB : Bnd X w0) (hT : TT w0) : EnvOK (smEnvC f) X w0 := mkEnv_okG slotEq_ok (by kernel_rfl) smFns_ok (sounds_appendG (sounds_consG (hf.frame tt_kept) sounds_nilG) sm1_ok) lpSounds_nilG h0 hB hT
noncomputable def smBody : Code := Tryd.f8.body.getD .skip
noncomputable def smRound : Code := lpB (blkAt 0 smBody)
theorem sm_loop : blkAt 0 smBody = .loop smRound := by kernel_rfl
def blkIn : Code → Code
  | .block _ b => b
  | c => c
noncomputable def smB : Code := blkIn (cutA 0 (cutZ 0 smRound))
theorem sm_shape : smRound = .seq (cutA 0 smRound) (.seq (.block 1 (.seq (cutA 0 smB) (cutZ 0 smB))) (cutZ 0 (cutZ 0 smRound))) := by kernel_rfl
structure Tu where
  nt : Nat
  ct : Nat
  gi : Nat → Nat → Int
  gb : Nat → Nat → Bool
abbrev Tu.row (T : Tu) : Go.Sx.Blk := .rows false false 1 T.nt ⟨[.it .u8], T.gi, T.gb⟩
abbrev sP (k : Nat) : Value := .pointer (some ⟨k, 0, none⟩)
def ixT {α : Type} (i : Int) (n : Nat) (K : Option α) : Option α := bif inRange i n then bif Nat.blt i.toNat n then K else none else none
theorem ixT_in {α : Type} {i n : Nat} {K : Option α} (h : i < n) : ixT (i : Int) n K = K := by
  unfold ixT
  rw [show inRange (i : Int) n = true by unfold inRange; simp; omega, Int.toNat_natCast, show Nat.blt i n = true by rw [Nat.blt_eq]; omega]; rfl
abbrev smV (T : Tu) (many i : Int) : List Value := [.slice (some ⟨0, 0, some 2⟩) T.nt T.ct, .bool false, .bool true, sP 1, sP 2, .slice (some ⟨3, 0, none⟩) 8 8, .int .i64 many, .int .i64 i]
abbrev smH (T : Tu) (S t : Int) (l : List Int) (b0 b1 b2 b3 b4 b5 b6 b7 : Bool) : List Go.Sx.Blk := [T.row, cB (mcf S), .cells true true [.slice (some ⟨4, 0, none⟩) 6 6, .int .i64 t], .cells true true [.bool b0, .bool b1, .bool b2, .bool b3, .bool b4, .bool b5, .bool b6, .bool b7], .ints true true l]
abbrev smS (S : Int) (l' : List Int) (t' wd nx n e : Int) : S1 := ⟨l', t', ⟨mcf S, 0, 0, 1, 3, wd, nx, n, e⟩⟩
abbrev smO := Option (Exit × List Value × List Go.Sx.Blk)
abbrev smRet (T : Tu) (S t : Int) (l : List Int) (b0 b1 b2 b3 b4 b5 b6 b7 : Bool) (many i : Int) : smO := some (.ret, smV T many i, smH T S t l b0 b1 b2 b3 b4 b5 b6 b7)
abbrev smGo (T : Tu) (S t : Int) (l : List Int) (b0 b1 b2 b3 b4 b5 b6 b7 : Bool) (many i : Int) : smO := some (.normal, smV T many i, smH T S t l b0 b1 b2 b3 b4 b5 b6 b7)
theorem sm_treeA (T : Tu) (S t : Int) (l : List Int) (b0 b1 b2 b3 b4 b5 b6 b7 : Bool) (many i : Int) : (roundV smEnv 60 noLps 175 [1, 4, 5, 6, 7, 8, 9, 10] 1 (cutA 0 smRound) (unpack 175 [1, 4, 5, 6, 7, 8, 9, 10] (smV T many i) (smH T S t l b0 b1 b2 b3 b4 b5 b6 b7))).get =
    bif decide (i < (T.nt : Int)) then smGo T S t l b0 b1 b2 b3 b4 b5 b6 b7 many i else some (.exit 0, smV T many i, smH T S t l b0 b1 b2 b3 b4 b5 b6 b7) := by kernel_rfl
theorem sm_treeZ (T : Tu) (S t : Int) (l : List Int) (b0 b1 b2 b3 b4 b5 b6 b7 : Bool) (many i : Int) : (roundV smEnv 60 noLps 175 [1, 4, 5, 6, 7, 8, 9, 10] 1 (cutZ 0 (cutZ 0 smRound)) (unpack 175 [1, 4, 5, 6, 7, 8, 9, 10] (smV T many i) (smH T S t l b0 b1 b2 b3 b4 b5 b6 b7))).get = smGo T S t l b0 b1 b2 b3 b4 b5 b6 b7 many (w64 (i + 1)) := by kernel_rfl
def idx8 {α : Type} (v : Int) (x0 x1 x2 x3 x4 x5 x6 x7 : Option α) : Option α :=
  bif decide (v = 7) then x7 else bif decide (v = 6) then x6 else bif decide (v = 5) then x5 else bif decide (v = 4) then x4 else bif decide (v = 3) then x3 else bif decide (v = 2) then x2 else bif decide (v = 1) then x1 else bif decide (v = 0) then x0 else none
noncomputable abbrev smAskO (S t : Int) (l : List Int) (s1 : S1) : Bool := okM 6 l && true && Nat.beq 0 0 && sure (s14 (.op 0 (mcf S)) 6 ⟨l, t, q0M S⟩ = s1)
noncomputable abbrev smAskS (S t : Int) (l : List Int) (v : Int) (s1 : S1) : Bool := okM 6 l && true && Nat.beq 0 0 && sure (s14 (.sh 0 (w64 v)) 6 ⟨l, t, q0M S⟩ = s1)
theorem sm_full (T : Tu) (S t : Int) (l : List Int) (b0 b1 b2 b3 b4 b5 b6 b7 : Bool) (many i : Int) (l' : List Int) (t' wd nx : Int) : (roundV (smEnvC (oneCo (smS S l' t' wd nx 0 10))) 60 noLps 175 [1, 4, 5, 6, 7, 8, 9, 10] 1 (cutA 0 smB) (unpack 175 [1, 4, 5, 6, 7, 8, 9, 10] (smV T many i) (smH T S t l b0 b1 b2 b3 b4 b5 b6 b7))).get =
    ixT i T.nt (bif decide ((T.gi i.toNat 0) ≥ 8) then bt (smAskO S t l (smS S l' t' wd nx 0 10)) (bif !(false == decide (many < S)) then smRet T S t' l' b0 b1 b2 b3 b4 b5 b6 b7 many i else smGo T S t' l' b0 b1 b2 b3 b4 b5 b6 b7 (many) i) else ixT i T.nt none) := by kernel_rfl
theorem sm_open0 (T : Tu) (S t : Int) (l : List Int) (b0 b1 b2 b3 b4 b5 b6 b7 : Bool) (many i : Int) (l' : List Int) (t' wd nx : Int) : (roundV (smEnvC (oneCo (smS S l' t' wd nx 0 0))) 60 noLps 175 [1, 4, 5, 6, 7, 8, 9, 10] 1 (cutA 0 smB) (unpack 175 [1, 4, 5, 6, 7, 8, 9, 10] (smV T many i) (smH T S t l b0 b1 b2 b3 b4 b5 b6 b7))).get =
    ixT i T.nt (bif decide ((T.gi i.toNat 0) ≥ 8) then bt (smAskO S t l (smS S l' t' wd nx 0 0)) (bif !(true == decide (many < S)) then smRet T S t' l' b0 b1 b2 b3 b4 b5 b6 b7 many i else bif b0 then smRet T S t' l' b0 b1 b2 b3 b4 b5 b6 b7 many i else smGo T S t' l' true b1 b2 b3 b4 b5 b6 b7 (w64 (many + 1)) i) else ixT i T.nt none) := by kernel_rfl
theorem sm_open1 (T : Tu) (S t : Int) (l : List Int) (b0 b1 b2 b3 b4 b5 b6 b7 : Bool) (many i : Int) (l' : List Int) (t' wd nx : Int) : (roundV (smEnvC (oneCo (smS S l' t' wd nx 1 0))) 60 noLps 175 [1, 4, 5, 6, 7, 8, 9, 10] 1 (cutA 0 smB) (unpack 175 [1, 4, 5, 6, 7, 8, 9, 10] (smV T many i) (smH T S t l b0 b1 b2 b3 b4 b5 b6 b7))).get =
    ixT i T.nt (bif decide ((T.gi i.toNat 0) ≥ 8) then bt (smAskO S t l (smS S l' t' wd nx 1 0)) (bif !(true == decide (many < S)) then smRet T S t' l' b0 b1 b2 b3 b4 b5 b6 b7 many i else bif b1 then smRet T S t' l' b0 b1 b2 b3 b4 b5 b6 b7 many i else smGo T S t' l' b0 true b2 b3 b4 b5 b6 b7 (w64 (many + 1)) i) else ixT i T.nt none) := by kernel_rfl
theorem sm_open2 (T : Tu) (S t : Int) (l : List Int) (b0 b1 b2 b3 b4 b5 b6 b7 : Bool) (many i : Int) (l' : List Int) (t' wd nx : Int) : (roundV (smEnvC (oneCo (smS S l' t' wd nx 2 0))) 60 noLps 175 [1, 4, 5, 6, 7, 8, 9, 10] 1 (cutA 0 smB) (unpack 175 [1, 4, 5, 6, 7, 8, 9, 10] (smV T many i) (smH T S t l b0 b1 b2 b3 b4 b5 b6 b7))).get =
    ixT i T.nt (bif decide ((T.gi i.toNat 0) ≥ 8) then bt (smAskO S t l (smS S l' t' wd nx 2 0)) (bif !(true == decide (many < S)) then smRet T S t' l' b0 b1 b2 b3 b4 b5 b6 b7 many i else bif b2 then smRet T S t' l' b0 b1 b2 b3 b4 b5 b6 b7 many i else smGo T S t' l' b0 b1 true b3 b4 b5 b6 b7 (w64 (many + 1)) i) else ixT i T.nt none) := by kernel_rfl
theorem sm_open3 (T : Tu) (S t : Int) (l : List Int) (b0 b1 b2 b3 b4 b5 b6 b7 : Bool) (many i : Int) (l' : List Int) (t' wd nx : Int) : (roundV (smEnvC (oneCo (smS S l' t' wd nx 3 0))) 60 noLps 175 [1, 4, 5, 6, 7, 8, 9, 10] 1 (cutA 0 smB) (unpack 175 [1, 4, 5, 6, 7, 8, 9, 10] (smV T many i) (smH T S t l b0 b1 b2 b3 b4 b5 b6 b7))).get =
    ixT i T.nt (bif decide ((T.gi i.toNat 0) ≥ 8) then bt (smAskO S t l (smS S l' t' wd nx 3 0)) (bif !(true == decide (many < S)) then smRet T S t' l' b0 b1 b2 b3 b4 b5 b6 b7 many i else bif b3 then smRet T S t' l' b0 b1 b2 b3 b4 b5 b6 b7 many i else smGo T S t' l' b0 b1 b2 true b4 b5 b6 b7 (w64 (many + 1)) i) else ixT i T.nt none) := by kernel_rfl
theorem sm_open4 (T : Tu) (S t : Int) (l : List Int) (b0 b1 b2 b3 b4 b5 b6 b7 : Bool) (many i : Int) (l' : List Int) (t' wd nx : Int) : (roundV (smEnvC (oneCo (smS S l' t' wd nx 4 0))) 60 noLps 175 [1, 4, 5, 6, 7, 8, 9, 10] 1 (cutA 0 smB) (unpack 175 [1, 4, 5, 6, 7, 8, 9, 10] (smV T many i) (smH T S t l b0 b1 b2 b3 b4 b5 b6 b7))).get =
    ixT i T.nt (bif decide ((T.gi i.toNat 0) ≥ 8) then bt (smAskO S t l (smS S l' t' wd nx 4 0)) (bif !(true == decide (many < S)) then smRet T S t' l' b0 b1 b2 b3 b4 b5 b6 b7 many i else bif b4 then smRet T S t' l' b0 b1 b2 b3 b4 b5 b6 b7 many i else smGo T S t' l' b0 b1 b2 b3 true b5 b6 b7 (w64 (many + 1)) i) else ixT i T.nt none) := by kernel_rfl
theorem sm_open5 (T : Tu) (S t : Int) (l : List Int) (b0 b1 b2 b3 b4 b5 b6 b7 : Bool) (many i : Int) (l' : List Int) (t' wd nx : Int) : (roundV (smEnvC (oneCo (smS S l' t' wd nx 5 0))) 60 noLps 175 [1, 4, 5, 6, 7, 8, 9, 10] 1 (cutA 0 smB) (unpack 175 [1, 4, 5, 6, 7, 8, 9, 10] (smV T many i) (smH T S t l b0 b1 b2 b3 b4 b5 b6 b7))).get =
    ixT i T.nt (bif decide ((T.gi i.toNat 0) ≥ 8) then bt (smAskO S t l (smS S l' t' wd nx 5 0)) (bif !(true == decide (many < S)) then smRet T S t' l' b0 b1 b2 b3 b4 b5 b6 b7 many i else bif b5 then smRet T S t' l' b0 b1 b2 b3 b4 b5 b6 b7 many i else smGo T S t' l' b0 b1 b2 b3 b4 true b6 b7 (w64 (many + 1)) i) else ixT i T.nt none) := by kernel_rfl
theorem sm_open6 (T : Tu) (S t : Int) (l : List Int) (b0 b1 b2 b3 b4 b5 b6 b7 : Bool) (many i : Int) (l' : List Int) (t' wd nx : Int) : (roundV (smEnvC (oneCo (smS S l' t' wd nx 6 0))) 60 noLps 175 [1, 4, 5, 6, 7, 8, 9, 10] 1 (cutA 0 smB) (unpack 175 [1, 4, 5, 6, 7, 8, 9, 10] (smV T many i) (smH T S t l b0 b1 b2 b3 b4 b5 b6 b7))).get =
    ixT i T.nt (bif decide ((T.gi i.toNat 0) ≥ 8) then bt (smAskO S t l (smS S l' t' wd nx 6 0)) (bif !(true == decide (many < S)) then smRet T S t' l' b0 b1 b2 b3 b4 b5 b6 b7 many i else bif b6 then smRet T S t' l' b0 b1 b2 b3 b4 b5 b6 b7 many i else smGo T S t' l' b0 b1 b2 b3 b4 b5 true b7 (w64 (many + 1)) i) else ixT i T.nt none) := by kernel_rfl
theorem sm_open7 (T : Tu) (S t : Int) (l : List Int) (b0 b1 b2 b3 b4 b5 b6 b7 : Bool) (many i : Int) (l' : List Int) (t' wd nx : Int) : (roundV (smEnvC (oneCo (smS S l' t' wd nx 7 0))) 60 noLps 175 [1, 4, 5, 6, 7, 8, 9, 10] 1 (cutA 0 smB) (unpack 175 [1, 4, 5, 6, 7, 8, 9, 10] (smV T many i) (smH T S t l b0 b1 b2 b3 b4 b5 b6 b7))).get =
    ixT i T.nt (bif decide ((T.gi i.toNat 0) ≥ 8) then bt (smAskO S t l (smS S l' t' wd nx 7 0)) (bif !(true == decide (many < S)) then smRet T S t' l' b0 b1 b2 b3 b4 b5 b6 b7 many i else bif b7 then smRet T S t' l' b0 b1 b2 b3 b4 b5 b6 b7 many i else smGo T S t' l' b0 b1 b2 b3 b4 b5 b6 true (w64 (many + 1)) i) else ixT i T.nt none) := by kernel_rfl
theorem sm_none (T : Tu) (S t : Int) (l : List Int) (b0 b1 b2 b3 b4 b5 b6 b7 : Bool) (many i : Int) (l' : List Int) (t' wd nx : Int) : (roundV (smEnvC (oneCs (smS S l' t' wd nx 0 11))) 60 noLps 175 [1, 4, 5, 6, 7, 8, 9, 10] 1 (cutA 0 smB) (unpack 175 [1, 4, 5, 6, 7, 8, 9, 10] (smV T many i) (smH T S t l b0 b1 b2 b3 b4 b5 b6 b7))).get =
    ixT i T.nt (bif decide ((T.gi i.toNat 0) ≥ 8) then none else ixT i T.nt (bt (smAskS S t l (T.gi i.toNat 0) (smS S l' t' wd nx 0 11)) (ixT i T.nt (idx8 (T.gi i.toNat 0) (bif !(false == b0) then smRet T S t' l' b0 b1 b2 b3 b4 b5 b6 b7 many i else smGo T S t' l' b0 b1 b2 b3 b4 b5 b6 b7 (many) i) (bif !(false == b1) then smRet T S t' l' b0 b1 b2 b3 b4 b5 b6 b7 many i else smGo T S t' l' b0 b1 b2 b3 b4 b5 b6 b7 (many) i) (bif !(false == b2) then smRet T S t' l' b0 b1 b2 b3 b4 b5 b6 b7 many i else smGo T S t' l' b0 b1 b2 b3 b4 b5 b6 b7 (many) i) (bif !(false == b3) then smRet T S t' l' b0 b1 b2 b3 b4 b5 b6 b7 many i else smGo T S t' l' b0 b1 b2 b3 b4 b5 b6 b7 (many) i) (bif !(false == b4) then smRet T S t' l' b0 b1 b2 b3 b4 b5 b6 b7 many i else smGo T S t' l' b0 b1 b2 b3 b4 b5 b6 b7 (many) i) (bif !(false == b5) then smRet T S t' l' b0 b1 b2 b3 b4 b5 b6 b7 many i else smGo T S t' l' b0 b1 b2 b3 b4 b5 b6 b7 (many) i) (bif !(false == b6) then smRet T S t' l' b0 b1 b2 b3 b4 b5 b6 b7 many i else smGo T S t' l' b0 b1 b2 b3 b4 b5 b6 b7 (many) i) (bif !(false == b7) then smRet T S t' l' b0 b1 b2 b3 b4 b5 b6 b7 many i else smGo T S t' l' b0 b1 b2 b3 b4 b5 b6 b7 (many) i))))) := by kernel_rfl
theorem sm_shut (T : Tu) (S t : Int) (l : List Int) (b0 b1 b2 b3 b4 b5 b6 b7 : Bool) (many i : Int) (l' : List Int) (t' wd nx n : Int) : (roundV (smEnvC (oneCs (smS S l' t' wd nx n 0))) 60 noLps 175 [1, 4, 5, 6, 7, 8, 9, 10] 1 (cutA 0 smB) (unpack 175 [1, 4, 5, 6, 7, 8, 9, 10] (smV T many i) (smH T S t l b0 b1 b2 b3 b4 b5 b6 b7))).get =
    ixT i T.nt (bif decide ((T.gi i.toNat 0) ≥ 8) then none else ixT i T.nt (bt (smAskS S t l (T.gi i.toNat 0) (smS S l' t' wd nx n 0)) (ixT i T.nt (idx8 (T.gi i.toNat 0) (bif !(true == b0) then smRet T S t' l' b0 b1 b2 b3 b4 b5 b6 b7 many i else ixT i T.nt (bif n != w64 (T.gi i.toNat 0) then smRet T S t' l' b0 b1 b2 b3 b4 b5 b6 b7 many i else ixT i T.nt (idx8 (T.gi i.toNat 0) (smGo T S t' l' false b1 b2 b3 b4 b5 b6 b7 (w64 (many - 1)) i) (smGo T S t' l' b0 false b2 b3 b4 b5 b6 b7 (w64 (many - 1)) i) (smGo T S t' l' b0 b1 false b3 b4 b5 b6 b7 (w64 (many - 1)) i) (smGo T S t' l' b0 b1 b2 false b4 b5 b6 b7 (w64 (many - 1)) i) (smGo T S t' l' b0 b1 b2 b3 false b5 b6 b7 (w64 (many - 1)) i) (smGo T S t' l' b0 b1 b2 b3 b4 false b6 b7 (w64 (many - 1)) i) (smGo T S t' l' b0 b1 b2 b3 b4 b5 false b7 (w64 (many - 1)) i) (smGo T S t' l' b0 b1 b2 b3 b4 b5 b6 false (w64 (many - 1)) i)))) (bif !(true == b1) then smRet T S t' l' b0 b1 b2 b3 b4 b5 b6 b7 many i else ixT i T.nt (bif n != w64 (T.gi i.toNat 0) then smRet T S t' l' b0 b1 b2 b3 b4 b5 b6 b7 many i else ixT i T.nt (idx8 (T.gi i.toNat 0) (smGo T S t' l' false b1 b2 b3 b4 b5 b6 b7 (w64 (many - 1)) i) (smGo T S t' l' b0 false b2 b3 b4 b5 b6 b7 (w64 (many - 1)) i) (smGo T S t' l' b0 b1 false b3 b4 b5 b6 b7 (w64 (many - 1)) i) (smGo T S t' l' b0 b1 b2 false b4 b5 b6 b7 (w64 (many - 1)) i) (smGo T S t' l' b0 b1 b2 b3 false b5 b6 b7 (w64 (many - 1)) i) (smGo T S t' l' b0 b1 b2 b3 b4 false b6 b7 (w64 (many - 1)) i) (smGo T S t' l' b0 b1 b2 b3 b4 b5 false b7 (w64 (many - 1)) i) (smGo T S t' l' b0 b1 b2 b3 b4 b5 b6 false (w64 (many - 1)) i)))) (bif !(true == b2) then smRet T S t' l' b0 b1 b2 b3 b4 b5 b6 b7 many i else ixT i T.nt (bif n != w64 (T.gi i.toNat 0) then smRet T S t' l' b0 b1 b2 b3 b4 b5 b6 b7 many i else ixT i T.nt (idx8 (T.gi i.toNat 0) (smGo T S t' l' false b1 b2 b3 b4 b5 b6 b7 (w64 (many - 1)) i) (smGo T S t' l' b0 false b2 b3 b4 b5 b6 b7 (w64 (many - 1)) i) (smGo T S t' l' b0 b1 false b3 b4 b5 b6 b7 (w64 (many - 1)) i) (smGo T S t' l' b0 b1 b2 false b4 b5 b6 b7 (w64 (many - 1)) i) (smGo T S t' l' b0 b1 b2 b3 false b5 b6 b7 (w64 (many - 1)) i) (smGo T S t' l' b0 b1 b2 b3 b4 false b6 b7 (w64 (many - 1)) i) (smGo T S t' l' b0 b1 b2 b3 b4 b5 false b7 (w64 (many - 1)) i) (smGo T S t' l' b0 b1 b2 b3 b4 b5 b6 false (w64 (many - 1)) i)))) (bif !(true == b3) then smRet T S t' l' b0 b1 b2 b3 b4 b5 b6 b7 many i else ixT i T.nt (bif n != w64 (T.gi i.toNat 0) then smRet T S t' l' b0 b1 b2 b3 b4 b5 b6 b7 many i else ixT i T.nt (idx8 (T.gi i.toNat 0) (smGo T S t' l' false b1 b2 b3 b4 b5 b6 b7 (w64 (many - 1)) i) (smGo T S t' l' b0 false b2 b3 b4 b5 b6 b7 (w64 (many - 1)) i) (smGo T S t' l' b0 b1 false b3 b4 b5 b6 b7 (w64 (many - 1)) i) (smGo T S t' l' b0 b1 b2 false b4 b5 b6 b7 (w64 (many - 1)) i) (smGo T S t' l' b0 b1 b2 b3 false b5 b6 b7 (w64 (many - 1)) i) (smGo T S t' l' b0 b1 b2 b3 b4 false b6 b7 (w64 (many - 1)) i) (smGo T S t' l' b0 b1 b2 b3 b4 b5 false b7 (w64 (many - 1)) i) (smGo T S t' l' b0 b1 b2 b3 b4 b5 b6 false (w64 (many - 1)) i)))) (bif !(true == b4) then smRet T S t' l' b0 b1 b2 b3 b4 b5 b6 b7 many i else ixT i T.nt (bif n != w64 (T.gi i.toNat 0) then smRet T S t' l' b0 b1 b2 b3 b4 b5 b6 b7 many i else ixT i T.nt (idx8 (T.gi i.toNat 0) (smGo T S t' l' false b1 b2 b3 b4 b5 b6 b7 (w64 (many - 1)) i) (smGo T S t' l' b0 false b2 b3 b4 b5 b6 b7 (w64 (many - 1)) i) (smGo T S t' l' b0 b1 false b3 b4 b5 b6 b7 (w64 (many - 1)) i) (smGo T S t' l' b0 b1 b2 false b4 b5 b6 b7 (w64 (many - 1)) i) (smGo T S t' l' b0 b1 b2 b3 false b5 b6 b7 (w64 (many - 1)) i) (smGo T S t' l' b0 b1 b2 b3 b4 false b6 b7 (w64 (many - 1)) i) (smGo T S t' l' b0 b1 b2 b3 b4 b5 false b7 (w64 (many - 1)) i) (smGo T S t' l' b0 b1 b2 b3 b4 b5 b6 false (w64 (many - 1)) i)))) (bif !(true == b5) then smRet T S t' l' b0 b1 b2 b3 b4 b5 b6 b7 many i else ixT i T.nt (bif n != w64 (T.gi i.toNat 0) then smRet T S t' l' b0 b1 b2 b3 b4 b5 b6 b7 many i else ixT i T.nt (idx8 (T.gi i.toNat 0) (smGo T S t' l' false b1 b2 b3 b4 b5 b6 b7 (w64 (many - 1)) i) (smGo T S t' l' b0 false b2 b3 b4 b5 b6 b7 (w64 (many - 1)) i) (smGo T S t' l' b0 b1 false b3 b4 b5 b6 b7 (w64 (many - 1)) i) (smGo T S t' l' b0 b1 b2 false b4 b5 b6 b7 (w64 (many - 1)) i) (smGo T S t' l' b0 b1 b2 b3 false b5 b6 b7 (w64 (many - 1)) i) (smGo T S t' l' b0 b1 b2 b3 b4 false b6 b7 (w64 (many - 1)) i) (smGo T S t' l' b0 b1 b2 b3 b4 b5 false b7 (w64 (many - 1)) i) (smGo T S t' l' b0 b1 b2 b3 b4 b5 b6 false (w64 (many - 1)) i)))) (bif !(true == b6) then smRet T S t' l' b0 b1 b2 b3 b4 b5 b6 b7 many i else ixT i T.nt (bif n != w64 (T.gi i.toNat 0) then smRet T S t' l' b0 b1 b2 b3 b4 b5 b6 b7 many i else ixT i T.nt (idx8 (T.gi i.toNat 0) (smGo T S t' l' false b1 b2 b3 b4 b5 b6 b7 (w64 (many - 1)) i) (smGo T S t' l' b0 false b2 b3 b4 b5 b6 b7 (w64 (many - 1)) i) (smGo T S t' l' b0 b1 false b3 b4 b5 b6 b7 (w64 (many - 1)) i) (smGo T S t' l' b0 b1 b2 false b4 b5 b6 b7 (w64 (many - 1)) i) (smGo T S t' l' b0 b1 b2 b3 false b5 b6 b7 (w64 (many - 1)) i) (smGo T S t' l' b0 b1 b2 b3 b4 false b6 b7 (w64 (many - 1)) i) (smGo T S t' l' b0 b1 b2 b3 b4 b5 false b7 (w64 (many - 1)) i) (smGo T S t' l' b0 b1 b2 b3 b4 b5 b6 false (w64 (many - 1)) i)))) (bif !(true == b7) then smRet T S t' l' b0 b1 b2 b3 b4 b5 b6 b7 many i else ixT i T.nt (bif n != w64 (T.gi i.toNat 0) then smRet T S t' l' b0 b1 b2 b3 b4 b5 b6 b7 many i else ixT i T.nt (idx8 (T.gi i.toNat 0) (smGo T S t' l' false b1 b2 b3 b4 b5 b6 b7 (w64 (many - 1)) i) (smGo T S t' l' b0 false b2 b3 b4 b5 b6 b7 (w64 (many - 1)) i) (smGo T S t' l' b0 b1 false b3 b4 b5 b6 b7 (w64 (many - 1)) i) (smGo T S t' l' b0 b1 b2 false b4 b5 b6 b7 (w64 (many - 1)) i) (smGo T S t' l' b0 b1 b2 b3 false b5 b6 b7 (w64 (many - 1)) i) (smGo T S t' l' b0 b1 b2 b3 b4 false b6 b7 (w64 (many - 1)) i) (smGo T S t' l' b0 b1 b2 b3 b4 b5 false b7 (w64 (many - 1)) i) (smGo T S t' l' b0 b1 b2 b3 b4 b5 b6 false (w64 (many - 1)) i)))))))) := by kernel_rfl
def bitX (x : Int) (k : Nat) : Bool := bits .and .i64 (x.fdiv (2 ^ min k 64)) 1 == 1
theorem sm_rest (T : Tu) (S t : Int) (l : List Int) (b0 b1 b2 b3 b4 b5 b6 b7 : Bool) (many i : Int) : (roundV smEnv 60 noLps 175 [1, 4, 5, 6, 7, 8, 9, 10] 1 (cutZ 0 smB) (unpack 175 [1, 4, 5, 6, 7, 8, 9, 10] (smV T many i) (smH T S t l b0 b1 b2 b3 b4 b5 b6 b7))).get =
    bt (okM 6 l) (bt (rightC (mcf S) && okM 6 l && Nat.beq 6 6) (bif !(bitX (slD (mcf S) l 0).str 0 == b0) then smRet T S t l b0 b1 b2 b3 b4 b5 b6 b7 many i else bif !(bitX (slD (mcf S) l 0).str 1 == b1) then smRet T S t l b0 b1 b2 b3 b4 b5 b6 b7 many i else bif !(bitX (slD (mcf S) l 0).str 2 == b2) then smRet T S t l b0 b1 b2 b3 b4 b5 b6 b7 many i else bif !(bitX (slD (mcf S) l 0).str 3 == b3) then smRet T S t l b0 b1 b2 b3 b4 b5 b6 b7 many i else bif !(bitX (slD (mcf S) l 0).str 4 == b4) then smRet T S t l b0 b1 b2 b3 b4 b5 b6 b7 many i else bif !(bitX (slD (mcf S) l 0).str 5 == b5) then smRet T S t l b0 b1 b2 b3 b4 b5 b6 b7 many i else bif !(bitX (slD (mcf S) l 0).str 6 == b6) then smRet T S t l b0 b1 b2 b3 b4 b5 b6 b7 many i else bif !(bitX (slD (mcf S) l 0).str 7 == b7) then smRet T S t l b0 b1 b2 b3 b4 b5 b6 b7 many i else smGo T S t l b0 b1 b2 b3 b4 b5 b6 b7 many i)) := by kernel_rfl
end Go.Proofs.YthfoljgaiincdaaDoor
