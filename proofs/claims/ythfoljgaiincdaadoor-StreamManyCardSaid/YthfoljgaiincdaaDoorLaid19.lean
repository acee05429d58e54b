
/- laid, and writes, of a law's package. No condition of its own. -/
import Derived.Test.YthfoljgaiincdaaDoorRefWrites
namespace Go.Proofs.YthfoljgaiincdaaDoor
open Go.RowKit Go.Fld Go.Sx
set_option linter.unusedVariables false
set_option linter.unusedSimpArgs false
noncomputable def laidFns : List (FuncId × Func) := [(34, Tryd.f34)]
theorem laidFns_ok : ∀ e ∈ laidFns, FnOK Tryd.prog e.1 e.2 := fns_ok_cons ⟨Tryd.func34, by kernel_rfl, by kernel_rfl⟩ <| fns_ok_nil rfl
def laid0 : List (FuncId × Orc) := memOrcs ++ confOrcs
theorem laid0_ok : Sounds Tryd.prog Tab laid0 := sounds_append memOrcs_ok confOrcs_ok
noncomputable def laid0Env : Env := mkEnv Tryd.prog laidFns [] laid0 []
theorem laid0Env_ok (X : Nat → Prop) (w0 : World) (h0 : X 0) (hB : Bnd X w0) (hT : Tab w0) : EnvOK laid0Env X w0 := mkEnv_ok (fun e he => by cases he) (by kernel_rfl) laidFns_ok laid0_ok lpSounds_nil h0 hB hT
noncomputable def laidBody : Code := Tryd.f34.body.getD .skip
noncomputable def laidRound : Code := lpB (blkAt 0 laidBody)
theorem laid_loop : blkAt 0 laidBody = .loop laidRound := by kernel_rfl
abbrev laidV (s1 : Bool) (n c : Nat) (i : Int) : List Value := [slV s1 0 n c, .pointer (some ⟨1, 0, none⟩), .int .i64 i]
abbrev laidL (o w : Bool) (l : List Int) (N C : Nat) (t : Int) (m : List Int) : List Go.Sx.Blk := .ints o w l :: memAt 2 N C t m
def laidT (s1 o w : Bool) (n c N C : Nat) (l m : List Int) (t i : Int) : Option (Exit × List Value × List Go.Sx.Blk) :=
  bif decide (i < (n : Int)) then ixM s1 i n l (bif okM N m then some (.normal, laidV s1 n c (w64 (i + 1)), laidL o w l N C (tcS N i t) (stS N m i (l.getD (ixB s1 i) 0))) else none)
  else some (.exit 0, laidV s1 n c i, laidL o w l N C t m)
theorem laid_tree (s1 o w : Bool) (n c N C : Nat) (l m : List Int) (t i : Int) :
    (roundV laid0Env 30 noLps 33 [1, 5, 7] 1 laidRound (unpack 33 [1, 5, 7] (laidV s1 n c i) (laidL o w l N C t m))).get = laidT s1 o w n c N C l m t i := by
  cases s1 <;> kernel_rfl
theorem stS_step {l m : List Int} {i : Nat} (h : m.length = l.length) (hi : i < l.length) : stS l.length (l.take i ++ m.drop i) i (l.getD i 0) = l.take (i + 1) ++ m.drop (i + 1) := by
  unfold stS inR
  rw [if_pos (by simp; omega)]
  have h1 : (l.take i).length = i := by simp; omega
  rw [Int.toNat_natCast, List.set_append_right _ _ (by omega), h1, Nat.sub_self]
  have e : m.drop i = m[i]'(by omega) :: m.drop (i + 1) := List.drop_eq_getElem_cons (by omega)
  rw [e, List.set_cons_zero, List.getD_eq_getElem?_getD, List.getElem?_eq_getElem hi, Option.getD_some, ← List.take_append_getElem hi, List.append_assoc]; rfl
theorem laid_rounds {X : Nat → Prop} {w0 : World} (hE : EnvOK laid0Env X w0) (s1 o w : Bool) (n c C : Nat) (l m : List Int) (h1 : n = l.length) (h2 : m.length = l.length) (h3 : 0 < n) (h4 : n ≤ 1073741824) : ∀ (k i : Nat), i + k = n →
    LoopRunsB Tryd.prog X w0 0 1 laidRound (unpack 33 [1, 5, 7] (laidV s1 n c i) (laidL o w l n C i (l.take i ++ m.drop i))) (.exit 0) (unpack 33 [1, 5, 7] (laidV s1 n c n) (laidL o w l n C n l))
  | 0, i, hi => by
    have ht := laid_tree s1 o w n c n C l (l.take i ++ m.drop i) i i
    unfold laidT at ht
    rw [decide_eq_false (by omega)] at ht
    have hr := round_runs hE (noLps_ok _) ht (Nat.zero_le _) (Nat.succ_le_succ (Nat.zero_le _))
    obtain rfl : i = n := by omega
    have e : l.take i ++ m.drop i = l := by rw [List.take_of_length_le (by omega), List.drop_of_length_le (by omega), List.append_nil]
    rw [e] at hr ⊢
    exact LoopRunsB.exit hr (by simp)
  | k + 1, i, hi => by
    have ht := laid_tree s1 o w n c n C l (l.take i ++ m.drop i) i i
    unfold laidT at ht
    have hok : okM n (l.take i ++ m.drop i) = true := okM_iff.2 ⟨by simp; omega, h3, h4⟩
    have hin : tcS n i i = ((i + 1 : Nat) : Int) := by
      unfold tcS inR
      rw [if_pos (by simp; omega)]
      exact w64_succ (by omega)
    rw [decide_eq_true (by omega), ixM_in h1 (by omega), ixB_nat, hok, w64_succ (by omega), hin] at ht
    have hs : stS n (l.take i ++ m.drop i) i (l.getD i 0) = l.take (i + 1) ++ m.drop (i + 1) := by
      subst h1
      exact stS_step h2 (by omega)
    rw [hs] at ht
    have hr := round_runs hE (noLps_ok _) ht (Nat.zero_le _) (Nat.succ_le_succ (Nat.zero_le _))
    exact LoopRunsB.step hr (laid_rounds hE s1 o w n c C l m h1 h2 h3 h4 k (i + 1) (by omega))
def laidF (vals : List Value) (lh : List Go.Sx.Blk) : M (Exit × List Value × List Go.Sx.Blk) :=
  match vals, lh with
  | [a, .pointer (some ⟨1, 0, none⟩), .int .i64 0], [.ints o w l, .cells true true [.slice (some ⟨2, 0, none⟩) N C, .int .i64 0], .ints true true m] =>
    match slOf 0 a with
    | some (_, n, _) => .br (okM n l && Nat.beq N n && Nat.beq m.length n) (.ret (.normal, [.pointer (some ⟨1, 0, none⟩)], laidL o w l N C n l)) .bad
    | _ => .bad
  | _, _ => .bad
theorem laid_norm (s1 o w : Bool) (n c N C : Nat) (l m : List Int) (t i : Int) : (normV 33 [5] 1 (unpack 33 [1, 5, 7] (laidV s1 n c i) (laidL o w l N C t m))).get = some ([.pointer (some ⟨1, 0, none⟩)], laidL o w l N C t m) := by kernel_rfl
theorem laid_lp : LpSound Tryd.prog Tab 34 0 (loopV 33 [1, 5, 7] [5] laidF 1) := by
  refine LpSound.of_loop (c := laidBody) Tryd.func34 (by kernel_rfl) (by kernel_rfl) fun X w0 h0 hB hT vals lh e vals' lh' hF hb => ?_
  unfold laidF at hF
  split at hF
  · rename_i a o w l N C m
    split at hF
    · rename_i s1 n c ha
      obtain rfl := slOf_some ha
      rcases M.get_br_some hF with ⟨hc, hF⟩ | ⟨_, hF⟩
      · simp only [Bool.and_eq_true] at hc
        obtain ⟨⟨hc1, hc2⟩, hc3⟩ := hc
        obtain ⟨g1, g2, g3⟩ := okM_iff.1 hc1
        obtain rfl := Nat.eq_of_beq_eq_true hc2
        have g4 := Nat.eq_of_beq_eq_true hc3
        have hl := laid_rounds (laid0Env_ok X w0 h0 hB hT) s1 o w N c C l m g1 (by omega) g2 g3 N 0 (Nat.zero_add _)
        rw [laid_loop]
        simp only [M.get_ret, Option.some.injEq, Prod.mk.injEq] at hF
        obtain ⟨rfl, rfl, rfl⟩ := hF
        exact hl.runs.block_exit.norm (laid_norm s1 o w N c N C l l N N) (Nat.zero_le _)
      · cases hF
    · cases hF
  · cases hF
noncomputable def laidEnv : Env := mkEnv Tryd.prog laidFns [] laid0 [(34, 0, loopV 33 [1, 5, 7] [5] laidF 1)]
theorem laidEnv_ok (X : Nat → Prop) (w0 : World) (h0 : X 0) (hB : Bnd X w0) (hT : Tab w0) : EnvOK laidEnv X w0 := mkEnv_ok (fun e he => by cases he) (by kernel_rfl) laidFns_ok laid0_ok (lpSounds_cons laid_lp lpSounds_nil) h0 hB hT
theorem laidF_tree (cf : Cf) (s1 o w : Bool) (n c : Nat) (l : List Int) : (callV laidEnv 40 34 [cf.val, slV s1 0 n c] [.ints o w l]).get =
    bif rightC cf then bif okM n l && Nat.beq (cntN cf) n && Nat.beq (List.replicate (cntN cf) (0 : Int)).length n then some (.pointer (some ⟨1, 0, none⟩), laidL o w l (cntN cf) (cntN cf) n l) else none else some (.pointer none, [.ints o w l]) := by
  cases s1 <;> kernel_rfl
def laidO : Orc := fun args lh => match args, lh with
  | [cf, a], [.ints o w l] => confM cf fun cf =>
    match slOf 0 a with
    | some (_, n, _) => .br (rightC cf && okM n l && Nat.beq (cntN cf) n) (.ret (.pointer (some ⟨1, 0, none⟩), laidL o w l (cntN cf) (cntN cf) n l)) .bad
    | _ => .bad
  | _, _ => .bad
theorem laid_sound : Sound Tryd.prog Tab 34 laidO := by
  refine Sound.of_run ⟨Tryd.func34, by kernel_rfl, by kernel_rfl⟩ rfl rfl laidEnv_ok 40 fun args lh r hr => ?_
  unfold laidO at hr
  split at hr
  · rename_i cf a o w l
    obtain ⟨cf, rfl, hr2⟩ := confM_some hr
    clear hr
    split at hr2
    · rename_i s1 n c ha
      obtain rfl := slOf_some ha
      rcases M.get_br_some hr2 with ⟨hc, hr⟩ | ⟨_, hr⟩
      · simp only [M.get_ret, Option.some.injEq] at hr; subst hr
        simp only [Bool.and_eq_true] at hc
        obtain ⟨⟨hc1, hc2⟩, hc3⟩ := hc
        refine (laidF_tree cf s1 o w n c l).trans ?_
        rw [hc1, hc2, hc3, List.length_replicate, hc3]; rfl
      · cases hr
    · cases hr2
  · cases hr
noncomputable def wrFns : List (FuncId × Func) := []
theorem wrFns_ok : ∀ e ∈ wrFns, FnOK Tryd.prog e.1 e.2 := fns_ok_nil rfl
noncomputable def wr0Env : Env := mkEnv Tryd.prog wrFns [] memOrcs []
theorem wr0Env_ok (X : Nat → Prop) (w0 : World) (h0 : X 0) (hB : Bnd X w0) (hT : Tab w0) : EnvOK wr0Env X w0 := mkEnv_ok (fun e he => by cases he) (by kernel_rfl) wrFns_ok memOrcs_ok lpSounds_nil h0 hB hT
abbrev wrH (N C : Nat) (t : Int) (o w : Bool) (k : Nat) (gi : Nat → Nat → Int) (gb : Nat → Nat → Bool) (l : List Int) : List Go.Sx.Blk := [.cells true true [.slice (some ⟨2, 0, none⟩) N C, .int .i64 t], .rows o w 3 k ⟨wrKs, gi, gb⟩, .ints true true l]
def wrF (vals : List Value) (lh : List Go.Sx.Blk) : M (Exit × List Value × List Go.Sx.Blk) :=
  match vals, lh with
  | [.pointer (some ⟨0, 0, none⟩), .slice (some ⟨1, 0, some 2⟩) n c, .int .i64 step, .int .i64 0], [.cells true true [.slice (some ⟨2, 0, none⟩) N C, .int .i64 t], .rows o w 3 k ⟨[.it .u8, .it .u8, .it .i64], gi, gb⟩, .ints true true l] =>
    .br (okM N l && Nat.beq k n && smallN n) (.ret (.normal, [], wrH N C (wrsT N gi step n t) o w n gi gb (wrsL N gi step n l))) .bad
  | _, _ => .bad
theorem wr_norm (N C n c k : Nat) (t step i : Int) (o w : Bool) (gi : Nat → Nat → Int) (gb : Nat → Nat → Bool) (l : List Int) : (normV 37 [] 3 (unpack 37 [0, 1, 2, 6] (wrV n c step i) (wrH N C t o w k gi gb l))).get = some ([], wrH N C t o w k gi gb l) := by kernel_rfl
noncomputable def wrEnv : Env := mkEnv Tryd.prog wrFns [] memOrcs []
def wrO : Orc := fun args lh => match args, lh with
  | [.pointer (some ⟨0, 0, none⟩), .slice (some ⟨1, 0, some 2⟩) n c, .int .i64 step], [.cells true true [.slice (some ⟨2, 0, none⟩) N C, .int .i64 t], .rows o w 3 k ⟨[.it .u8, .it .u8, .it .i64], gi, gb⟩, .ints true true l] =>
    .br (okM N l && Nat.beq k n && smallN n) (.ret (undef, wrH N C (wrsT N gi step n t) o w n gi gb (wrsL N gi step n l))) .bad
  | _, _ => .bad
end Go.Proofs.YthfoljgaiincdaaDoor
