
/- stream: a step of the document. No condition of its own. -/
import Derived.Test.YthfoljgaiincdaaGreatDoorStrB
namespace Go.Proofs.YthfoljgaiincdaaGreatDoor
open Go.RowKit Go.Fld Go.Sx
set_option linter.unusedVariables false
set_option linter.unusedSimpArgs false
noncomputable def syFns : List (FuncId × Func) := [(16, Tryz.f16), (48, Tryz.f48), (47, Tryz.f47)]
theorem syFns_ok : ∀ e ∈ syFns, FnOK Tryz.prog e.1 e.2 :=
  fns_ok_cons ⟨Tryz.func16, by kernel_rfl, by kernel_rfl⟩ <| fns_ok_cons ⟨Tryz.func48, by kernel_rfl, by kernel_rfl⟩ <| fns_ok_cons ⟨Tryz.func47, by kernel_rfl, by kernel_rfl⟩ <| fns_ok_nil rfl
def sy1 : List (FuncId × Orc) := refMemOrcs ++ confOrcs ++ wordOrcs ++ [(57, aftAO)]
theorem sy1_ok : Sounds Tryz.prog Tab sy1 := sounds_append (sounds_append (sounds_append refMemOrcs_ok confOrcs_ok) wordOrcs_ok) (sounds_cons aftA_sound sounds_nil)
noncomputable def sy0Env : Env := mkEnv Tryz.prog syFns [] sy1 []
theorem sy0Env_ok (X : Nat → Prop) (w0 : World) (h0 : X 0) (hB : Bnd X w0) (hT : Tab w0) : EnvOK sy0Env X w0 := mkEnv_ok (fun e he => by cases he) (by kernel_rfl) syFns_ok sy1_ok lpSounds_nil h0 hB hT
/-- Where it is, in words. -/
def strS (st : Int) : ByteArray := bif st == 0 then ⟨#[67, 76, 79, 83, 69, 68]⟩ else bif st == 1 then ⟨#[76, 79, 79, 75]⟩ else bif st == 2 then ⟨#[83, 87, 65, 80]⟩ else ⟨#[68, 79, 78, 69]⟩
/-- One of the document's. -/
structure Yq where
  cf : Cf
  w : Int
  i : Int
  gen : Int
  num : Int
  op : Bool
  wd : Int
  st : Int
  e : Int
structure Yb where
  cf : Cf
  w : Int
  i : Int
  gen : Int
  num : Int
  op : Bool
  wd : Int
  b : ByteArray
  e : Int
abbrev ybB (q : Yb) : Go.Sx.Blk := .cells true true [.int .i64 q.cf.w, .int .i64 q.cf.s, .int .i64 q.cf.st, .int .i64 q.cf.wt, .int .i64 q.cf.u, .int .i64 q.w, .int .i64 q.i, .int .i64 q.gen, .int .i64 q.num, .bool q.op, .int .i64 q.wd, .string q.b, .int .i64 q.e]
def ybOf (q : Yq) : Yb := ⟨q.cf, q.w, q.i, q.gen, q.num, q.op, q.wd, strS q.st, q.e⟩
abbrev yqB (q : Yq) : Go.Sx.Blk := ybB (ybOf q)
abbrev yqH (q : Yq) (n : Nat) (t : Int) (l : List Int) : List Go.Sx.Blk := yqB q :: memQt 2 n t l
def yEnd (q : Yq) (e : Int) : Yq := ⟨q.cf, q.w, q.i, q.gen, q.num, q.op, q.wd, 3, e⟩
def yAt (q : Yq) (st : Int) : Yq := ⟨q.cf, q.w, q.i, q.gen, q.num, q.op, q.wd, st, q.e⟩
def yWd (q : Yq) (x : Int) : Yq := ⟨q.cf, q.w, q.i, q.gen, q.num, q.op, x, q.st, q.e⟩
def yNum (q : Yq) (x : Int) : Yq := ⟨q.cf, q.w, q.i, q.gen, x, q.op, q.wd, q.st, q.e⟩
def yslookK {α : Type} (d : Option Slt) (q : Yq) (A Z : α) : α :=
  bif !d.isSome then A else bif (slt0 d).st != 3 then A else bif (slt0 d).own != q.w then A else bif (slt0 d).gen != q.gen then A else Z
/-! ### How many bits stand below -/
noncomputable def syBody : Code := Tryz.f16.body.getD .skip
noncomputable def syRound : Code := lpB (blkAt 2 syBody)
theorem sy_loop : blkAt 2 syBody = .loop syRound := by kernel_rfl
abbrev syV (n : Int) : List Value := [.pointer (some ⟨0, 0, none⟩), .int .i64 n]
abbrev syH (cf : Cf) (w i gen num : Int) (op : Bool) (wd : Int) (b : ByteArray) (e : Int) (n : Nat) (t : Int) (l : List Int) : List Go.Sx.Blk := ybB ⟨cf, w, i, gen, num, op, wd, b, e⟩ :: memQt 2 n t l
theorem sy_tree (cf : Cf) (w i gen num : Int) (op : Bool) (wd : Int) (b : ByteArray) (e : Int) (n : Nat) (t : Int) (l : List Int) (k : Int) :
    (roundV sy0Env 40 noLps 176 [0, 14] 3 syRound (unpack 176 [0, 14] (syV k) (syH cf w i gen num op wd b e n t l))).get =
    bif k.tmod 2 == 1 then some (.normal, syV (w64 (k.tdiv 2)), syH cf w i gen (w64 (num + 1)) op wd b e n t l) else some (.exit 2, syV k, syH cf w i gen num op wd b e n t l) := by kernel_rfl
def lowB (s : Nat) : Bool := bif s % 2 == 1 then lowI (s : Int) == lowI ((s / 2 : Nat) : Int) + 1 else lowI (s : Int) == 0
theorem lowB_all : (List.range 256).all lowB = true := by kernel_rfl
theorem lowI_odd {s : Nat} (h : s ≤ 255) (hs : s % 2 = 1) : lowI (s : Int) = lowI ((s / 2 : Nat) : Int) + 1 := by
  have h1 := List.all_eq_true.1 lowB_all s (List.mem_range.2 (by omega))
  unfold lowB at h1
  rw [show (s % 2 == 1) = true from beq_iff_eq.2 hs, cond_true, beq_iff_eq] at h1
  exact h1
theorem lowI_even {s : Nat} (h : s ≤ 255) (hs : ¬ s % 2 = 1) : lowI (s : Int) = 0 := by
  have h1 := List.all_eq_true.1 lowB_all s (List.mem_range.2 (by omega))
  unfold lowB at h1
  rw [show (s % 2 == 1) = false from beq_eq_false_iff_ne.2 hs, cond_false, beq_iff_eq] at h1
  exact h1
theorem sy_rounds {X : Nat → Prop} {w0 : World} (hE : EnvOK sy0Env X w0) (cf : Cf) (w i gen : Int) (op : Bool) (wd : Int) (b : ByteArray) (e : Int) (n : Nat) (t : Int) (l : List Int) : ∀ (f k j : Nat), k ≤ f → k ≤ 255 → j + f ≤ 300 →
    ∃ k' : Int, LoopRunsB Tryz.prog X w0 0 3 syRound (unpack 176 [0, 14] (syV k) (syH cf w i gen j op wd b e n t l)) (.exit 2) (unpack 176 [0, 14] (syV k') (syH cf w i gen (j + lowI k) op wd b e n t l))
  | f, k, j, hk, hl, hj => by
    have ht := sy_tree cf w i gen j op wd b e n t l k
    rw [Int.tmod_eq_emod_of_nonneg (by omega)] at ht
    by_cases ho : k % 2 = 1
    · rw [show (((k : Int) % 2) == 1) = true by rw [beq_iff_eq]; omega, cond_true, Int.tdiv_eq_ediv_of_nonneg (by omega), show w64 ((k : Int) / 2) = ((k / 2 : Nat) : Int) by rw [w64_in ⟨by omega, by omega⟩]; omega, w64_succ (by omega)] at ht
      match f, hk with
      | 0, hk => omega
      | f + 1, hk =>
        obtain ⟨k', hr⟩ := sy_rounds hE cf w i gen op wd b e n t l f (k / 2) (j + 1) (by omega) (by omega) (by omega)
        refine ⟨k', LoopRunsB.step (round_runs hE (noLps_ok _) ht (Nat.zero_le _) (show 3 ≤ 3 by decide)) ?_⟩
        rw [lowI_odd hl ho]
        rw [show (j : Int) + (lowI ((k / 2 : Nat) : Int) + 1) = ((j + 1 : Nat) : Int) + lowI ((k / 2 : Nat) : Int) by omega]
        exact hr
    · rw [show (((k : Int) % 2) == 1) = false by rw [beq_eq_false_iff_ne]; omega, cond_false] at ht
      refine ⟨k, ?_⟩
      rw [lowI_even hl ho, Int.add_zero]
      exact LoopRunsB.exit (round_runs hE (noLps_ok _) ht (Nat.zero_le _) (show 3 ≤ 3 by decide)) (by simp)
structure SyP where
  q : Yb
  n : Nat
  t : Int
  l : List Int
  k : Int
def SyP.V (p : SyP) : List Value := syV p.k
def SyP.H (p : SyP) : List Go.Sx.Blk := ybB p.q :: memQt 2 p.n p.t p.l
def SyP.OK (p : SyP) : Prop := 0 ≤ p.k ∧ p.k ≤ 255 ∧ p.q.num = 0
def SyP.out (p : SyP) : Exit × List Value × List Go.Sx.Blk := (.normal, [.pointer (some ⟨0, 0, none⟩)], syH p.q.cf p.q.w p.q.i p.q.gen (lowI p.k) p.q.op p.q.wd p.q.b p.q.e p.n p.t p.l)
def strVal : Value → ByteArray
  | .string b => b
  | _ => ⟨#[]⟩
def ybParse (lh : List Go.Sx.Blk) (k : Nat) : Yb := ⟨⟨int2 lh k 0, int2 lh k 1, int2 lh k 2, int2 lh k 3, int2 lh k 4⟩, int2 lh k 5, int2 lh k 6, int2 lh k 7, int2 lh k 8, boolVal (at2 lh k 9), int2 lh k 10, strVal (at2 lh k 11), int2 lh k 12⟩
def syParse (vals : List Value) (lh : List Go.Sx.Blk) : SyP := ⟨ybParse lh 0, sliceLen (at2 lh 1 0), int2 lh 1 1, ints2 lh 2, intVal (vals.getD 1 undef)⟩
noncomputable def syF : List Value → List Go.Sx.Blk → M (Exit × List Value × List Go.Sx.Blk) := specL syParse SyP.V SyP.H SyP.OK SyP.out
theorem sy_norm (cf : Cf) (w i gen num : Int) (op : Bool) (wd : Int) (b : ByteArray) (e : Int) (n : Nat) (t : Int) (l : List Int) (k : Int) : (normV 176 [0] 3 (unpack 176 [0, 14] (syV k) (syH cf w i gen num op wd b e n t l))).get = some ([.pointer (some ⟨0, 0, none⟩)], syH cf w i gen num op wd b e n t l) := by kernel_rfl
theorem sy_lp : LpSound Tryz.prog Tab 16 2 (loopV 176 [0, 14] [0] syF 3) := by
  refine LpSound.of_spec (c := syBody) Tryz.func16 (by kernel_rfl) (by kernel_rfl) fun X W0 h0 hB hT p ⟨h1, h2, h3⟩ => ?_
  obtain ⟨⟨cf, w, i, gen, num, op, wd, b, e⟩, n, t, l, k⟩ := p
  simp only at h1 h2 h3
  subst h3
  obtain ⟨k', hr⟩ := sy_rounds (sy0Env_ok X W0 h0 hB hT) cf w i gen op wd b e n t l k.toNat k.toNat 0 (Nat.le_refl _) (by omega) (by omega)
  rw [show ((k.toNat : Nat) : Int) = k by omega, show ((0 : Nat) : Int) + lowI k = lowI k by omega] at hr
  rw [sy_loop]
  exact hr.runs.block_exit.norm (sy_norm cf w i gen (lowI k) op wd b e n t l k') (Nat.zero_le _)
noncomputable def syEnv : Env := mkEnv Tryz.prog syFns [] sy1 [(16, 2, loopV 176 [0, 14] [0] syF 3)]
theorem syEnv_ok (X : Nat → Prop) (w0 : World) (h0 : X 0) (hB : Bnd X w0) (hT : Tab w0) : EnvOK syEnv X w0 := mkEnv_ok (fun e he => by cases he) (by kernel_rfl) syFns_ok sy1_ok (lpSounds_cons sy_lp lpSounds_nil) h0 hB hT
/-! ### A step -/
theorem ySt0_tree (cf : Cf) (w i gen num wd e : Int) (n : Nat) (t : Int) (l : List Int) : (callV syEnv 40 16 [p0, pp1] (yqH (⟨cf, w, i, gen, num, true, wd, 0, e⟩) n (t) (l))).get =
    bt (okM n l) (bif ldS n l 0 == 2 then some (.bool true, (yqH (yEnd ⟨cf, w, i, gen, num, true, wd, 0, e⟩ 5) n (tcS n 0 t) (l))) else some (.bool false, (yqH (yAt ⟨cf, w, i, gen, num, true, wd, 0, e⟩ 1) n (tcS n 0 t) (l)))) := by kernel_rfl
theorem ySt1_tree (cf : Cf) (w i gen num wd e : Int) (n : Nat) (t : Int) (l : List Int) : (callV syEnv 40 16 [p0, pp1] (yqH (⟨cf, w, i, gen, num, true, wd, 1, e⟩) n (t) (l))).get =
    bif decide (cellC cf i < 0) then some (.bool true, (yqH (yEnd ⟨cf, w, i, gen, num, true, wd, 1, e⟩ 2) n (t) (l))) else bt (okM n l) (yslookK (decA (ldS n l (cellC cf i))) ⟨cf, w, i, gen, num, true, wd, 1, e⟩ (some (.bool true, (yqH (yEnd (yWd ⟨cf, w, i, gen, num, true, wd, 1, e⟩ (ldS n l (cellC cf i))) 2) n (tcS n (cellC cf i) t) (l)))) (bif (slt0 (decA (ldS n l (cellC cf i)))).brk then some (.bool true, (yqH (yEnd (yWd ⟨cf, w, i, gen, num, true, wd, 1, e⟩ (ldS n l (cellC cf i))) 9) n (tcS n (cellC cf i) t) (l))) else bif !(aftS decA (ldS n l (cellC cf i)) 14 w cf.st).isSome then some (.bool true, (yqH (yEnd (yWd ⟨cf, w, i, gen, num, true, wd, 1, e⟩ (ldS n l (cellC cf i))) 10) n (tcS n (cellC cf i) t) (l))) else bif !(aftS decA (ldS n l (cellC cf i)) 14 w cf.st).isSome then some (.bool true, (yqH (yEnd (yWd ⟨cf, w, i, gen, num, true, wd, 1, e⟩ (ldS n l (cellC cf i))) 11) n (tcS n (cellC cf i) t) (l))) else some (.bool false, (yqH (yAt (yWd ⟨cf, w, i, gen, num, true, wd, 1, e⟩ (ldS n l (cellC cf i))) 2) n (tcS n (cellC cf i) t) (l))))) := by kernel_rfl
def syAsk (cf : Cf) (w i gen wd e : Int) (n : Nat) (t : Int) (l : List Int) : Prop := syV (slt0 (decA wd)).str = (⟨⟨cf, w, i, gen, 0, true, wd, strS 1, e⟩, n, t, l, (slt0 (decA wd)).str⟩ : SyP).V ∧ (ybB ⟨cf, w, i, gen, 0, true, wd, strS 1, e⟩ :: memQt 2 n t l) = (⟨⟨cf, w, i, gen, 0, true, wd, strS 1, e⟩, n, t, l, (slt0 (decA wd)).str⟩ : SyP).H ∧ (⟨⟨cf, w, i, gen, 0, true, wd, strS 1, e⟩, n, t, l, (slt0 (decA wd)).str⟩ : SyP).OK
theorem ySt2_tree (cf : Cf) (w i gen num wd e : Int) (n : Nat) (t : Int) (l : List Int) : (callV syEnv 40 16 [p0, pp1] (yqH (⟨cf, w, i, gen, num, true, wd, 2, e⟩) n (t) (l))).get =
    bt (okM n l) (bif casB n l (cellC cf i) wd then bt (sure (syAsk cf w i gen wd e n (tcS n (cellC cf i) t) (casS n l (cellC cf i) wd ((aftS decA wd 14 w cf.st).getD 0)))) (some (.bool true, (yqH (yEnd (yNum ⟨cf, w, i, gen, num, true, wd, 2, e⟩ (lowI (slt0 (decA wd)).str)) 0) n (tcS n (cellC cf i) t) (casS n l (cellC cf i) wd ((aftS decA wd 14 w cf.st).getD 0))))) else some (.bool false, (yqH (yAt ⟨cf, w, i, gen, num, true, wd, 2, e⟩ 1) n (tcS n (cellC cf i) t) (casS n l (cellC cf i) wd ((aftS decA wd 14 w cf.st).getD 0))))) := by kernel_rfl
theorem ySt3_tree (cf : Cf) (w i gen num wd e : Int) (n : Nat) (t : Int) (l : List Int) : (callV syEnv 40 16 [p0, pp1] (yqH (⟨cf, w, i, gen, num, true, wd, 3, e⟩) n (t) (l))).get =
    some (.bool true, (yqH (⟨cf, w, i, gen, num, true, wd, 3, e⟩) n (t) (l))) := by kernel_rfl
theorem ySf0_tree (cf : Cf) (w i gen num wd e : Int) (n : Nat) (t : Int) (l : List Int) : (callV syEnv 40 16 [p0, pp1] (yqH (⟨cf, w, i, gen, num, false, wd, 0, e⟩) n (t) (l))).get =
    bt (okM n l) (bif ldS n l 0 == 2 then some (.bool true, (yqH (yEnd ⟨cf, w, i, gen, num, false, wd, 0, e⟩ 5) n (tcS n 0 t) (l))) else some (.bool false, (yqH (yAt ⟨cf, w, i, gen, num, false, wd, 0, e⟩ 1) n (tcS n 0 t) (l)))) := by kernel_rfl
theorem ySf1_tree (cf : Cf) (w i gen num wd e : Int) (n : Nat) (t : Int) (l : List Int) : (callV syEnv 40 16 [p0, pp1] (yqH (⟨cf, w, i, gen, num, false, wd, 1, e⟩) n (t) (l))).get =
    bif decide (cellC cf i < 0) then some (.bool true, (yqH (yEnd ⟨cf, w, i, gen, num, false, wd, 1, e⟩ 2) n (t) (l))) else bt (okM n l) (yslookK (decA (ldS n l (cellC cf i))) ⟨cf, w, i, gen, num, false, wd, 1, e⟩ (some (.bool true, (yqH (yEnd (yWd ⟨cf, w, i, gen, num, false, wd, 1, e⟩ (ldS n l (cellC cf i))) 2) n (tcS n (cellC cf i) t) (l)))) (bif !(aftS decA (ldS n l (cellC cf i)) 15 w num).isSome then some (.bool true, (yqH (yEnd (yWd ⟨cf, w, i, gen, num, false, wd, 1, e⟩ (ldS n l (cellC cf i))) 11) n (tcS n (cellC cf i) t) (l))) else some (.bool false, (yqH (yAt (yWd ⟨cf, w, i, gen, num, false, wd, 1, e⟩ (ldS n l (cellC cf i))) 2) n (tcS n (cellC cf i) t) (l))))) := by kernel_rfl
theorem ySf2_tree (cf : Cf) (w i gen num wd e : Int) (n : Nat) (t : Int) (l : List Int) : (callV syEnv 40 16 [p0, pp1] (yqH (⟨cf, w, i, gen, num, false, wd, 2, e⟩) n (t) (l))).get =
    bt (okM n l) (bif casB n l (cellC cf i) wd then some (.bool true, (yqH (yEnd ⟨cf, w, i, gen, num, false, wd, 2, e⟩ 0) n (tcS n (cellC cf i) t) (casS n l (cellC cf i) wd ((aftS decA wd 15 w num).getD 0)))) else some (.bool false, (yqH (yAt ⟨cf, w, i, gen, num, false, wd, 2, e⟩ 1) n (tcS n (cellC cf i) t) (casS n l (cellC cf i) wd ((aftS decA wd 15 w num).getD 0))))) := by kernel_rfl
theorem ySf3_tree (cf : Cf) (w i gen num wd e : Int) (n : Nat) (t : Int) (l : List Int) : (callV syEnv 40 16 [p0, pp1] (yqH (⟨cf, w, i, gen, num, false, wd, 3, e⟩) n (t) (l))).get =
    some (.bool true, (yqH (⟨cf, w, i, gen, num, false, wd, 3, e⟩) n (t) (l))) := by kernel_rfl
end Go.Proofs.YthfoljgaiincdaaGreatDoor
