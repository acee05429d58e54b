
/- give: a step of the document. No condition of its own. -/
import Derived.Test.YthfoljgaiincdaaGreatDoorGiveB
namespace Go.Proofs.YthfoljgaiincdaaGreatDoor
open Go.RowKit Go.Fld Go.Sx
set_option linter.unusedVariables false
set_option linter.unusedSimpArgs false
noncomputable def gyFns : List (FuncId × Func) := [(27, Tryz.f27), (56, Tryz.f56), (55, Tryz.f55), (24, Tryz.f24), (80, Tryz.f80)]
theorem gyFns_ok : ∀ e ∈ gyFns, FnOK Tryz.prog e.1 e.2 :=
  fns_ok_cons ⟨Tryz.func27, by kernel_rfl, by kernel_rfl⟩ <| fns_ok_cons ⟨Tryz.func56, by kernel_rfl, by kernel_rfl⟩ <| fns_ok_cons ⟨Tryz.func55, by kernel_rfl, by kernel_rfl⟩ <| fns_ok_cons ⟨Tryz.func24, by kernel_rfl, by kernel_rfl⟩ <| fns_ok_cons ⟨Tryz.func80, by kernel_rfl, by kernel_rfl⟩ <| fns_ok_nil rfl
def gy1 : List (FuncId × Orc) := retOrcs ++ refMemOrcs ++ confOrcs ++ wordOrcs ++ [(57, aftAO)]
theorem gy1_ok : Sounds Tryz.prog Tab gy1 := sounds_append (sounds_append (sounds_append (sounds_append retOrcs_ok refMemOrcs_ok) confOrcs_ok) wordOrcs_ok) (sounds_cons aftA_sound sounds_nil)
noncomputable def gyEnv : Env := mkEnv Tryz.prog gyFns [] gy1 []
theorem gyEnv_ok (X : Nat → Prop) (w0 : World) (h0 : X 0) (hB : Bnd X w0) (hT : Tab w0) : EnvOK gyEnv X w0 := mkEnv_ok (fun e he => by cases he) (by kernel_rfl) gyFns_ok gy1_ok lpSounds_nil h0 hB hT
/-- Where it is, in words. -/
def strB (st : Int) : ByteArray := bif st == 0 then ⟨#[67, 76, 79, 83, 69, 68]⟩ else bif st == 1 then ⟨#[76, 79, 79, 75]⟩ else bif st == 2 then ⟨#[82, 69, 83, 84]⟩ else bif st == 3 then ⟨#[71, 79]⟩ else ⟨#[68, 79, 78, 69]⟩
structure Gy where
  cf : Cf
  w : Int
  i : Int
  gen : Int
  disc : Bool
  cl : Int
  wd : Int
  b : ByteArray
  e : Int
abbrev yB (p : Value) (q : Gy) : Go.Sx.Blk := .cells true true [.int .i64 q.cf.w, .int .i64 q.cf.s, .int .i64 q.cf.st, .int .i64 q.cf.wt, .int .i64 q.cf.u, .int .i64 q.w, .int .i64 q.i, .int .i64 q.gen, .bool q.disc, .int .i64 q.cl, .int .i64 q.wd, .string q.b, p, .int .i64 q.e]
abbrev yBN (q : Gy) : Go.Sx.Blk := yB pN q
abbrev yBR (k : Nat) (q : Gy) : Go.Sx.Blk := yB (pK k) q
def gyOf (q : Gq) : Gy := ⟨q.cf, q.w, q.i, q.gen, q.disc, q.cl, q.wd, strB q.st, q.e⟩
def ylookK {α : Type} (d : Option Slt) (q : Gq) (A B C D : α) : α :=
  bif !d.isSome then A else bif (slt0 d).st != 3 then A else bif (slt0 d).own != q.w then A else bif (slt0 d).gen != q.gen then A else
  bif decide ((slt0 d).str > 0) then (bif !q.disc then B else bif q.disc then C else bif (slt0 d).brk then C else bif decide ((slt0 d).uses ≥ q.cf.u) then C else bif q.cl != 0 then C else D)
  else bif q.disc then C else bif (slt0 d).brk then C else bif decide ((slt0 d).uses ≥ q.cf.u) then C else bif q.cl != 0 then C else D
abbrev yHN (q : Gy) (n : Nat) (t : Int) (l : List Int) : List Go.Sx.Blk := yBN q :: memQt 2 n t l
abbrev memQ3 (n : Nat) (t : Int) : Go.Sx.Blk := .cells true true [.slice (some ⟨3, 0, some 1⟩) n 0, .int .i64 t]
abbrev yHR (q : Gy) (r : Rr) (n : Nat) (t : Int) (l : List Int) : List Go.Sx.Blk := [yBR 2 q, memQ3 n t, rrB r, .ints true true l]
def yNew (n : Nat) (l : List Int) (q : Gq) : Rr := ⟨q.cf, q.i, ldS n l (gCell q), 0, 0, false, false⟩
theorem yN0_tree (cf : Cf) (w i gen : Int) (disc : Bool) (cl wd e : Int) (n : Nat) (t : Int) (l : List Int) : (callV gyEnv 40 27 [p0, pp1] (yHN (gyOf (⟨cf, w, i, gen, disc, 0, cl, wd, e⟩)) n (t) (l))).get =
    bt (okM n l) (bif ldS n l 0 == 2 then some (.bool true, (yHN (gyOf (gEnd (gCl ⟨cf, w, i, gen, disc, 0, cl, wd, e⟩ (ldS n l 0)) 5)) n (tcS n 0 t) (l))) else some (.bool false, (yHN (gyOf (gAt (gCl ⟨cf, w, i, gen, disc, 0, cl, wd, e⟩ (ldS n l 0)) 1)) n (tcS n 0 t) (l)))) := by kernel_rfl
theorem yN1_tree (cf : Cf) (w i gen : Int) (disc : Bool) (cl wd e : Int) (n : Nat) (t : Int) (l : List Int) : (callV gyEnv 40 27 [p0, pp1] (yHN (gyOf (⟨cf, w, i, gen, disc, 1, cl, wd, e⟩)) n (t) (l))).get =
    bif decide (cellC cf i < 0) then some (.bool true, (yHN (gyOf (gEnd ⟨cf, w, i, gen, disc, 1, cl, wd, e⟩ 2)) n (t) (l))) else bt (okM n l) (ylookK (decA (ldS n l (cellC cf i))) ⟨cf, w, i, gen, disc, 1, cl, wd, e⟩ (some (.bool true, (yHN (gyOf (gEnd (gWd ⟨cf, w, i, gen, disc, 1, cl, wd, e⟩ (ldS n l (cellC cf i))) 2)) n (tcS n (cellC cf i) t) (l)))) (some (.bool true, (yHN (gyOf (gEnd (gWd ⟨cf, w, i, gen, disc, 1, cl, wd, e⟩ (ldS n l (cellC cf i))) 8)) n (tcS n (cellC cf i) t) (l)))) (some (.bool false, yBR 3 (gyOf (gAt (gWd ⟨cf, w, i, gen, disc, 1, cl, wd, e⟩ (ldS n l (gCell ⟨cf, w, i, gen, disc, 1, cl, wd, e⟩))) 3)) :: memQt 2 n (tcS n (gCell ⟨cf, w, i, gen, disc, 1, cl, wd, e⟩) t) l ++ [rrB (yNew n l ⟨cf, w, i, gen, disc, 1, cl, wd, e⟩)])) (some (.bool false, (yHN (gyOf (gAt (gWd ⟨cf, w, i, gen, disc, 1, cl, wd, e⟩ (ldS n l (cellC cf i))) 2)) n (tcS n (cellC cf i) t) (l))))) := by kernel_rfl
theorem yN2_tree (cf : Cf) (w i gen : Int) (disc : Bool) (cl wd e : Int) (n : Nat) (t : Int) (l : List Int) : (callV gyEnv 40 27 [p0, pp1] (yHN (gyOf (⟨cf, w, i, gen, disc, 2, cl, wd, e⟩)) n (t) (l))).get =
    bif (aftS decA wd 4 w 0).isSome then bt (okM n l) (bif casB n l (cellC cf i) wd then some (.bool true, (yHN (gyOf (gEnd ⟨cf, w, i, gen, disc, 2, cl, wd, e⟩ 0)) n (tcS n (cellC cf i) t) (casS n l (cellC cf i) wd ((aftS decA wd 4 w 0).getD 0)))) else some (.bool false, (yHN (gyOf (gAt ⟨cf, w, i, gen, disc, 2, cl, wd, e⟩ 1)) n (tcS n (cellC cf i) t) (casS n l (cellC cf i) wd ((aftS decA wd 4 w 0).getD 0))))) else some (.bool false, (yHN (gyOf (gAt ⟨cf, w, i, gen, disc, 2, cl, wd, e⟩ 1)) n (t) (l))) := by kernel_rfl
theorem yN4_tree (cf : Cf) (w i gen : Int) (disc : Bool) (cl wd e : Int) (n : Nat) (t : Int) (l : List Int) : (callV gyEnv 40 27 [p0, pp1] (yHN (gyOf (⟨cf, w, i, gen, disc, 4, cl, wd, e⟩)) n (t) (l))).get =
    some (.bool true, (yHN (gyOf (⟨cf, w, i, gen, disc, 4, cl, wd, e⟩)) n (t) (l))) := by kernel_rfl
theorem yR0_tree (cf : Cf) (w i gen : Int) (disc : Bool) (cl wd e : Int) (r : Rr) (n : Nat) (t : Int) (l : List Int) : (callV gyEnv 40 27 [p0, pp1] (yHR (gyOf (⟨cf, w, i, gen, disc, 0, cl, wd, e⟩)) r n (t) (l))).get =
    bt (okM n l) (bif ldS n l 0 == 2 then some (.bool true, (yHR (gyOf (gEnd (gCl ⟨cf, w, i, gen, disc, 0, cl, wd, e⟩ (ldS n l 0)) 5)) r n (tcS n 0 t) (l))) else some (.bool false, (yHR (gyOf (gAt (gCl ⟨cf, w, i, gen, disc, 0, cl, wd, e⟩ (ldS n l 0)) 1)) r n (tcS n 0 t) (l)))) := by kernel_rfl
theorem yR1_tree (cf : Cf) (w i gen : Int) (disc : Bool) (cl wd e : Int) (r : Rr) (n : Nat) (t : Int) (l : List Int) : (callV gyEnv 40 27 [p0, pp1] (yHR (gyOf (⟨cf, w, i, gen, disc, 1, cl, wd, e⟩)) r n (t) (l))).get =
    bif decide (cellC cf i < 0) then some (.bool true, (yHR (gyOf (gEnd ⟨cf, w, i, gen, disc, 1, cl, wd, e⟩ 2)) r n (t) (l))) else bt (okM n l) (ylookK (decA (ldS n l (cellC cf i))) ⟨cf, w, i, gen, disc, 1, cl, wd, e⟩ (some (.bool true, (yHR (gyOf (gEnd (gWd ⟨cf, w, i, gen, disc, 1, cl, wd, e⟩ (ldS n l (cellC cf i))) 2)) r n (tcS n (cellC cf i) t) (l)))) (some (.bool true, (yHR (gyOf (gEnd (gWd ⟨cf, w, i, gen, disc, 1, cl, wd, e⟩ (ldS n l (cellC cf i))) 8)) r n (tcS n (cellC cf i) t) (l)))) (some (.bool false, [yBR 4 (gyOf (gAt (gWd ⟨cf, w, i, gen, disc, 1, cl, wd, e⟩ (ldS n l (gCell ⟨cf, w, i, gen, disc, 1, cl, wd, e⟩))) 3)), memQ3 n (tcS n (gCell ⟨cf, w, i, gen, disc, 1, cl, wd, e⟩) t), rrB r, .ints true true l, rrB (yNew n l ⟨cf, w, i, gen, disc, 1, cl, wd, e⟩)])) (some (.bool false, (yHR (gyOf (gAt (gWd ⟨cf, w, i, gen, disc, 1, cl, wd, e⟩ (ldS n l (cellC cf i))) 2)) r n (tcS n (cellC cf i) t) (l))))) := by kernel_rfl
theorem yR2_tree (cf : Cf) (w i gen : Int) (disc : Bool) (cl wd e : Int) (r : Rr) (n : Nat) (t : Int) (l : List Int) : (callV gyEnv 40 27 [p0, pp1] (yHR (gyOf (⟨cf, w, i, gen, disc, 2, cl, wd, e⟩)) r n (t) (l))).get =
    bif (aftS decA wd 4 w 0).isSome then bt (okM n l) (bif casB n l (cellC cf i) wd then some (.bool true, (yHR (gyOf (gEnd ⟨cf, w, i, gen, disc, 2, cl, wd, e⟩ 0)) r n (tcS n (cellC cf i) t) (casS n l (cellC cf i) wd ((aftS decA wd 4 w 0).getD 0)))) else some (.bool false, (yHR (gyOf (gAt ⟨cf, w, i, gen, disc, 2, cl, wd, e⟩ 1)) r n (tcS n (cellC cf i) t) (casS n l (cellC cf i) wd ((aftS decA wd 4 w 0).getD 0))))) else some (.bool false, (yHR (gyOf (gAt ⟨cf, w, i, gen, disc, 2, cl, wd, e⟩ 1)) r n (t) (l))) := by kernel_rfl
theorem yR3_tree (cf : Cf) (w i gen : Int) (disc : Bool) (cl wd e : Int) (r : Rr) (n : Nat) (t : Int) (l : List Int) : (callV gyEnv 40 27 [p0, pp1] (yHR (gyOf (⟨cf, w, i, gen, disc, 3, cl, wd, e⟩)) r n (t) (l))).get =
    bt (okM n l) (bif (rrstep n l r).dn then (bif (rrstep n l r).sw then some (.bool true, (yHR (gyOf (gEnd ⟨cf, w, i, gen, disc, 3, cl, wd, e⟩ 0)) (rrstep n l r) n (rrtch n r t) (rrmem n l r))) else (bif (rrstep n l r).dn then some (.bool false, (yHR (gyOf (gAt ⟨cf, w, i, gen, disc, 3, cl, wd, e⟩ 1)) (rrstep n l r) n (rrtch n r t) (rrmem n l r))) else some (.bool false, (yHR (gyOf (⟨cf, w, i, gen, disc, 3, cl, wd, e⟩)) (rrstep n l r) n (rrtch n r t) (rrmem n l r))))) else (bif (rrstep n l r).dn then some (.bool false, (yHR (gyOf (gAt ⟨cf, w, i, gen, disc, 3, cl, wd, e⟩ 1)) (rrstep n l r) n (rrtch n r t) (rrmem n l r))) else some (.bool false, (yHR (gyOf (⟨cf, w, i, gen, disc, 3, cl, wd, e⟩)) (rrstep n l r) n (rrtch n r t) (rrmem n l r))))) := by kernel_rfl
theorem yR4_tree (cf : Cf) (w i gen : Int) (disc : Bool) (cl wd e : Int) (r : Rr) (n : Nat) (t : Int) (l : List Int) : (callV gyEnv 40 27 [p0, pp1] (yHR (gyOf (⟨cf, w, i, gen, disc, 4, cl, wd, e⟩)) r n (t) (l))).get =
    some (.bool true, (yHR (gyOf (⟨cf, w, i, gen, disc, 4, cl, wd, e⟩)) r n (t) (l))) := by kernel_rfl
end Go.Proofs.YthfoljgaiincdaaGreatDoor
