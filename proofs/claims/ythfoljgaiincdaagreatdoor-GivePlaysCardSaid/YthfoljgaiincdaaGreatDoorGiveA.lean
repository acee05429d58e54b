
/- give: a step of the program. No condition of its own. -/
import Derived.Test.YthfoljgaiincdaaGreatDoorRetA
namespace Go.Proofs.YthfoljgaiincdaaGreatDoor
open Go.RowKit Go.Fld Go.Sx
set_option linter.unusedVariables false
set_option linter.unusedSimpArgs false
noncomputable def gvFns : List (FuncId × Func) := [(26, Tryz.f26), (51, Tryz.f51), (52, Tryz.f52), (53, Tryz.f53), (54, Tryz.f54), (75, Tryz.f75), (76, Tryz.f76), (28, Tryz.f28), (23, Tryz.f23), (77, Tryz.f77), (79, Tryz.f79)]
theorem gvFns_ok : ∀ e ∈ gvFns, FnOK Tryz.prog e.1 e.2 :=
  fns_ok_cons ⟨Tryz.func26, by kernel_rfl, by kernel_rfl⟩ <| fns_ok_cons ⟨Tryz.func51, by kernel_rfl, by kernel_rfl⟩ <| fns_ok_cons ⟨Tryz.func52, by kernel_rfl, by kernel_rfl⟩ <| fns_ok_cons ⟨Tryz.func53, by kernel_rfl, by kernel_rfl⟩ <| fns_ok_cons ⟨Tryz.func54, by kernel_rfl, by kernel_rfl⟩ <| fns_ok_cons ⟨Tryz.func75, by kernel_rfl, by kernel_rfl⟩ <| fns_ok_cons ⟨Tryz.func76, by kernel_rfl, by kernel_rfl⟩ <| fns_ok_cons ⟨Tryz.func28, by kernel_rfl, by kernel_rfl⟩ <| fns_ok_cons ⟨Tryz.func23, by kernel_rfl, by kernel_rfl⟩ <| fns_ok_cons ⟨Tryz.func77, by kernel_rfl, by kernel_rfl⟩ <| fns_ok_cons ⟨Tryz.func79, by kernel_rfl, by kernel_rfl⟩ <| fns_ok_nil rfl
def gv1 : List (FuncId × Orc) := retOrcs ++ memOrcs ++ confOrcs ++ wordOrcs
theorem gv1_ok : Sounds Tryz.prog Tab gv1 := sounds_append (sounds_append (sounds_append retOrcs_ok memOrcs_ok) confOrcs_ok) wordOrcs_ok
noncomputable def gvEnv : Env := mkEnv Tryz.prog gvFns [] gv1 []
theorem gvEnv_ok (X : Nat → Prop) (w0 : World) (h0 : X 0) (hB : Bnd X w0) (hT : Tab w0) : EnvOK gvEnv X w0 := mkEnv_ok (fun e he => by cases he) (by kernel_rfl) gvFns_ok gv1_ok lpSounds_nil h0 hB hT
structure Gq where
  cf : Cf
  w : Int
  i : Int
  gen : Int
  disc : Bool
  st : Int
  cl : Int
  wd : Int
  e : Int
abbrev gB (p : Value) (q : Gq) : Go.Sx.Blk := .cells true true [.int .i64 q.cf.w, .int .i64 q.cf.s, .int .i64 q.cf.st, .int .i64 q.cf.wt, .int .i64 q.cf.u, .int .i64 q.w, .int .i64 q.i, .int .i64 q.gen, .bool q.disc, .int .i64 q.st, .int .i64 q.cl, .int .i64 q.wd, p, .int .i64 q.e]
abbrev pN : Value := .pointer none
abbrev pK (k : Nat) : Value := .pointer (some ⟨k, 0, none⟩)
abbrev gBN (q : Gq) : Go.Sx.Blk := gB pN q
abbrev gBR (k : Nat) (q : Gq) : Go.Sx.Blk := gB (pK k) q
/-- Where a look leads: 0 not its own, 1 busy, 2 it goes, 3 it rests. -/
def lookK {α : Type} (d : Option Slt) (q : Gq) (A B C D : α) : α :=
  bif !d.isSome then A else bif (slt0 d).st != 3 then A else bif (slt0 d).own != q.w then A else bif (slt0 d).gen != q.gen then A else
  bif (slt0 d).str != 0 then (bif !q.disc then B else bif q.disc then C else bif (slt0 d).brk then C else bif decide ((slt0 d).uses ≥ q.cf.u) then C else bif q.cl != 0 then C else D)
  else bif q.disc then C else bif (slt0 d).brk then C else bif decide ((slt0 d).uses ≥ q.cf.u) then C else bif q.cl != 0 then C else D
theorem lookK_map {α β : Type} (f : α → β) (d : Option Slt) (q : Gq) (A B C D : α) : f (lookK d q A B C D) = lookK d q (f A) (f B) (f C) (f D) := by
  unfold lookK
  cases d.isSome <;> cases ((slt0 d).st != 3) <;> cases ((slt0 d).own != q.w) <;> cases ((slt0 d).gen != q.gen) <;> cases ((slt0 d).str != 0) <;> cases q.disc <;> cases (slt0 d).brk <;> cases decide ((slt0 d).uses ≥ q.cf.u) <;> cases (q.cl != 0) <;> rfl
def lookC (d : Option Slt) (q : Gq) : Nat := lookK d q 0 1 2 3
theorem lookC_lt (d : Option Slt) (q : Gq) : lookC d q = 0 ∨ lookC d q = 1 ∨ lookC d q = 2 ∨ lookC d q = 3 := by
  unfold lookC lookK
  cases d.isSome <;> cases ((slt0 d).st != 3) <;> cases ((slt0 d).own != q.w) <;> cases ((slt0 d).gen != q.gen) <;> cases ((slt0 d).str != 0) <;> cases q.disc <;> cases (slt0 d).brk <;> cases decide ((slt0 d).uses ≥ q.cf.u) <;> cases (q.cl != 0) <;> decide
theorem lookK_C {α : Type} (d : Option Slt) (q : Gq) (A B C D : α) : lookK d q A B C D = bif Nat.beq (lookC d q) 0 then A else bif Nat.beq (lookC d q) 1 then B else bif Nat.beq (lookC d q) 2 then C else D := by
  unfold lookC lookK
  cases d.isSome <;> cases ((slt0 d).st != 3) <;> cases ((slt0 d).own != q.w) <;> cases ((slt0 d).gen != q.gen) <;> cases ((slt0 d).str != 0) <;> cases q.disc <;> cases (slt0 d).brk <;> cases decide ((slt0 d).uses ≥ q.cf.u) <;> cases (q.cl != 0) <;> rfl
def gEnd (q : Gq) (e : Int) : Gq := ⟨q.cf, q.w, q.i, q.gen, q.disc, 4, q.cl, q.wd, e⟩
def gAt (q : Gq) (st : Int) : Gq := ⟨q.cf, q.w, q.i, q.gen, q.disc, st, q.cl, q.wd, q.e⟩
def gCl (q : Gq) (c : Int) : Gq := ⟨q.cf, q.w, q.i, q.gen, q.disc, q.st, c, q.wd, q.e⟩
def gWd (q : Gq) (x : Int) : Gq := ⟨q.cf, q.w, q.i, q.gen, q.disc, q.st, q.cl, x, q.e⟩
def gCell (q : Gq) : Int := cellC q.cf q.i
def gLk (n : Nat) (l : List Int) (q : Gq) : Nat := lookC (decS (ldS n l (gCell q))) q
def gAft (q : Gq) : Option Int := aftS decS q.wd 4 q.w 0
def gHit (n : Nat) (l : List Int) (q : Gq) : Bool := bif (gAft q).isSome then casB n l (gCell q) q.wd else false
/-- It goes: a new Retire. -/
def gGoes (n : Nat) (l : List Int) (q : Gq) : Bool := bif q.st == 1 then (bif decide (gCell q < 0) then false else Nat.beq (gLk n l q) 2) else false
def gNew (n : Nat) (l : List Int) (q : Gq) : Rq := ⟨gCell q, ldS n l (gCell q), 0, fSwap, false, false⟩
def gq (n : Nat) (l : List Int) (q : Gq) : Gq :=
  bif q.st == 0 then (bif ldS n l 0 == 2 then gEnd (gCl q (ldS n l 0)) 5 else gAt (gCl q (ldS n l 0)) 1) else
  bif q.st == 1 then (bif decide (gCell q < 0) then gEnd q 2 else bif Nat.beq (gLk n l q) 0 then gEnd (gWd q (ldS n l (gCell q))) 2 else bif Nat.beq (gLk n l q) 1 then gEnd (gWd q (ldS n l (gCell q))) 8 else bif Nat.beq (gLk n l q) 2 then gAt (gWd q (ldS n l (gCell q))) 3 else gAt (gWd q (ldS n l (gCell q))) 2) else
  bif q.st == 2 then (bif gHit n l q then gEnd q 0 else gAt q 1) else q
def gmem (n : Nat) (l : List Int) (q : Gq) : List Int := bif q.st == 2 then (bif (gAft q).isSome then casS n l (gCell q) q.wd ((gAft q).getD 0) else l) else l
def gtch (n : Nat) (q : Gq) (t : Int) : Int :=
  bif q.st == 0 then tcS n 0 t else bif q.st == 1 then (bif decide (gCell q < 0) then t else tcS n (gCell q) t) else bif q.st == 2 then (bif (gAft q).isSome then tcS n (gCell q) t else t) else t
def gret (n : Nat) (l : List Int) (q : Gq) : Bool := (gq n l q).st == 4
/-- With a Retire at work. -/
def gqR (n : Nat) (l : List Int) (q : Gq) (r : Rq) : Gq := bif rret n l r then (bif (rstep n l r).sw then gEnd q 0 else gAt q 1) else q
abbrev gHN (q : Gq) (n c : Nat) (t : Int) (l : List Int) : List Go.Sx.Blk := gBN q :: memAt 2 n c t l
abbrev memA3 (n c : Nat) (t : Int) : Go.Sx.Blk := .cells true true [.slice (some ⟨3, 0, none⟩) n c, .int .i64 t]
abbrev gHR (q : Gq) (r : Rq) (n c : Nat) (t : Int) (l : List Int) : List Go.Sx.Blk := [gBR 2 q, memA3 n c t, rqB 2 r, .ints true true l]
abbrev gOut := Option (Value × List Go.Sx.Blk)
def gRest (d : Option Slt) (q : Gq) (ok : Bool) (N Y X : gOut) (c : Bool) : gOut :=
  bif !d.isSome then N else bif !(nextS (slt0 d) 4 q.w 0).isSome then N else bif (encS (slt0 (nextS (slt0 d) 4 q.w 0))).isSome then bt ok (bif c then Y else X) else N
theorem gN0_tree (cf : Cf) (w i gen : Int) (disc : Bool) (cl wd e : Int) (n c : Nat) (t : Int) (l : List Int) : (callV gvEnv 40 26 [p0, pp1] (gHN (⟨cf, w, i, gen, disc, 0, cl, wd, e⟩) n c (t) (l))).get =
    bt (okM n l) (bif ldS n l 0 == 2 then some (.bool true, (gHN (gEnd (gCl ⟨cf, w, i, gen, disc, 0, cl, wd, e⟩ (ldS n l 0)) 5) n c (tcS n 0 t) (l))) else some (.bool false, (gHN (gAt (gCl ⟨cf, w, i, gen, disc, 0, cl, wd, e⟩ (ldS n l 0)) 1) n c (tcS n 0 t) (l)))) := by kernel_rfl
theorem gN1_tree (cf : Cf) (w i gen : Int) (disc : Bool) (cl wd e : Int) (n c : Nat) (t : Int) (l : List Int) : (callV gvEnv 40 26 [p0, pp1] (gHN (⟨cf, w, i, gen, disc, 1, cl, wd, e⟩) n c (t) (l))).get =
    bif decide (cellC cf i < 0) then some (.bool true, (gHN (gEnd ⟨cf, w, i, gen, disc, 1, cl, wd, e⟩ 2) n c (t) (l))) else bt (okM n l) (lookK (decS (ldS n l (cellC cf i))) ⟨cf, w, i, gen, disc, 1, cl, wd, e⟩ (some (.bool true, (gHN (gEnd (gWd ⟨cf, w, i, gen, disc, 1, cl, wd, e⟩ (ldS n l (cellC cf i))) 2) n c (tcS n (cellC cf i) t) (l)))) (some (.bool true, (gHN (gEnd (gWd ⟨cf, w, i, gen, disc, 1, cl, wd, e⟩ (ldS n l (cellC cf i))) 8) n c (tcS n (cellC cf i) t) (l)))) (some (.bool false, gBR 3 (gAt (gWd ⟨cf, w, i, gen, disc, 1, cl, wd, e⟩ (ldS n l (gCell ⟨cf, w, i, gen, disc, 1, cl, wd, e⟩))) 3) :: memAt 2 n c (tcS n (gCell ⟨cf, w, i, gen, disc, 1, cl, wd, e⟩) t) l ++ [rqB 3 (gNew n l ⟨cf, w, i, gen, disc, 1, cl, wd, e⟩)])) (some (.bool false, (gHN (gAt (gWd ⟨cf, w, i, gen, disc, 1, cl, wd, e⟩ (ldS n l (cellC cf i))) 2) n c (tcS n (cellC cf i) t) (l))))) := by kernel_rfl
theorem gN2_tree (cf : Cf) (w i gen : Int) (disc : Bool) (cl wd e : Int) (n c : Nat) (t : Int) (l : List Int) : (callV gvEnv 40 26 [p0, pp1] (gHN (⟨cf, w, i, gen, disc, 2, cl, wd, e⟩) n c (t) (l))).get =
    gRest (decS wd) ⟨cf, w, i, gen, disc, 2, cl, wd, e⟩ (okM n l) (some (.bool false, (gHN (gAt ⟨cf, w, i, gen, disc, 2, cl, wd, e⟩ 1) n c (t) (l)))) (some (.bool true, (gHN (gEnd ⟨cf, w, i, gen, disc, 2, cl, wd, e⟩ 0) n c (tcS n (cellC cf i) t) (casS n l (cellC cf i) wd ((encS (slt0 (nextS (slt0 (decS wd)) 4 w 0))).getD 0))))) (some (.bool false, (gHN (gAt ⟨cf, w, i, gen, disc, 2, cl, wd, e⟩ 1) n c (tcS n (cellC cf i) t) (casS n l (cellC cf i) wd ((encS (slt0 (nextS (slt0 (decS wd)) 4 w 0))).getD 0))))) (casB n l (cellC cf i) wd) := by kernel_rfl
theorem gN4_tree (cf : Cf) (w i gen : Int) (disc : Bool) (cl wd e : Int) (n c : Nat) (t : Int) (l : List Int) : (callV gvEnv 40 26 [p0, pp1] (gHN (⟨cf, w, i, gen, disc, 4, cl, wd, e⟩) n c (t) (l))).get =
    some (.bool true, (gHN (⟨cf, w, i, gen, disc, 4, cl, wd, e⟩) n c (t) (l))) := by kernel_rfl
theorem gR0_tree (cf : Cf) (w i gen : Int) (disc : Bool) (cl wd e : Int) (r : Rq) (n c : Nat) (t : Int) (l : List Int) : (callV gvEnv 40 26 [p0, pp1] (gHR (⟨cf, w, i, gen, disc, 0, cl, wd, e⟩) r n c (t) (l))).get =
    bt (okM n l) (bif ldS n l 0 == 2 then some (.bool true, (gHR (gEnd (gCl ⟨cf, w, i, gen, disc, 0, cl, wd, e⟩ (ldS n l 0)) 5) r n c (tcS n 0 t) (l))) else some (.bool false, (gHR (gAt (gCl ⟨cf, w, i, gen, disc, 0, cl, wd, e⟩ (ldS n l 0)) 1) r n c (tcS n 0 t) (l)))) := by kernel_rfl
theorem gR1_tree (cf : Cf) (w i gen : Int) (disc : Bool) (cl wd e : Int) (r : Rq) (n c : Nat) (t : Int) (l : List Int) : (callV gvEnv 40 26 [p0, pp1] (gHR (⟨cf, w, i, gen, disc, 1, cl, wd, e⟩) r n c (t) (l))).get =
    bif decide (cellC cf i < 0) then some (.bool true, (gHR (gEnd ⟨cf, w, i, gen, disc, 1, cl, wd, e⟩ 2) r n c (t) (l))) else bt (okM n l) (lookK (decS (ldS n l (cellC cf i))) ⟨cf, w, i, gen, disc, 1, cl, wd, e⟩ (some (.bool true, (gHR (gEnd (gWd ⟨cf, w, i, gen, disc, 1, cl, wd, e⟩ (ldS n l (cellC cf i))) 2) r n c (tcS n (cellC cf i) t) (l)))) (some (.bool true, (gHR (gEnd (gWd ⟨cf, w, i, gen, disc, 1, cl, wd, e⟩ (ldS n l (cellC cf i))) 8) r n c (tcS n (cellC cf i) t) (l)))) (some (.bool false, [gBR 4 (gAt (gWd ⟨cf, w, i, gen, disc, 1, cl, wd, e⟩ (ldS n l (gCell ⟨cf, w, i, gen, disc, 1, cl, wd, e⟩))) 3), memA3 n c (tcS n (gCell ⟨cf, w, i, gen, disc, 1, cl, wd, e⟩) t), rqB 2 r, .ints true true l, rqB 4 (gNew n l ⟨cf, w, i, gen, disc, 1, cl, wd, e⟩)])) (some (.bool false, (gHR (gAt (gWd ⟨cf, w, i, gen, disc, 1, cl, wd, e⟩ (ldS n l (cellC cf i))) 2) r n c (tcS n (cellC cf i) t) (l))))) := by kernel_rfl
theorem gR2_tree (cf : Cf) (w i gen : Int) (disc : Bool) (cl wd e : Int) (r : Rq) (n c : Nat) (t : Int) (l : List Int) : (callV gvEnv 40 26 [p0, pp1] (gHR (⟨cf, w, i, gen, disc, 2, cl, wd, e⟩) r n c (t) (l))).get =
    gRest (decS wd) ⟨cf, w, i, gen, disc, 2, cl, wd, e⟩ (okM n l) (some (.bool false, (gHR (gAt ⟨cf, w, i, gen, disc, 2, cl, wd, e⟩ 1) r n c (t) (l)))) (some (.bool true, (gHR (gEnd ⟨cf, w, i, gen, disc, 2, cl, wd, e⟩ 0) r n c (tcS n (cellC cf i) t) (casS n l (cellC cf i) wd ((encS (slt0 (nextS (slt0 (decS wd)) 4 w 0))).getD 0))))) (some (.bool false, (gHR (gAt ⟨cf, w, i, gen, disc, 2, cl, wd, e⟩ 1) r n c (tcS n (cellC cf i) t) (casS n l (cellC cf i) wd ((encS (slt0 (nextS (slt0 (decS wd)) 4 w 0))).getD 0))))) (casB n l (cellC cf i) wd) := by kernel_rfl
theorem gR3_tree (cf : Cf) (w i gen : Int) (disc : Bool) (cl wd e : Int) (r : Rq) (n c : Nat) (t : Int) (l : List Int) : (callV gvEnv 40 26 [p0, pp1] (gHR (⟨cf, w, i, gen, disc, 3, cl, wd, e⟩) r n c (t) (l))).get =
    bt (okM n l && rOK r.f) (bif !rret n l r then some (.bool false, (gHR (⟨cf, w, i, gen, disc, 3, cl, wd, e⟩) (rstep n l r) n c (rtch n r t) (rmem n l r))) else bif (rstep n l r).sw then some (.bool true, (gHR (gEnd ⟨cf, w, i, gen, disc, 3, cl, wd, e⟩ 0) (rstep n l r) n c (rtch n r t) (rmem n l r))) else some (.bool false, (gHR (gAt ⟨cf, w, i, gen, disc, 3, cl, wd, e⟩ 1) (rstep n l r) n c (rtch n r t) (rmem n l r)))) := by kernel_rfl
theorem gR4_tree (cf : Cf) (w i gen : Int) (disc : Bool) (cl wd e : Int) (r : Rq) (n c : Nat) (t : Int) (l : List Int) : (callV gvEnv 40 26 [p0, pp1] (gHR (⟨cf, w, i, gen, disc, 4, cl, wd, e⟩) r n c (t) (l))).get =
    some (.bool true, (gHR (⟨cf, w, i, gen, disc, 4, cl, wd, e⟩) r n c (t) (l))) := by kernel_rfl
end Go.Proofs.YthfoljgaiincdaaGreatDoor
