
/- stream: a step of the program. No condition of its own. -/
import Derived.Test.YthfoljgaiincdaaDoorLawGen
import Derived.Test.YthfoljgaiincdaaDoorStrK
namespace Go.Proofs.YthfoljgaiincdaaDoor
open Go.RowKit Go.Fld Go.Sx
set_option linter.unusedVariables false
set_option linter.unusedSimpArgs false
noncomputable def svFns : List (FuncId × Func) := [(37, Tryd.f37), (61, Tryd.f61), (60, Tryd.f60), (38, Tryd.f38), (36, Tryd.f36), (40, Tryd.f40), (58, Tryd.f58), (63, Tryd.f63)]
theorem svFns_ok : ∀ e ∈ svFns, FnOK Tryd.prog e.1 e.2 :=
  fns_ok_cons ⟨Tryd.func37, by kernel_rfl, by kernel_rfl⟩ <| fns_ok_cons ⟨Tryd.func61, by kernel_rfl, by kernel_rfl⟩ <| fns_ok_cons ⟨Tryd.func60, by kernel_rfl, by kernel_rfl⟩ <| fns_ok_cons ⟨Tryd.func38, by kernel_rfl, by kernel_rfl⟩ <| fns_ok_cons ⟨Tryd.func36, by kernel_rfl, by kernel_rfl⟩ <| fns_ok_cons ⟨Tryd.func40, by kernel_rfl, by kernel_rfl⟩ <| fns_ok_cons ⟨Tryd.func58, by kernel_rfl, by kernel_rfl⟩ <| fns_ok_cons ⟨Tryd.func63, by kernel_rfl, by kernel_rfl⟩ <| fns_ok_nil rfl
def sv1 : List (FuncId × Orc) := [(77, tzO)] ++ memOrcs ++ confOrcs ++ wordOrcs
theorem sv1_ok : SoundsG KT Tryd.prog TT sv1 := sounds_appendG (sounds_appendG (sounds_appendG (sounds_consG tz_sound sounds_nilG) memOrcs_ok.tt) confOrcs_ok.tt) wordOrcs_ok.tt
noncomputable def svEnv : Env := mkEnv Tryd.prog svFns [] sv1 []
theorem svEnv_ok (X : Nat → Prop) (w0 : World) (h0 : ∀ k, KT k → X k) (hB : Bnd X w0) (hT : TT w0) : EnvOK svEnv X w0 := mkEnv_okG (fun e he => by cases he) (by kernel_rfl) svFns_ok sv1_ok lpSounds_nilG h0 hB hT
def fOpen : Nat := 58
def fShut : Nat := 63
structure Sq where
  cf : Cf
  w : Int
  i : Int
  gen : Int
  st : Int
  wd : Int
  nx : Int
  num : Int
  e : Int
/-- What a closure holds: that of Open, that of Shut. -/
inductive Kd where
  | op (w : Int) (c : Cf)
  | sh (w n : Int)
abbrev kV (f a b : Nat) : Value := .func (.func f) #[] #[.pointer (some ⟨a, 0, none⟩), .pointer (some ⟨b, 0, none⟩)]
abbrev sB (v : Value) (q : Sq) : Go.Sx.Blk := .cells true true [.int .i64 q.cf.w, .int .i64 q.cf.s, .int .i64 q.cf.st, .int .i64 q.cf.wt, .int .i64 q.cf.u, .int .i64 q.w, .int .i64 q.i, .int .i64 q.gen, .int .i64 q.st, .int .i64 q.wd, .int .i64 q.nx, .int .i64 q.num, v, .int .i64 q.e]
abbrev i1 (x : Int) : Go.Sx.Blk := .cells true true [.int .i64 x]
abbrev cB (c : Cf) : Go.Sx.Blk := .cells true true (cfCells c)
abbrev memA4 (n c : Nat) (t : Int) : Go.Sx.Blk := .cells true true [.slice (some ⟨4, 0, none⟩) n c, .int .i64 t]
abbrev kO (q : Sq) (bw : Int) (bc : Cf) (n c : Nat) (t : Int) (l : List Int) : List Go.Sx.Blk := [sB (kV fOpen 2 3) q, memA4 n c t, i1 bw, cB bc, .ints true true l]
abbrev kS (q : Sq) (bw bn : Int) (n c : Nat) (t : Int) (l : List Int) : List Go.Sx.Blk := [sB (kV fShut 2 3) q, memA4 n c t, i1 bw, i1 bn, .ints true true l]
def sEnd (q : Sq) (e : Int) : Sq := ⟨q.cf, q.w, q.i, q.gen, 3, q.wd, q.nx, q.num, e⟩
def sAt (q : Sq) (st : Int) : Sq := ⟨q.cf, q.w, q.i, q.gen, st, q.wd, q.nx, q.num, q.e⟩
def sWd (q : Sq) (x : Int) : Sq := ⟨q.cf, q.w, q.i, q.gen, q.st, x, q.nx, q.num, q.e⟩
def sGo (q : Sq) (wd nx num : Int) : Sq := ⟨q.cf, q.w, q.i, q.gen, 2, wd, nx, num, q.e⟩
def sCell (q : Sq) : Int := cellC q.cf q.i
/-- What one bit is turned. -/
def sX (a b : Int) : Int := IntKind.u64.wrap (bits .xor .i64 a b)
/-- Where a look leads. -/
def slookK {α : Type} (d : Option Slt) (q : Sq) (A Z : α) : α :=
  bif !d.isSome then A else bif (slt0 d).st != 3 then A else bif (slt0 d).own != q.w then A else bif (slt0 d).gen != q.gen then A else Z
theorem sO0_tree (cf : Cf) (w i gen wd nx num e : Int) (bw : Int) (bc : Cf) (n c : Nat) (t : Int) (l : List Int) : (callV svEnv 40 37 [p0, pp1] (kO (⟨cf, w, i, gen, 0, wd, nx, num, e⟩) bw bc n c (t) (l))).get =
    bt (okM n l) (bif ldS n l 0 == 2 then some (.bool true, (kO (sEnd ⟨cf, w, i, gen, 0, wd, nx, num, e⟩ 5) bw bc n c (tcS n 0 t) (l))) else some (.bool false, (kO (sAt ⟨cf, w, i, gen, 0, wd, nx, num, e⟩ 1) bw bc n c (tcS n 0 t) (l)))) := by kernel_rfl
theorem sO1_tree (cf : Cf) (w i gen wd nx num e : Int) (bw : Int) (bc : Cf) (n c : Nat) (t : Int) (l : List Int) : (callV svEnv 40 37 [p0, pp1] (kO (⟨cf, w, i, gen, 1, wd, nx, num, e⟩) bw bc n c (t) (l))).get =
    bif decide (cellC cf i < 0) then some (.bool true, (kO (sEnd ⟨cf, w, i, gen, 1, wd, nx, num, e⟩ 2) bw bc n c (t) (l))) else bt (okM n l) (slookK (decS (ldS n l (cellC cf i))) ⟨cf, w, i, gen, 1, wd, nx, num, e⟩ (some (.bool true, (kO (sEnd (sWd ⟨cf, w, i, gen, 1, wd, nx, num, e⟩ (ldS n l (cellC cf i))) 2) bw bc n c (tcS n (cellC cf i) t) (l)))) (bif (slt0 (decS (ldS n l (cellC cf i)))).brk then some (.bool true, (kO (sEnd (sWd ⟨cf, w, i, gen, 1, wd, nx, num, e⟩ (ldS n l (cellC cf i))) 9) bw bc n c (tcS n (cellC cf i) t) (l))) else bif !(nextS (slt0 (decS (ldS n l (cellC cf i)))) 14 bw bc.st).isSome then some (.bool true, (kO (sEnd (sWd ⟨cf, w, i, gen, 1, wd, nx, num, e⟩ (ldS n l (cellC cf i))) 10) bw bc n c (tcS n (cellC cf i) t) (l))) else bt (tzOK (sX (slt0 (decS (ldS n l (cellC cf i)))).str (slt0 (nextS (slt0 (decS (ldS n l (cellC cf i)))) 14 bw bc.st)).str)) (some (.bool false, (kO (sGo ⟨cf, w, i, gen, 1, wd, nx, num, e⟩ (ldS n l (cellC cf i)) ((encS (slt0 (nextS (slt0 (decS (ldS n l (cellC cf i)))) 14 bw bc.st))).getD 0) (tzV (sX (slt0 (decS (ldS n l (cellC cf i)))).str (slt0 (nextS (slt0 (decS (ldS n l (cellC cf i)))) 14 bw bc.st)).str))) bw bc n c (tcS n (cellC cf i) t) (l)))))) := by kernel_rfl
theorem sO2_tree (cf : Cf) (w i gen wd nx num e : Int) (bw : Int) (bc : Cf) (n c : Nat) (t : Int) (l : List Int) : (callV svEnv 40 37 [p0, pp1] (kO (⟨cf, w, i, gen, 2, wd, nx, num, e⟩) bw bc n c (t) (l))).get =
    bt (okM n l) (bif casB n l (cellC cf i) wd then some (.bool true, (kO (sEnd ⟨cf, w, i, gen, 2, wd, nx, num, e⟩ 0) bw bc n c (tcS n (cellC cf i) t) (casS n l (cellC cf i) wd nx))) else some (.bool false, (kO (sAt ⟨cf, w, i, gen, 2, wd, nx, num, e⟩ 1) bw bc n c (tcS n (cellC cf i) t) (casS n l (cellC cf i) wd nx)))) := by kernel_rfl
theorem sO3_tree (cf : Cf) (w i gen wd nx num e : Int) (bw : Int) (bc : Cf) (n c : Nat) (t : Int) (l : List Int) : (callV svEnv 40 37 [p0, pp1] (kO (⟨cf, w, i, gen, 3, wd, nx, num, e⟩) bw bc n c (t) (l))).get =
    some (.bool true, (kO (⟨cf, w, i, gen, 3, wd, nx, num, e⟩) bw bc n c (t) (l))) := by kernel_rfl
theorem sS0_tree (cf : Cf) (w i gen wd nx num e : Int) (bw bn : Int) (n c : Nat) (t : Int) (l : List Int) : (callV svEnv 40 37 [p0, pp1] (kS (⟨cf, w, i, gen, 0, wd, nx, num, e⟩) bw bn n c (t) (l))).get =
    bt (okM n l) (bif ldS n l 0 == 2 then some (.bool true, (kS (sEnd ⟨cf, w, i, gen, 0, wd, nx, num, e⟩ 5) bw bn n c (tcS n 0 t) (l))) else some (.bool false, (kS (sAt ⟨cf, w, i, gen, 0, wd, nx, num, e⟩ 1) bw bn n c (tcS n 0 t) (l)))) := by kernel_rfl
theorem sS1_tree (cf : Cf) (w i gen wd nx num e : Int) (bw bn : Int) (n c : Nat) (t : Int) (l : List Int) : (callV svEnv 40 37 [p0, pp1] (kS (⟨cf, w, i, gen, 1, wd, nx, num, e⟩) bw bn n c (t) (l))).get =
    bif decide (cellC cf i < 0) then some (.bool true, (kS (sEnd ⟨cf, w, i, gen, 1, wd, nx, num, e⟩ 2) bw bn n c (t) (l))) else bt (okM n l) (slookK (decS (ldS n l (cellC cf i))) ⟨cf, w, i, gen, 1, wd, nx, num, e⟩ (some (.bool true, (kS (sEnd (sWd ⟨cf, w, i, gen, 1, wd, nx, num, e⟩ (ldS n l (cellC cf i))) 2) bw bn n c (tcS n (cellC cf i) t) (l)))) (bif !(nextS (slt0 (decS (ldS n l (cellC cf i)))) 15 bw bn).isSome then some (.bool true, (kS (sEnd (sWd ⟨cf, w, i, gen, 1, wd, nx, num, e⟩ (ldS n l (cellC cf i))) 11) bw bn n c (tcS n (cellC cf i) t) (l))) else bt (tzOK (sX (slt0 (decS (ldS n l (cellC cf i)))).str (slt0 (nextS (slt0 (decS (ldS n l (cellC cf i)))) 15 bw bn)).str)) (some (.bool false, (kS (sGo ⟨cf, w, i, gen, 1, wd, nx, num, e⟩ (ldS n l (cellC cf i)) ((encS (slt0 (nextS (slt0 (decS (ldS n l (cellC cf i)))) 15 bw bn))).getD 0) (tzV (sX (slt0 (decS (ldS n l (cellC cf i)))).str (slt0 (nextS (slt0 (decS (ldS n l (cellC cf i)))) 15 bw bn)).str))) bw bn n c (tcS n (cellC cf i) t) (l)))))) := by kernel_rfl
theorem sS2_tree (cf : Cf) (w i gen wd nx num e : Int) (bw bn : Int) (n c : Nat) (t : Int) (l : List Int) : (callV svEnv 40 37 [p0, pp1] (kS (⟨cf, w, i, gen, 2, wd, nx, num, e⟩) bw bn n c (t) (l))).get =
    bt (okM n l) (bif casB n l (cellC cf i) wd then some (.bool true, (kS (sEnd ⟨cf, w, i, gen, 2, wd, nx, num, e⟩ 0) bw bn n c (tcS n (cellC cf i) t) (casS n l (cellC cf i) wd nx))) else some (.bool false, (kS (sAt ⟨cf, w, i, gen, 2, wd, nx, num, e⟩ 1) bw bn n c (tcS n (cellC cf i) t) (casS n l (cellC cf i) wd nx)))) := by kernel_rfl
theorem sS3_tree (cf : Cf) (w i gen wd nx num e : Int) (bw bn : Int) (n c : Nat) (t : Int) (l : List Int) : (callV svEnv 40 37 [p0, pp1] (kS (⟨cf, w, i, gen, 3, wd, nx, num, e⟩) bw bn n c (t) (l))).get =
    some (.bool true, (kS (⟨cf, w, i, gen, 3, wd, nx, num, e⟩) bw bn n c (t) (l))) := by kernel_rfl
end Go.Proofs.YthfoljgaiincdaaDoor
