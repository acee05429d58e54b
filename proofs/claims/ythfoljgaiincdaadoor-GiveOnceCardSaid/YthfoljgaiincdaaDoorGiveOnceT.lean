
/- GiveOnce: its loops. No condition of its own. -/
import Derived.Test.YthfoljgaiincdaaDoorGiveL
import Derived.Test.YthfoljgaiincdaaDoorLifePlain
import Derived.Test.YthfoljgaiincdaaDoorWords
namespace Go.Proofs.YthfoljgaiincdaaDoor
open Go.RowKit Go.Fld Go.Sx
set_option linter.unusedVariables false
set_option linter.unusedSimpArgs false
noncomputable def goBody : Code := Tryd.f11.body.getD .skip
noncomputable def goRound0 : Code := lpB (blkAt 0 goBody)
noncomputable def goRound2 : Code := lpB (blkAt 2 goBody)
theorem go_loop0 : blkAt 0 goBody = .loop goRound0 := by kernel_rfl
theorem go_loop2 : blkAt 2 goBody = .loop goRound2 := by kernel_rfl
def ep0 {α : Type} (N : Nat) (l : List Int) (K : Option α) : Option α := bt (inRange 0 N) (bt (Nat.blt (0 + Int.toNat 0) l.length) K)
structure GoA where
  disc : Bool
  N : Nat
  i : Int
  cf : Cf
  l0 : List Int
  s : Slt
abbrev goA (G : Gv) : List Go.Sx.Blk := [G.r0, G.r1, G.r2]
abbrev goW (a : GoA) : List Value := [.bool a.disc, .bool true, .pointer (some ⟨3, 0, none⟩), .slice (some ⟨4, 0, none⟩) a.N a.N, .int .i64 a.i, .pointer (some ⟨5, 0, none⟩)]
abbrev goB (G : Gv) (a : GoA) : List Go.Sx.Blk := goA G ++ [.cells true true (cfCells a.cf), .ints true true a.l0, .cells true true (sltCells a.s)]
abbrev goV0 (a : GoA) (n : Int) : List Value := goW a ++ [.pointer (some ⟨6, 0, none⟩), .pointer (some ⟨7, 0, none⟩), .pointer (some ⟨8, 0, none⟩), .int .i64 n]
abbrev goHN (G : Gv) (a : GoA) (N C : Nat) (t : Int) (l : List Int) (x y : Gq) : List Go.Sx.Blk := goB G a ++ [.cells true true [.slice (some ⟨9, 0, none⟩) N C, .int .i64 t], gBN x, gBN y, .ints true true l]
abbrev goHR (G : Gv) (a : GoA) (N C : Nat) (t : Int) (l : List Int) (x y : Gq) (r : Rq) : List Go.Sx.Blk := goB G a ++ [.cells true true [.slice (some ⟨9, 0, none⟩) N C, .int .i64 t], gBR 10 x, gBN y, .ints true true l, rqB 10 r]
theorem go_treeN (G : Gv) (a : GoA) (N C : Nat) (t : Int) (l : List Int) (x y : Gq) (n : Int) :
    (roundV glEnv 40 noLps 226 [2, 7, 8, 9, 10, 11, 12, 13, 14, 15] 3 goRound0 (unpack 226 [2, 7, 8, 9, 10, 11, 12, 13, 14, 15] (goV0 a n) (goHN G a N C t l x y))).get =
    bif decide (n < 9) then bt (okM N l && gOKN x.st) (bif gGoes N l x then some (.normal, goV0 a (w64 (n + 1)), goHR G a N C (gtch N x t) (gmem N l x) (gq N l x) y (gNew N l x))
      else bif !gret N l x then some (.normal, goV0 a (w64 (n + 1)), goHN G a N C (gtch N x t) (gmem N l x) (gq N l x) y) else some (.exit 0, goV0 a n, goHN G a N C (gtch N x t) (gmem N l x) (gq N l x) y))
    else some (.exit 0, goV0 a n, goHN G a N C t l x y) := by kernel_rfl
theorem go_treeR (G : Gv) (a : GoA) (N C : Nat) (t : Int) (l : List Int) (x y : Gq) (r : Rq) (n : Int) :
    (roundV glEnv 40 noLps 226 [2, 7, 8, 9, 10, 11, 12, 13, 14, 15] 3 goRound0 (unpack 226 [2, 7, 8, 9, 10, 11, 12, 13, 14, 15] (goV0 a n) (goHR G a N C t l (gAt x 3) y r))).get =
    bif decide (n < 9) then bt (okM N l && gOKR 3 r.f) (bif !((gqR N l (gAt x 3) r).st == 4) then some (.normal, goV0 a (w64 (n + 1)), goHR G a N C (rtch N r t) (rmem N l r) (gqR N l (gAt x 3) r) y (rstep N l r))
      else some (.exit 0, goV0 a n, goHR G a N C (rtch N r t) (rmem N l r) (gqR N l (gAt x 3) r) y (rstep N l r)))
    else some (.exit 0, goV0 a n, goHR G a N C t l (gAt x 3) y r) := by kernel_rfl
abbrev goV2 (a : GoA) (S : Nat) (n e : Int) : List Value := goW a ++ [.pointer (some ⟨6, 0, none⟩), .pointer (some ⟨7, 0, none⟩), .int .i64 n, .int .i64 e, vecOf 8 S]
abbrev goH2 (G : Gv) (a : GoA) (N C S : Nat) (D : Nat → Slt) (t : Int) (l : List Int) (y : Gq) : List Go.Sx.Blk := goB G a ++ [.cells true true [.slice (some ⟨9, 0, none⟩) N C, .int .i64 t], gBN y, .rows true true 9 S (slR D), .ints true true l]
abbrev goHR2 (G : Gv) (a : GoA) (N C S : Nat) (D : Nat → Slt) (t : Int) (l : List Int) (y : Gq) (r : Rq) : List Go.Sx.Blk := goB G a ++ [.cells true true [.slice (some ⟨9, 0, none⟩) N C, .int .i64 t], gBR 10 y, .rows true true 9 S (slR D), .ints true true l, rqB 10 r]
theorem go_tree2 (G : Gv) (a : GoA) (N C S : Nat) (D : Nat → Slt) (t : Int) (l : List Int) (y : Gq) (n e : Int) :
    (roundV glEnv 40 noLps 226 [2, 7, 8, 9, 10, 11, 12, 14, 15, 16, 18] 3 goRound2 (unpack 226 [2, 7, 8, 9, 10, 11, 12, 14, 15, 16, 18] (goV2 a S n e) (goH2 G a N C S D t l y))).get =
    bif decide (n < 20) then bt (okM N l && gOKN y.st) (bif gGoes N l y then some (.normal, goV2 a S (w64 (n + 1)) e, goHR2 G a N C S D (gtch N y t) (gmem N l y) (gq N l y) (gNew N l y))
      else bif !gret N l y then some (.normal, goV2 a S (w64 (n + 1)) e, goH2 G a N C S D (gtch N y t) (gmem N l y) (gq N l y)) else some (.exit 2, goV2 a S n e, goH2 G a N C S D (gtch N y t) (gmem N l y) (gq N l y)))
    else some (.exit 2, goV2 a S n e, goH2 G a N C S D t l y) := by kernel_rfl
abbrev goO2 (G : Gv) (a : GoA) (S : Nat) (D : Nat → Slt) (y : Gq) (e : Int) : Exit × List Value × List Go.Sx.Blk := (.normal, goW a ++ [.pointer (some ⟨6, 0, none⟩), .int .i64 e, vecOf 7 S], goB G a ++ [gBN y, .rows true true 9 S (slR D)])
theorem go_norm0N (G : Gv) (a : GoA) (N C : Nat) (t : Int) (l : List Int) (x y : Gq) (n : Int) : (normV 226 [2, 7, 8, 9, 10, 11, 12, 13, 14, 15] 3 (unpack 226 [2, 7, 8, 9, 10, 11, 12, 13, 14, 15] (goV0 a n) (goHN G a N C t l x y))).get = some (goV0 a n, goHN G a N C t l x y) := by kernel_rfl
theorem go_norm0R (G : Gv) (a : GoA) (N C : Nat) (t : Int) (l : List Int) (x y : Gq) (r : Rq) (n : Int) : (normV 226 [2, 7, 8, 9, 10, 11, 12, 13, 14, 15] 3 (unpack 226 [2, 7, 8, 9, 10, 11, 12, 13, 14, 15] (goV0 a n) (goHR G a N C t l x y r))).get = some (goV0 a n, goHR G a N C t l x y r) := by kernel_rfl
theorem go_norm2 (G : Gv) (a : GoA) (N C S : Nat) (D : Nat → Slt) (t : Int) (l : List Int) (y : Gq) (n e : Int) : (normV 226 [2, 7, 8, 9, 10, 11, 14, 16, 18] 3 (unpack 226 [2, 7, 8, 9, 10, 11, 12, 14, 15, 16, 18] (goV2 a S n e) (goH2 G a N C S D t l y))).get = some (goO2 G a S D y e).2 := by kernel_rfl
noncomputable def goEnv (V0 : List Value) (H0 : List Go.Sx.Blk) (o0 : Exit × List Value × List Go.Sx.Blk) (V2 : List Value) (H2 : List Go.Sx.Blk) (o2 : Exit × List Value × List Go.Sx.Blk) : Env :=
  mkEnv Tryd.prog glFns [slotEq] gl1 [(11, 0, loopV 226 [2, 7, 8, 9, 10, 11, 12, 13, 14, 15] [2, 7, 8, 9, 10, 11, 12, 13, 14, 15] (specC V0 H0 o0) 3), (11, 2, loopV 226 [2, 7, 8, 9, 10, 11, 12, 14, 15, 16, 18] [2, 7, 8, 9, 10, 11, 14, 16, 18] (specC V2 H2 o2) 3)]
noncomputable def goEnvN : Env := mkEnv Tryd.prog glFns [slotEq] gl1 [(11, 0, fun _ _ => .bad), (11, 2, fun _ _ => .bad)]
theorem goEnvN_ok (X : Nat → Prop) (w0 : World) (hX : X 0) (hB : Bnd X w0) (hT : Tab w0) : EnvOK goEnvN X w0 :=
  mkEnv_ok slotEq_ok (by kernel_rfl) glFns_ok gl1_ok (lpSounds_cons (lpSound_bad (c := goBody) Tryd.func11 (by kernel_rfl) (by kernel_rfl)) <| lpSounds_cons (lpSound_bad (c := goBody) Tryd.func11 (by kernel_rfl) (by kernel_rfl)) lpSounds_nil) hX hB hT
def GoLp (id : Nat) (K K' : List Nat) (V : List Value) (H : List Go.Sx.Blk) (o : Exit × List Value × List Go.Sx.Blk) : Prop := ∀ (X : Nat → Prop) (w0 : World), EnvOK glEnv X w0 → RunsB Tryd.prog X w0 0 3 (.block id (blkAt id goBody)) (unpack 226 K V H) o.1 (unpack 226 K' o.2.1 o.2.2)
theorem goEnv_ok {V0 : List Value} {H0 : List Go.Sx.Blk} {o0 : Exit × List Value × List Go.Sx.Blk} {V2 : List Value} {H2 : List Go.Sx.Blk} {o2 : Exit × List Value × List Go.Sx.Blk}
    (h0 : GoLp 0 [2, 7, 8, 9, 10, 11, 12, 13, 14, 15] [2, 7, 8, 9, 10, 11, 12, 13, 14, 15] V0 H0 o0) (h2 : GoLp 2 [2, 7, 8, 9, 10, 11, 12, 14, 15, 16, 18] [2, 7, 8, 9, 10, 11, 14, 16, 18] V2 H2 o2) (X : Nat → Prop) (w0 : World) (hX : X 0) (hB : Bnd X w0) (hT : Tab w0) : EnvOK (goEnv V0 H0 o0 V2 H2 o2) X w0 :=
  mkEnv_ok slotEq_ok (by kernel_rfl) glFns_ok gl1_ok (lpSounds_cons (lpSound_const (c := goBody) Tryd.func11 (by kernel_rfl) (by kernel_rfl) fun X W0 a b c => h0 X W0 (glEnv_ok X W0 a b c)) <| lpSounds_cons (lpSound_const (c := goBody) Tryd.func11 (by kernel_rfl) (by kernel_rfl) fun X W0 a b c => h2 X W0 (glEnv_ok X W0 a b c)) lpSounds_nil) hX hB hT
end Go.Proofs.YthfoljgaiincdaaDoor
