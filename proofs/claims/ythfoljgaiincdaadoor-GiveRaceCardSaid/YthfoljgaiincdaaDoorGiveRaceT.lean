
/- GiveRace: its loops. No condition of its own. -/
import Derived.Test.YthfoljgaiincdaaDoorGiveL
namespace Go.Proofs.YthfoljgaiincdaaDoor
open Go.RowKit Go.Fld Go.Sx
set_option linter.unusedVariables false
set_option linter.unusedSimpArgs false
noncomputable def grBody : Code := Tryd.f10.body.getD .skip
noncomputable def grRound0 : Code := lpB (blkAt 0 grBody)
theorem gr_loop0 : blkAt 0 grBody = .loop grRound0 := by kernel_rfl
structure Tb where
  nt : Nat
  ct : Nat
  ti : Nat → Nat → Int
  tb : Nat → Nat → Bool
abbrev Tb.row (T : Tb) : Go.Sx.Blk := .rows false false 1 T.nt ⟨[.bo], T.ti, T.tb⟩
abbrev grV (T : Tb) (k : Int) : List Value := [.slice (some ⟨0, 0, some 2⟩) T.nt T.ct, .bool false, .bool true, .pointer (some ⟨1, 0, none⟩), .pointer (some ⟨2, 0, none⟩), .pointer (some ⟨3, 0, none⟩), .pointer (some ⟨4, 0, none⟩), .int .i64 k]
abbrev grNN (T : Tb) (cf : Cf) (N C : Nat) (t : Int) (l : List Int) (x y : Gq) : List Go.Sx.Blk := [T.row, .cells true true (cfCells cf), .cells true true [.slice (some ⟨5, 0, none⟩) N C, .int .i64 t], gBN x, gBN y, .ints true true l]
abbrev grRN (T : Tb) (cf : Cf) (N C : Nat) (t : Int) (l : List Int) (x y : Gq) (r : Rq) : List Go.Sx.Blk := [T.row, .cells true true (cfCells cf), .cells true true [.slice (some ⟨5, 0, none⟩) N C, .int .i64 t], gBR 6 x, gBN y, .ints true true l, rqB 6 r]
def ixT {α : Type} (i : Int) (n : Nat) (K : Option α) : Option α := bif inRange i n then bif Nat.blt i.toNat n then K else none else none
theorem gr_treeNN (T : Tb) (cf : Cf) (N C : Nat) (t : Int) (l : List Int) (x y : Gq) (k : Int) :
    (roundV glEnv 40 noLps 150 [3, 8, 9, 10, 12, 13, 14, 15] 1 grRound0 (unpack 150 [3, 8, 9, 10, 12, 13, 14, 15] (grV T k) (grNN T cf N C t l x y))).get =
    bif decide (k < (T.nt : Int)) then ixT k T.nt (bif T.tb k.toNat 0 then bt (okM N l && gOKN x.st) (bif gGoes N l x then some (.normal, grV T (w64 (k + 1)), grRN T cf N C (gtch N x t) (gmem N l x) (gq N l x) y (gNew N l x)) else some (.normal, grV T (w64 (k + 1)), grNN T cf N C (gtch N x t) (gmem N l x) (gq N l x) y))
      else bt (okM N l && gOKN y.st) (bif gGoes N l y then some (.normal, grV T (w64 (k + 1)), [T.row, .cells true true (cfCells cf), .cells true true [.slice (some ⟨5, 0, none⟩) N C, .int .i64 (gtch N y t)], gBN x, gBR 6 (gq N l y), .ints true true (gmem N l y), rqB 6 (gNew N l y)]) else some (.normal, grV T (w64 (k + 1)), grNN T cf N C (gtch N y t) (gmem N l y) x (gq N l y))))
    else some (.exit 0, grV T k, grNN T cf N C t l x y) := by kernel_rfl
abbrev grNR (T : Tb) (cf : Cf) (N C : Nat) (t : Int) (l : List Int) (x y : Gq) (r : Rq) : List Go.Sx.Blk := [T.row, .cells true true (cfCells cf), .cells true true [.slice (some ⟨5, 0, none⟩) N C, .int .i64 t], gBN x, gBR 6 y, .ints true true l, rqB 6 r]
abbrev grRR (T : Tb) (cf : Cf) (N C : Nat) (t : Int) (l : List Int) (x y : Gq) (r s : Rq) : List Go.Sx.Blk := [T.row, .cells true true (cfCells cf), .cells true true [.slice (some ⟨5, 0, none⟩) N C, .int .i64 t], gBR 6 x, gBR 7 y, .ints true true l, rqB 6 r, rqB 7 s]
theorem gr_treeRN (T : Tb) (cf : Cf) (N C : Nat) (t : Int) (l : List Int) (x y : Gq) (r : Rq) (k : Int) :
    (roundV glEnv 40 noLps 150 [3, 8, 9, 10, 12, 13, 14, 15] 1 grRound0 (unpack 150 [3, 8, 9, 10, 12, 13, 14, 15] (grV T k) (grRN T cf N C t l x y r))).get =
    bif decide (k < (T.nt : Int)) then ixT k T.nt (bif T.tb k.toNat 0 then bt (okM N l && gOKR x.st r.f) (bif x.st == 3 then some (.normal, grV T (w64 (k + 1)), grRN T cf N C (rtch N r t) (rmem N l r) (gqR N l x r) y (rstep N l r))
        else bif gGoes N l x then some (.normal, grV T (w64 (k + 1)), grRN T cf N C (gtch N x t) (gmem N l x) (gq N l x) y (gNew N l x)) else some (.normal, grV T (w64 (k + 1)), grRN T cf N C (gtch N x t) (gmem N l x) (gq N l x) y r))
      else bt (okM N l && gOKN y.st) (bif gGoes N l y then some (.normal, grV T (w64 (k + 1)), grRR T cf N C (gtch N y t) (gmem N l y) x (gq N l y) r (gNew N l y)) else some (.normal, grV T (w64 (k + 1)), grRN T cf N C (gtch N y t) (gmem N l y) x (gq N l y) r)))
    else some (.exit 0, grV T k, grRN T cf N C t l x y r) := by kernel_rfl
theorem gr_treeNR (T : Tb) (cf : Cf) (N C : Nat) (t : Int) (l : List Int) (x y : Gq) (r : Rq) (k : Int) :
    (roundV glEnv 40 noLps 150 [3, 8, 9, 10, 12, 13, 14, 15] 1 grRound0 (unpack 150 [3, 8, 9, 10, 12, 13, 14, 15] (grV T k) (grNR T cf N C t l x y r))).get =
    bif decide (k < (T.nt : Int)) then ixT k T.nt (bif T.tb k.toNat 0 then bt (okM N l && gOKN x.st) (bif gGoes N l x then some (.normal, grV T (w64 (k + 1)), grRR T cf N C (gtch N x t) (gmem N l x) (gq N l x) y (gNew N l x) r) else some (.normal, grV T (w64 (k + 1)), grNR T cf N C (gtch N x t) (gmem N l x) (gq N l x) y r))
      else bt (okM N l && gOKR y.st r.f) (bif y.st == 3 then some (.normal, grV T (w64 (k + 1)), grNR T cf N C (rtch N r t) (rmem N l r) x (gqR N l y r) (rstep N l r))
        else bif gGoes N l y then some (.normal, grV T (w64 (k + 1)), grNR T cf N C (gtch N y t) (gmem N l y) x (gq N l y) (gNew N l y)) else some (.normal, grV T (w64 (k + 1)), grNR T cf N C (gtch N y t) (gmem N l y) x (gq N l y) r)))
    else some (.exit 0, grV T k, grNR T cf N C t l x y r) := by kernel_rfl
theorem gr_treeRR (T : Tb) (cf : Cf) (N C : Nat) (t : Int) (l : List Int) (x y : Gq) (r s : Rq) (k : Int) :
    (roundV glEnv 40 noLps 150 [3, 8, 9, 10, 12, 13, 14, 15] 1 grRound0 (unpack 150 [3, 8, 9, 10, 12, 13, 14, 15] (grV T k) (grRR T cf N C t l x y r s))).get =
    bif decide (k < (T.nt : Int)) then ixT k T.nt (bif T.tb k.toNat 0 then bt (okM N l && gOKR x.st r.f) (bif x.st == 3 then some (.normal, grV T (w64 (k + 1)), grRR T cf N C (rtch N r t) (rmem N l r) (gqR N l x r) y (rstep N l r) s)
        else bif gGoes N l x then some (.normal, grV T (w64 (k + 1)), grRR T cf N C (gtch N x t) (gmem N l x) (gq N l x) y (gNew N l x) s) else some (.normal, grV T (w64 (k + 1)), grRR T cf N C (gtch N x t) (gmem N l x) (gq N l x) y r s))
      else bt (okM N l && gOKR y.st s.f) (bif y.st == 3 then some (.normal, grV T (w64 (k + 1)), grRR T cf N C (rtch N s t) (rmem N l s) x (gqR N l y s) r (rstep N l s))
        else bif gGoes N l y then some (.normal, grV T (w64 (k + 1)), grRR T cf N C (gtch N y t) (gmem N l y) x (gq N l y) r (gNew N l y)) else some (.normal, grV T (w64 (k + 1)), grRR T cf N C (gtch N y t) (gmem N l y) x (gq N l y) r s)))
    else some (.exit 0, grV T k, grRR T cf N C t l x y r s) := by kernel_rfl
noncomputable def grRound2 : Code := lpB (blkAt 2 grBody)
theorem gr_loop2 : blkAt 2 grBody = .loop grRound2 := by kernel_rfl
noncomputable def grRound4 : Code := lpB (blkAt 4 grBody)
theorem gr_loop4 : blkAt 4 grBody = .loop grRound4 := by kernel_rfl
abbrev grW (k : Int) : List Value := [.bool false, .bool true, .pointer (some ⟨1, 0, none⟩), .pointer (some ⟨2, 0, none⟩), .pointer (some ⟨3, 0, none⟩), .pointer (some ⟨4, 0, none⟩), .int .i64 k]
theorem gr_tree2NN (T : Tb) (cf : Cf) (N C : Nat) (t : Int) (l : List Int) (x y : Gq) (k : Int) :
    (roundV glEnv 40 noLps 150 [8, 9, 10, 12, 13, 14, 16] 1 grRound2 (unpack 150 [8, 9, 10, 12, 13, 14, 16] (grW k) (grNN T cf N C t l x y ))).get =
    bif decide (k < 9) then bt (okM N l && gOKN x.st) (bif gGoes N l x then some (.normal, grW (w64 (k + 1)), grRN T cf N C (gtch N x t) (gmem N l x) (gq N l x) (y) (gNew N l x)) else some (.normal, grW (w64 (k + 1)), grNN T cf N C (gtch N x t) (gmem N l x) (gq N l x) (y))) else some (.exit 2, grW k, grNN T cf N C t l x y ) := by kernel_rfl
theorem gr_tree2RN (T : Tb) (cf : Cf) (N C : Nat) (t : Int) (l : List Int) (x y : Gq) (r : Rq) (k : Int) :
    (roundV glEnv 40 noLps 150 [8, 9, 10, 12, 13, 14, 16] 1 grRound2 (unpack 150 [8, 9, 10, 12, 13, 14, 16] (grW k) (grRN T cf N C t l x y r))).get =
    bif decide (k < 9) then bt (okM N l && gOKR x.st r.f) (bif x.st == 3 then some (.normal, grW (w64 (k + 1)), grRN T cf N C (rtch N r t) (rmem N l r) (gqR N l x r) (y) (rstep N l r)) else bif gGoes N l x then some (.normal, grW (w64 (k + 1)), grRN T cf N C (gtch N x t) (gmem N l x) (gq N l x) (y) (gNew N l x)) else some (.normal, grW (w64 (k + 1)), grRN T cf N C (gtch N x t) (gmem N l x) (gq N l x) (y) (r))) else some (.exit 2, grW k, grRN T cf N C t l x y r) := by kernel_rfl
theorem gr_tree2NR (T : Tb) (cf : Cf) (N C : Nat) (t : Int) (l : List Int) (x y : Gq) (s : Rq) (k : Int) :
    (roundV glEnv 40 noLps 150 [8, 9, 10, 12, 13, 14, 16] 1 grRound2 (unpack 150 [8, 9, 10, 12, 13, 14, 16] (grW k) (grNR T cf N C t l x y s))).get =
    bif decide (k < 9) then bt (okM N l && gOKN x.st) (bif gGoes N l x then some (.normal, grW (w64 (k + 1)), grRR T cf N C (gtch N x t) (gmem N l x) (gq N l x) (y) (gNew N l x) (s)) else some (.normal, grW (w64 (k + 1)), grNR T cf N C (gtch N x t) (gmem N l x) (gq N l x) (y) (s))) else some (.exit 2, grW k, grNR T cf N C t l x y s) := by kernel_rfl
theorem gr_tree2RR (T : Tb) (cf : Cf) (N C : Nat) (t : Int) (l : List Int) (x y : Gq) (r s : Rq) (k : Int) :
    (roundV glEnv 40 noLps 150 [8, 9, 10, 12, 13, 14, 16] 1 grRound2 (unpack 150 [8, 9, 10, 12, 13, 14, 16] (grW k) (grRR T cf N C t l x y r s))).get =
    bif decide (k < 9) then bt (okM N l && gOKR x.st r.f) (bif x.st == 3 then some (.normal, grW (w64 (k + 1)), grRR T cf N C (rtch N r t) (rmem N l r) (gqR N l x r) (y) (rstep N l r) (s)) else bif gGoes N l x then some (.normal, grW (w64 (k + 1)), grRR T cf N C (gtch N x t) (gmem N l x) (gq N l x) (y) (gNew N l x) (s)) else some (.normal, grW (w64 (k + 1)), grRR T cf N C (gtch N x t) (gmem N l x) (gq N l x) (y) (r) (s))) else some (.exit 2, grW k, grRR T cf N C t l x y r s) := by kernel_rfl
theorem gr_tree4NN (T : Tb) (cf : Cf) (N C : Nat) (t : Int) (l : List Int) (x y : Gq) (k : Int) :
    (roundV glEnv 40 noLps 150 [8, 9, 10, 12, 13, 14, 17] 1 grRound4 (unpack 150 [8, 9, 10, 12, 13, 14, 17] (grW k) (grNN T cf N C t l x y ))).get =
    bif decide (k < 9) then bt (okM N l && gOKN y.st) (bif gGoes N l y then some (.normal, grW (w64 (k + 1)), grNR T cf N C (gtch N y t) (gmem N l y) (x) (gq N l y) (gNew N l y)) else some (.normal, grW (w64 (k + 1)), grNN T cf N C (gtch N y t) (gmem N l y) (x) (gq N l y))) else some (.exit 4, grW k, grNN T cf N C t l x y ) := by kernel_rfl
theorem gr_tree4RN (T : Tb) (cf : Cf) (N C : Nat) (t : Int) (l : List Int) (x y : Gq) (r : Rq) (k : Int) :
    (roundV glEnv 40 noLps 150 [8, 9, 10, 12, 13, 14, 17] 1 grRound4 (unpack 150 [8, 9, 10, 12, 13, 14, 17] (grW k) (grRN T cf N C t l x y r))).get =
    bif decide (k < 9) then bt (okM N l && gOKN y.st) (bif gGoes N l y then some (.normal, grW (w64 (k + 1)), grRR T cf N C (gtch N y t) (gmem N l y) (x) (gq N l y) (r) (gNew N l y)) else some (.normal, grW (w64 (k + 1)), grRN T cf N C (gtch N y t) (gmem N l y) (x) (gq N l y) (r))) else some (.exit 4, grW k, grRN T cf N C t l x y r) := by kernel_rfl
theorem gr_tree4NR (T : Tb) (cf : Cf) (N C : Nat) (t : Int) (l : List Int) (x y : Gq) (s : Rq) (k : Int) :
    (roundV glEnv 40 noLps 150 [8, 9, 10, 12, 13, 14, 17] 1 grRound4 (unpack 150 [8, 9, 10, 12, 13, 14, 17] (grW k) (grNR T cf N C t l x y s))).get =
    bif decide (k < 9) then bt (okM N l && gOKR y.st s.f) (bif y.st == 3 then some (.normal, grW (w64 (k + 1)), grNR T cf N C (rtch N s t) (rmem N l s) (x) (gqR N l y s) (rstep N l s)) else bif gGoes N l y then some (.normal, grW (w64 (k + 1)), grNR T cf N C (gtch N y t) (gmem N l y) (x) (gq N l y) (gNew N l y)) else some (.normal, grW (w64 (k + 1)), grNR T cf N C (gtch N y t) (gmem N l y) (x) (gq N l y) (s))) else some (.exit 4, grW k, grNR T cf N C t l x y s) := by kernel_rfl
theorem gr_tree4RR (T : Tb) (cf : Cf) (N C : Nat) (t : Int) (l : List Int) (x y : Gq) (r s : Rq) (k : Int) :
    (roundV glEnv 40 noLps 150 [8, 9, 10, 12, 13, 14, 17] 1 grRound4 (unpack 150 [8, 9, 10, 12, 13, 14, 17] (grW k) (grRR T cf N C t l x y r s))).get =
    bif decide (k < 9) then bt (okM N l && gOKR y.st s.f) (bif y.st == 3 then some (.normal, grW (w64 (k + 1)), grRR T cf N C (rtch N s t) (rmem N l s) (x) (gqR N l y s) (r) (rstep N l s)) else bif gGoes N l y then some (.normal, grW (w64 (k + 1)), grRR T cf N C (gtch N y t) (gmem N l y) (x) (gq N l y) (r) (gNew N l y)) else some (.normal, grW (w64 (k + 1)), grRR T cf N C (gtch N y t) (gmem N l y) (x) (gq N l y) (r) (s))) else some (.exit 4, grW k, grRR T cf N C t l x y r s) := by kernel_rfl
end Go.Proofs.YthfoljgaiincdaaDoor
