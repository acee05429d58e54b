
/- GiveStranger: its loops. No condition of its own. -/
import Derived.Test.YthfoljgaiincdaaDoorGiveL
namespace Go.Proofs.YthfoljgaiincdaaDoor
open Go.RowKit Go.Fld Go.Sx
set_option linter.unusedVariables false
set_option linter.unusedSimpArgs false
noncomputable def gsBody : Code := Tryd.f12.body.getD .skip
noncomputable def gsRound0 : Code := lpB (blkAt 0 gsBody)
noncomputable def gsRound2 : Code := lpB (blkAt 2 gsBody)
noncomputable def gsRound4 : Code := lpB (blkAt 4 gsBody)
theorem gs_loop0 : blkAt 0 gsBody = .loop gsRound0 := by kernel_rfl
theorem gs_loop2 : blkAt 2 gsBody = .loop gsRound2 := by kernel_rfl
theorem gs_loop4 : blkAt 4 gsBody = .loop gsRound4 := by kernel_rfl
/-- What is asked: slot, lease, whether it is discarded, and of whom. -/
structure GsA where
  i : Int
  gen : Int
  disc : Bool
  k : Int
  N : Nat
abbrev gsA (G : Gv) (W : Wv) : List Go.Sx.Blk := [G.r0, G.r1, G.r2, W.row]
abbrev gsV0 (a : GsA) (W : Wv) (m : Nat) (j : Int) : List Value := [.int .i64 a.i, .int .i64 a.gen, .bool a.disc, W.val 3, .bool true, .pointer (some ⟨4, 0, none⟩), .slice (some ⟨5, 0, none⟩) a.N a.N, .int .i64 a.k, vecOf 6 m, .int .i64 j]
abbrev gsH0 (G : Gv) (W : Wv) (cf : Cf) (l0 ws : List Int) : List Go.Sx.Blk := gsA G W ++ [.cells true true (cfCells cf), .ints true true l0, .ints true true ws]
abbrev gsO0 (a : GsA) (G : Gv) (W : Wv) (cf : Cf) (l0 ws : List Int) (m : Nat) : Exit × List Value × List Go.Sx.Blk := (.normal, [.int .i64 a.i, .int .i64 a.gen, .bool a.disc, W.val 3, .bool true, .pointer (some ⟨4, 0, none⟩), .slice (some ⟨5, 0, none⟩) a.N a.N, .int .i64 a.k, vecOf 6 m], gsH0 G W cf l0 ws)
theorem gs_tree0 (a : GsA) (G : Gv) (W : Wv) (cf : Cf) (l0 ws : List Int) (m : Nat) (j : Int) :
    (roundV glEnv 40 noLps 143 [2, 3, 4, 5, 13, 14, 15, 16, 17, 18] 4 gsRound0 (unpack 143 [2, 3, 4, 5, 13, 14, 15, 16, 17, 18] (gsV0 a W m j) (gsH0 G W cf l0 ws))).get =
    bif decide (j < (W.nl : Int)) then ixR j W.nl W.nl (bt (Nat.beq m ws.length) (bt (smallN (m + 1)) (some (.normal, gsV0 a W (m + 1) (w64 (j + 1)), gsH0 G W cf l0 (ws ++ [W.gi j.toNat 2]))))) else some (.exit 0, gsV0 a W m j, gsH0 G W cf l0 ws) := by kernel_rfl
abbrev gsV2 (a : GsA) (W : Wv) (r : Value) (m : Nat) (j : Int) : List Value := [.int .i64 a.i, .int .i64 a.gen, .bool a.disc, W.val 3, r, .bool true, .pointer (some ⟨4, 0, none⟩), .slice (some ⟨5, 0, none⟩) a.N a.N, .int .i64 a.k, vecOf 6 m, .int .i64 j]
abbrev gsO2 (e : Exit) (a : GsA) (G : Gv) (W : Wv) (r : Value) (cf : Cf) (l0 : List Int) : Exit × List Value × List Go.Sx.Blk := (e, [.int .i64 a.i, .int .i64 a.gen, .bool a.disc, W.val 3, r, .bool true, .pointer (some ⟨4, 0, none⟩), .slice (some ⟨5, 0, none⟩) a.N a.N, .int .i64 a.k], gsA G W ++ [.cells true true (cfCells cf), .ints true true l0])
/-- Does a word say that lease of that worker? -/
def isLease (k gen x : Int) : Bool := bif (decA x).isSome then (bif (slt0 (decA x)).st == 3 then (bif (slt0 (decA x)).own == k then (slt0 (decA x)).gen == gen else false) else false) else false
theorem gs_tree2 (a : GsA) (G : Gv) (W : Wv) (cf : Cf) (l0 ws : List Int) (m : Nat) (j : Int) :
    (roundV glEnv 40 noLps 143 [2, 3, 4, 5, 12, 13, 14, 15, 16, 17, 19] 4 gsRound2 (unpack 143 [2, 3, 4, 5, 12, 13, 14, 15, 16, 17, 19] (gsV2 a W undef m j) (gsH0 G W cf l0 ws))).get =
    bif decide (j < (m : Int)) then bt (inRange j m) (bt (Nat.blt j.toNat ws.length) (bif (decA (ws.getD j.toNat 0)).isSome then (bif (slt0 (decA (ws.getD j.toNat 0))).st == 3 then (bif (slt0 (decA (ws.getD j.toNat 0))).own == a.k then (bif (slt0 (decA (ws.getD j.toNat 0))).gen == a.gen then some (.ret, gsV2 a W (.bool true) m j, gsH0 G W cf l0 ws)
      else some (.normal, gsV2 a W undef m (w64 (j + 1)), gsH0 G W cf l0 ws)) else some (.normal, gsV2 a W undef m (w64 (j + 1)), gsH0 G W cf l0 ws)) else some (.normal, gsV2 a W undef m (w64 (j + 1)), gsH0 G W cf l0 ws)) else some (.normal, gsV2 a W undef m (w64 (j + 1)), gsH0 G W cf l0 ws))) else some (.exit 2, gsV2 a W undef m j, gsH0 G W cf l0 ws) := by kernel_rfl
abbrev gsV4 (W : Wv) (j : Int) : List Value := [W.val 3, .bool true, .pointer (some ⟨4, 0, none⟩), .pointer (some ⟨5, 0, none⟩), .int .i64 j]
abbrev gsH4 (G : Gv) (W : Wv) (N C : Nat) (t : Int) (l : List Int) (q : Gq) : List Go.Sx.Blk := gsA G W ++ [.cells true true [.slice (some ⟨6, 0, none⟩) N C, .int .i64 t], gBN q, .ints true true l]
abbrev gsO4 (G : Gv) (W : Wv) (q : Gq) : Exit × List Value × List Go.Sx.Blk := (.normal, [.bool true, .pointer (some ⟨4, 0, none⟩)], gsA G W ++ [gBN q])
abbrev gsR4 (G : Gv) (W : Wv) (N C : Nat) (t : Int) (l : List Int) (q : Gq) (r : Rq) : List Go.Sx.Blk := gsA G W ++ [.cells true true [.slice (some ⟨6, 0, none⟩) N C, .int .i64 t], gBR 7 q, .ints true true l, rqB 7 r]
theorem gs_tree4 (G : Gv) (W : Wv) (N C : Nat) (t : Int) (l : List Int) (q : Gq) (j : Int) :
    (roundV glEnv 40 noLps 143 [5, 13, 22, 23, 24] 4 gsRound4 (unpack 143 [5, 13, 22, 23, 24] (gsV4 W j) (gsH4 G W N C t l q))).get =
    bif decide (j < 4) then bt (okM N l && Nat.beq W.nl W.nl && smallN W.nl) (bt (okM N (wrsL N W.gi j W.nl l)) (bt (okM N (wrsL N W.gi j W.nl l) && gOKN q.st) (bif gGoes N (wrsL N W.gi j W.nl l) q then bt (okM N (gmem N (wrsL N W.gi j W.nl l) q)) (bt (lenOK N (gmem N (wrsL N W.gi j W.nl l) q) && lenOK N (wrsL N W.gi j W.nl l)) (bif !decide (gmem N (wrsL N W.gi j W.nl l) q = (wrsL N W.gi j W.nl l)) then some (.ret, gsV4 W j, gsR4 G W N C (gtch N q (wrsT N W.gi j W.nl t)) (gmem N (wrsL N W.gi j W.nl l) q) (gq N (wrsL N W.gi j W.nl l) q) (gNew N (wrsL N W.gi j W.nl l) q)) else some (.normal, gsV4 W (w64 (j + 1)), gsR4 G W N C (gtch N q (wrsT N W.gi j W.nl t)) (gmem N (wrsL N W.gi j W.nl l) q) (gq N (wrsL N W.gi j W.nl l) q) (gNew N (wrsL N W.gi j W.nl l) q))))
      else bt (okM N (gmem N (wrsL N W.gi j W.nl l) q)) (bt (lenOK N (gmem N (wrsL N W.gi j W.nl l) q) && lenOK N (wrsL N W.gi j W.nl l)) (bif !decide (gmem N (wrsL N W.gi j W.nl l) q = (wrsL N W.gi j W.nl l)) then some (.ret, gsV4 W j, gsH4 G W N C (gtch N q (wrsT N W.gi j W.nl t)) (gmem N (wrsL N W.gi j W.nl l) q) (gq N (wrsL N W.gi j W.nl l) q)) else some (.normal, gsV4 W (w64 (j + 1)), gsH4 G W N C (gtch N q (wrsT N W.gi j W.nl t)) (gmem N (wrsL N W.gi j W.nl l) q) (gq N (wrsL N W.gi j W.nl l) q))))))) else some (.exit 4, gsV4 W j, gsH4 G W N C t l q) := by kernel_rfl
theorem gs_norm0 (a : GsA) (G : Gv) (W : Wv) (cf : Cf) (l0 ws : List Int) (m : Nat) (j : Int) : (normV 143 [2, 3, 4, 5, 13, 14, 15, 16, 17] 4 (unpack 143 [2, 3, 4, 5, 13, 14, 15, 16, 17, 18] (gsV0 a W m j) (gsH0 G W cf l0 ws))).get = some (gsO0 a G W cf l0 ws m).2 := by kernel_rfl
theorem gs_norm2 (e : Exit) (a : GsA) (G : Gv) (W : Wv) (r : Value) (hr : r = undef ∨ r = .bool true) (cf : Cf) (l0 ws : List Int) (m : Nat) (j : Int) : (normV 143 [2, 3, 4, 5, 12, 13, 14, 15, 16] 4 (unpack 143 [2, 3, 4, 5, 12, 13, 14, 15, 16, 17, 19] (gsV2 a W r m j) (gsH0 G W cf l0 ws))).get = some (gsO2 e a G W r cf l0).2 := by
  rcases hr with rfl | rfl <;> kernel_rfl
theorem gs_norm4 (G : Gv) (W : Wv) (N C : Nat) (t : Int) (l : List Int) (q : Gq) (j : Int) : (normV 143 [13, 23] 4 (unpack 143 [5, 13, 22, 23, 24] (gsV4 W j) (gsH4 G W N C t l q))).get = some (gsO4 G W q).2 := by kernel_rfl
end Go.Proofs.YthfoljgaiincdaaDoor
