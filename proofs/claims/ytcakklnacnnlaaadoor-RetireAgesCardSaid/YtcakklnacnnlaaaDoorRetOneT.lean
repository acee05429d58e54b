/- RetireOne: its loops. No condition of its own. -/
import Derived.Test.YtcakklnacnnlaaaDoorRetP
import Derived.Test.YtcakklnacnnlaaaDoorWords
namespace Go.Proofs.YtcakklnacnnlaaaDoor
open Go.RowKit Go.Fld Go.Sx
set_option linter.unusedVariables false
set_option linter.unusedSimpArgs false
noncomputable def roBody : Code := Tryd.f10.body.getD .skip
noncomputable def roRound1 : Code := lpB (blkAt 0 roBody)
noncomputable def roRound2 : Code := lpB (blkAt 2 roBody)
theorem ro_loop1 : blkAt 0 roBody = .loop roRound1 := by kernel_rfl
theorem ro_loop2 : blkAt 2 roBody = .loop roRound2 := by kernel_rfl
/-- Two at work. -/
structure R1s where
  l : List Int
  t : Int
  x : Rq
  y : Rq
def r1X (N : Nat) (s : R1s) : R1s := ⟨rmem N s.l s.x, rtch N s.x s.t, rstep N s.l s.x, s.y⟩
def r1Y (N : Nat) (s : R1s) : R1s := ⟨rmem N s.l s.y, rtch N s.y s.t, s.x, rstep N s.l s.y⟩
/-- Turns. -/
structure Tv where
  nt : Nat
  ct : Nat
  ti : Nat → Nat → Int
  tb : Nat → Nat → Bool
abbrev Tv.row (T : Tv) : Go.Sx.Blk := .rows false false 1 T.nt ⟨[.bo], T.ti, T.tb⟩
abbrev roV2 (N : Nat) (i k : Int) : List Value := [.bool true, .pointer (some ⟨4, 0, none⟩), .slice (some ⟨5, 0, none⟩) N N, .int .i64 i, .pointer (some ⟨6, 0, none⟩), .pointer (some ⟨7, 0, none⟩), .pointer (some ⟨8, 0, none⟩), .pointer (some ⟨9, 0, none⟩), .int .i64 k]
abbrev roV3 (N : Nat) (i : Int) : List Value := [.bool true, .pointer (some ⟨4, 0, none⟩), .slice (some ⟨5, 0, none⟩) N N, .int .i64 i, .pointer (some ⟨6, 0, none⟩), .pointer (some ⟨7, 0, none⟩), .pointer (some ⟨8, 0, none⟩), .pointer (some ⟨9, 0, none⟩)]
abbrev roV (T : Tv) (N : Nat) (i k : Int) : List Value := .slice (some ⟨3, 0, some 2⟩) T.nt T.ct :: roV2 N i k
abbrev roA (G : Gv) (T : Tv) : List Go.Sx.Blk := [G.r0, G.r1, G.r2, T.row]
abbrev roH (G : Gv) (T : Tv) (cf : Cf) (N C : Nat) (l0 : List Int) (z : Slt) (s : R1s) : List Go.Sx.Blk := roA G T ++ [.cells true true (cfCells cf), .ints true true l0, .cells true true (sltCells z), .cells true true [.slice (some ⟨10, 0, none⟩) N C, .int .i64 s.t], rqB 8 s.x, rqB 9 s.y, .ints true true s.l]
theorem ro_tree1 (G : Gv) (T : Tv) (cf : Cf) (N C : Nat) (l0 : List Int) (z : Slt) (s : R1s) (i k : Int) :
    (roundV rlEnv 40 noLps 198 [2, 7, 8, 9, 10, 12, 14, 15, 16, 17] 4 roRound1 (unpack 198 [2, 7, 8, 9, 10, 12, 14, 15, 16, 17] (roV T N i k) (roH G T cf N C l0 z s))).get =
    bif decide (k < (T.nt : Int)) then ixR k T.nt T.nt (bif T.tb k.toNat 0 then bt (okM N s.l && rOK s.x.f) (some (.normal, roV T N i (w64 (k + 1)), roH G T cf N C l0 z (r1X N s))) else bt (okM N s.l && rOK s.y.f) (some (.normal, roV T N i (w64 (k + 1)), roH G T cf N C l0 z (r1Y N s))))
    else some (.exit 0, roV T N i k, roH G T cf N C l0 z s) := by kernel_rfl
theorem ro_tree2 (G : Gv) (T : Tv) (cf : Cf) (N C : Nat) (l0 : List Int) (z : Slt) (s : R1s) (i k : Int) :
    (roundV rlEnv 40 noLps 198 [7, 8, 9, 10, 12, 14, 15, 16, 18] 4 roRound2 (unpack 198 [7, 8, 9, 10, 12, 14, 15, 16, 18] (roV2 N i k) (roH G T cf N C l0 z s))).get =
    bif decide (k < 4) then bt (okM N s.l && rOK s.x.f) (bt (okM N (rmem N s.l s.x) && rOK s.y.f) (some (.normal, roV2 N i (w64 (k + 1)), roH G T cf N C l0 z (r1Y N (r1X N s)))))
    else some (.exit 2, roV2 N i k, roH G T cf N C l0 z s) := by kernel_rfl
end Go.Proofs.YtcakklnacnnlaaaDoor
