/- LifeRuns: one round of its loop. No condition of its own. -/
import Derived.Test.YtjgifhegfadohaaDoorLifeLaws
import Derived.Test.YtjgifhegfadohaaDoorSxP
namespace Go.Proofs.YtjgifhegfadohaaDoor
open Go.RowKit Go.Fld Go.Sx
set_option linter.unusedVariables false
noncomputable def runsBody : Code := Tryd.f9.body.getD .skip
noncomputable def runsTail : Code := seqR (seqR (seqR (seqR (seqR (seqR runsBody)))))
noncomputable def runsBlk : Code := seqR (seqL runsTail)
noncomputable def runsRound : Code := lpB (blkB runsBlk)
def runsMask : List Bool := [true, false, false, false, false, true, true, true, true, true]
def runsLh (n : Nat) (g : Nat → Nat → Int) (s : Slt) : List Go.Sx.Blk := [.rows false false 3 n (fun i j => .int .i64 (g i j)), .cells true true [.int .i64 s.st, .int .i64 s.own, .int .i64 s.str, .bool s.brk, .bool s.mrk, .int .i64 s.uses, .int .i64 s.gen, .int .i64 s.ep, .int .i64 s.ver]]
def runsS (n cap : Nat) (g : Nat → Nat → Int) (s : Slt) (k ls i : Int) : St :=
  ⟨[.slice (some ⟨0, 0, some 0⟩) n cap, undef, undef, undef, undef, .bool true, .int .i64 k, .pointer (some ⟨1, 0, none⟩), .int .i64 ls, .int .i64 i] ++ List.replicate 96 undef, runsLh n g s⟩
def gd {α : Type} (i : Int) (n : Nat) (K : Option α) : Option α := bif inRange i n then bif Nat.blt (0 + i.toNat) n then K else none else none
def bitAt (x : Int) (p : Int) : Int := bits .and .i64 (x.fdiv p) 1
def cntS (x : Int) : Int :=
  IntKind.i64.wrap (IntKind.i64.wrap (IntKind.i64.wrap (IntKind.i64.wrap (IntKind.i64.wrap (IntKind.i64.wrap (IntKind.i64.wrap (IntKind.i64.wrap (0 + bitAt x 1) + bitAt x 2) + bitAt x 4) + bitAt x 8) + bitAt x 16) + bitAt x 32) + bitAt x 64) + bitAt x 128)
def runsQ (n cap : Nat) (g : Nat → Nat → Int) (s t : Slt) (k ls i : Int) : Option (Exit × St) :=
  bif t.gen != ls then some (.ret, runsS n cap g s k ls i) else bif decide (cntS t.str > k) then some (.ret, runsS n cap g s k ls i) else
  bif decide (cntS t.str > 0) then bif t.st != 3 then some (.ret, runsS n cap g s k ls i) else bif !rightR t then some (.ret, runsS n cap g s k ls i) else some (.normal, runsS n cap g t k ls (IntKind.i64.wrap (i + 1)))
  else bif !rightR t then some (.ret, runsS n cap g s k ls i) else some (.normal, runsS n cap g t k ls (IntKind.i64.wrap (i + 1)))
def runsA (n cap : Nat) (g : Nat → Nat → Int) (s : Slt) (k ls i d o more : Int) : Option (Exit × St) :=
  gd i n (gd i n (bif !I s d o more then some (.normal, runsS n cap g s k ls (IntKind.i64.wrap (i + 1))) else
    bif (T s d o more).st == 3 then bif s.st != 3 then runsQ n cap g s (T s d o more) k (IntKind.i64.wrap (ls + 1)) i else runsQ n cap g s (T s d o more) k ls i else runsQ n cap g s (T s d o more) k ls i))
theorem runs_tree (n cap : Nat) (g : Nat → Nat → Int) (s : Slt) (k ls i : Int) : (roundM lawEnv 60 runsRound runsMask 2 (runsS n cap g s k ls i)).run (Option (Exit × St)) none some =
    bif decide (i < n) then gd i n (gd i n (bif g (0 + i.toNat) 0 == 14 then runsA n cap g s k ls i (g (0 + i.toNat) 0) (g (0 + i.toNat) 1) k else runsA n cap g s k ls i (g (0 + i.toNat) 0) (g (0 + i.toNat) 1) (g (0 + i.toNat) 2)))
    else some (.exit 0, runsS n cap g s k ls i) := by kernel_rfl
end Go.Proofs.YtjgifhegfadohaaDoor
