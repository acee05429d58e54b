/- RetireOne: the whole tree. No condition of its own. -/
import Derived.Test.YtcakklnacnnlaaaDoorRetOneW
namespace Go.Proofs.YtcakklnacnnlaaaDoor
open Go.RowKit Go.Fld Go.Sx
set_option linter.unusedVariables false
set_option linter.unusedSimpArgs false
def roLast (N : Nat) (l0 fl : List Int) (z t : Slt) : Option Value :=
  bif t.st == 6 then ep2 N l0 (bif decide (t.ep ≥ l0.getD (0 + Int.toNat 2) 0) then ep2 N l0 (bt (okM N fl) (bif ldS N fl 2 == w64 (l0.getD (0 + Int.toNat 2) 0 + 1) then bt (okM N fl) (bif decide (t.ep < ldS N fl 2) then some (.bool (t.gen == z.gen)) else isF) else isF)) else isF) else isF
def roSame (N : Nat) (l0 fl : List Int) : Option Value := bt (okM N fl) (bt (lenOK N fl && lenOK N l0) (some (.bool (decide (fl = l0)))))
/-- Of two that are done: what is told of each, and what the law tells. -/
def roFin : Bool → Bool → Nat → List Int → List Int → Slt → Slt → Option Value
  | true, true, _, _, _, _, _ => isF
  | false, false, N, l0, fl, z, _ => bif z.st != 2 then (bif z.st != 3 then roSame N l0 fl else isF) else isF
  | _, _, N, l0, fl, z, t => bif z.st != 2 then (bif z.st != 3 then isF else roLast N l0 fl z t) else roLast N l0 fl z t
/-- The start of two. -/
def roQ (cf : Cf) (l : List Int) (i : Int) : Rq := ⟨cellC cf i, l.getD (0 + (cellC cf i).toNat) 0, 0, fSwap, false, false⟩
def roS (cf : Cf) (l : List Int) (i : Int) : R1s := ⟨l, cntN cf, roQ cf l i, roQ cf l i⟩
def roZ (cf : Cf) (l : List Int) (i : Int) : Slt := slt0 (decA (l.getD (0 + (cellC cf i).toNat) 0))
abbrev roDone (fl : List Int) (ft xc xw xe yc yw ye : Int) (xf yf : Nat) (a b : Bool) : R1s := ⟨fl, ft, ⟨xc, xw, xe, xf, a, true⟩, ⟨yc, yw, ye, yf, b, true⟩⟩
noncomputable def roTop (G : Gv) (T : Tv) (at_ : Int) (V1 : List Value) (H1 : List Go.Sx.Blk) (K : Option Value) : Option Value :=
  bif decide ((T.nt : Int) > 10) then isT else bt (mdC G.cf G.ns G.nf G.np) (noS G.cf (ixC G.cf G.l (atI G.cf.s at_) (bt (ldG G.cf G.l) (
      bt (sure (isIt (roV T (cntN G.cf) (atI G.cf.s at_) 0) (roH G T G.cf (cntN G.cf) (cntN G.cf) G.l (roZ G.cf G.l (atI G.cf.s at_)) (roS G.cf G.l (atI G.cf.s at_))) V1 H1)) K))))
theorem ro_ff (G G' : Gv) (T T' : Tv) (at_ : Int) (V1 : List Value) (H1 : List Go.Sx.Blk) (V2 : List Value) (H2 : List Go.Sx.Blk) (cf : Cf) (N C : Nat) (l0 : List Int) (z : Slt) (s : R1s) (i : Int) (fl : List Int) (ft xc xw xe yc yw ye : Int) (xf yf : Nat) :
  (callV (roEnv V1 H1 (.normal, roV3 N i, roH G' T' cf N C l0 z s) V2 H2 (.normal, roV3 N i, roH G' T' cf N C l0 z (roDone fl ft xc xw xe yc yw ye xf yf false false))) 60 10 [G.val, .int .u8 at_, .slice (some ⟨3, 0, some 2⟩) T.nt T.ct] (roA G T)).run (Option Value) none (fun r => some r.1) =
    roTop G T at_ V1 H1 (bt (sure (isIt (roV2 N i 0) (roH G' T' cf N C l0 z s) V2 H2)) (bt (okM N fl) (bif !(decA (ldS N fl (cellC cf i))).isSome then isF else roFin false false N l0 fl z (slt0 (decA (ldS N fl (cellC cf i))))))) := by
  kernel_rfl
theorem ro_tf (G G' : Gv) (T T' : Tv) (at_ : Int) (V1 : List Value) (H1 : List Go.Sx.Blk) (V2 : List Value) (H2 : List Go.Sx.Blk) (cf : Cf) (N C : Nat) (l0 : List Int) (z : Slt) (s : R1s) (i : Int) (fl : List Int) (ft xc xw xe yc yw ye : Int) (xf yf : Nat) :
  (callV (roEnv V1 H1 (.normal, roV3 N i, roH G' T' cf N C l0 z s) V2 H2 (.normal, roV3 N i, roH G' T' cf N C l0 z (roDone fl ft xc xw xe yc yw ye xf yf true false))) 60 10 [G.val, .int .u8 at_, .slice (some ⟨3, 0, some 2⟩) T.nt T.ct] (roA G T)).run (Option Value) none (fun r => some r.1) =
    roTop G T at_ V1 H1 (bt (sure (isIt (roV2 N i 0) (roH G' T' cf N C l0 z s) V2 H2)) (bt (okM N fl) (bif !(decA (ldS N fl (cellC cf i))).isSome then isF else roFin true false N l0 fl z (slt0 (decA (ldS N fl (cellC cf i))))))) := by
  kernel_rfl
theorem ro_ft (G G' : Gv) (T T' : Tv) (at_ : Int) (V1 : List Value) (H1 : List Go.Sx.Blk) (V2 : List Value) (H2 : List Go.Sx.Blk) (cf : Cf) (N C : Nat) (l0 : List Int) (z : Slt) (s : R1s) (i : Int) (fl : List Int) (ft xc xw xe yc yw ye : Int) (xf yf : Nat) :
  (callV (roEnv V1 H1 (.normal, roV3 N i, roH G' T' cf N C l0 z s) V2 H2 (.normal, roV3 N i, roH G' T' cf N C l0 z (roDone fl ft xc xw xe yc yw ye xf yf false true))) 60 10 [G.val, .int .u8 at_, .slice (some ⟨3, 0, some 2⟩) T.nt T.ct] (roA G T)).run (Option Value) none (fun r => some r.1) =
    roTop G T at_ V1 H1 (bt (sure (isIt (roV2 N i 0) (roH G' T' cf N C l0 z s) V2 H2)) (bt (okM N fl) (bif !(decA (ldS N fl (cellC cf i))).isSome then isF else roFin false true N l0 fl z (slt0 (decA (ldS N fl (cellC cf i))))))) := by
  kernel_rfl
end Go.Proofs.YtcakklnacnnlaaaDoor
