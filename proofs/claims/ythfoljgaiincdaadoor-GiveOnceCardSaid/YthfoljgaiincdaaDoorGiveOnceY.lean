
/- GiveOnce: the whole tree. No condition of its own. -/
import Derived.Test.YthfoljgaiincdaaDoorGiveOnceT
namespace Go.Proofs.YthfoljgaiincdaaDoor
open Go.RowKit Go.Fld Go.Sx
set_option linter.unusedVariables false
set_option linter.unusedSimpArgs false
def goLast (S : Nat) (D : Nat → Slt) (i : Int) (s : Slt) (e f : Int) : Option Value := bif e == 0 then (bif f == 2 then ixR i S S (some (.bool ((D i.toNat).gen == s.gen))) else isF) else isF
def goK (S : Nat) (D : Nat → Slt) (i : Int) (s : Slt) (e f : Int) (b : Bool) : Option Value :=
  ixR i S S (bif !(b == ((D i.toNat).st == 6)) then isF else bif !b then ixR i S S (bif (D i.toNat).st != 2 then isF else ixR i S S (bif (D i.toNat).own != s.own then isF else goLast S D i s e f)) else goLast S D i s e f)
def goG (a : GoA) (S : Nat) (D : Nat → Slt) (e f : Int) : Option Value :=
  bif a.disc then goK S D a.i a.s e f true else bif a.s.brk then goK S D a.i a.s e f true else bif decide (a.s.uses ≥ a.cf.u) then goK S D a.i a.s e f true else ep0 a.N a.l0 (goK S D a.i a.s e f (a.l0.getD (0 + Int.toNat 0) 0 != 0))
def goAll (S : Nat) (D : Nat → Slt) (i : Int) (s : Slt) (e f k : Int) : Option Value := bif e == k then (bif f == k then ixR i S S (some (.bool (beqS (D i.toNat) s))) else isF) else isF
def goFin (a : GoA) (S : Nat) (D : Nat → Slt) (e f : Int) : Option Value :=
  ep0 a.N a.l0 (bif a.l0.getD (0 + Int.toNat 0) 0 == 2 then goAll S D a.i a.s e f 5 else bif a.s.str != 0 then (bif !a.disc then goAll S D a.i a.s e f 8 else goG a S D e f) else goG a S D e f)
def goQ (cf : Cf) (s : Slt) (i : Int) (disc : Bool) : Gq := ⟨cf, s.own, i, s.gen, disc, 0, 0, 0, 0⟩
def goA0 (G : Gv) (disc : Bool) (i : Int) : GoA := ⟨disc, cntN G.cf, i, G.cf, G.l, slD G.cf G.l i.toNat⟩
noncomputable def goTop (G : Gv) (at_ : Int) (disc : Bool) (V0 : List Value) (H0 : List Go.Sx.Blk) (K : Option Value) : Option Value :=
  bt (mdC G.cf G.ns G.nf G.np) (noS G.cf (bt (ldG G.cf G.l) (ixR (atI G.cf.s at_) G.cf.s.toNat G.cf.s.toNat (bt (ldG G.cf G.l) (bif (slD G.cf G.l (atI G.cf.s at_).toNat).st != 3 then isT else bif decide ((slD G.cf G.l (atI G.cf.s at_).toNat).own ≥ G.cf.w) then isT else
    bt (sure (isIt (goV0 (goA0 G disc (atI G.cf.s at_)) 0) (goHN G (goA0 G disc (atI G.cf.s at_)) (cntN G.cf) (cntN G.cf) (cntN G.cf) G.l (goQ G.cf (slD G.cf G.l (atI G.cf.s at_).toNat) (atI G.cf.s at_) disc) (goQ G.cf (slD G.cf G.l (atI G.cf.s at_).toNat) (atI G.cf.s at_) disc)) V0 H0)) K)))))
noncomputable def goMid (G : Gv) (a a2 : GoA) (N C S : Nat) (D : Nat → Slt) (t : Int) (l : List Int) (x y : Gq) (n e f : Int) (V2 : List Value) (H2 : List Go.Sx.Blk) : Option Value :=
  bt (okM N l) (bt (rightC a.cf && okM N l && Nat.beq N (cntN a.cf)) (bt (sure (isIt (goV2 a a.cf.s.toNat n x.e) (goH2 G a N C a.cf.s.toNat (slD a.cf l) t l y) V2 H2)) (goFin a2 S D e f)))
theorem go_allC (G : Gv) (at_ : Int) (disc : Bool) (str : Int) (brk : Bool) (V0 : List Value) (H0 : List Go.Sx.Blk) (V2 : List Value) (H2 : List Go.Sx.Blk) (a : GoA) (N2 : Nat) (i2 : Int) (cf2 : Cf) (l2 : List Int) (s1 s2 : Int) (s3 : Bool) (s4 s5 s6 s7 : Int) (N C S : Nat) (D : Nat → Slt) (t : Int) (l : List Int) (x y z : Gq) (n : Int) :
  (callV (goEnv V0 H0 (.normal, goV0 a n, goHN G a N C t l x y) V2 H2 (goO2 G ⟨disc, N2, i2, cf2, 2 :: l2, ⟨s1, s2, str, brk, s3, s4, s5, s6, s7⟩⟩ S D (gEnd z 5) 5)) 60 11 [G.val, .int .u8 at_, .bool disc] (goA G)).run (Option Value) none (fun r => some r.1) =
    goTop G at_ disc V0 H0 (goMid G a ⟨disc, N2, i2, cf2, 2 :: l2, ⟨s1, s2, str, brk, s3, s4, s5, s6, s7⟩⟩ N C S D t l x y n 5 5 V2 H2) := by kernel_rfl
theorem go_allB0 (G : Gv) (at_ : Int) (k : Nat) (brk : Bool) (V0 : List Value) (H0 : List Go.Sx.Blk) (V2 : List Value) (H2 : List Go.Sx.Blk) (a : GoA) (N2 : Nat) (i2 : Int) (cf2 : Cf) (l2 : List Int) (s1 s2 : Int) (s3 : Bool) (s4 s5 s6 s7 : Int) (N C S : Nat) (D : Nat → Slt) (t : Int) (l : List Int) (x y z : Gq) (n : Int) :
  (callV (goEnv V0 H0 (.normal, goV0 a n, goHN G a N C t l x y) V2 H2 (goO2 G ⟨false, N2, i2, cf2, 0 :: l2, ⟨s1, s2, ((k + 1 : Nat) : Int), brk, s3, s4, s5, s6, s7⟩⟩ S D (gEnd z 8) 8)) 60 11 [G.val, .int .u8 at_, .bool false] (goA G)).run (Option Value) none (fun r => some r.1) =
    goTop G at_ false V0 H0 (goMid G a ⟨false, N2, i2, cf2, 0 :: l2, ⟨s1, s2, ((k + 1 : Nat) : Int), brk, s3, s4, s5, s6, s7⟩⟩ N C S D t l x y n 8 8 V2 H2) := by kernel_rfl
theorem go_allB1 (G : Gv) (at_ : Int) (k : Nat) (brk : Bool) (V0 : List Value) (H0 : List Go.Sx.Blk) (V2 : List Value) (H2 : List Go.Sx.Blk) (a : GoA) (N2 : Nat) (i2 : Int) (cf2 : Cf) (l2 : List Int) (s1 s2 : Int) (s3 : Bool) (s4 s5 s6 s7 : Int) (N C S : Nat) (D : Nat → Slt) (t : Int) (l : List Int) (x y z : Gq) (n : Int) :
  (callV (goEnv V0 H0 (.normal, goV0 a n, goHN G a N C t l x y) V2 H2 (goO2 G ⟨false, N2, i2, cf2, 1 :: l2, ⟨s1, s2, ((k + 1 : Nat) : Int), brk, s3, s4, s5, s6, s7⟩⟩ S D (gEnd z 8) 8)) 60 11 [G.val, .int .u8 at_, .bool false] (goA G)).run (Option Value) none (fun r => some r.1) =
    goTop G at_ false V0 H0 (goMid G a ⟨false, N2, i2, cf2, 1 :: l2, ⟨s1, s2, ((k + 1 : Nat) : Int), brk, s3, s4, s5, s6, s7⟩⟩ N C S D t l x y n 8 8 V2 H2) := by kernel_rfl
theorem go_allR (G : Gv) (at_ : Int) (V0 : List Value) (H0 : List Go.Sx.Blk) (V2 : List Value) (H2 : List Go.Sx.Blk) (a : GoA) (N2 : Nat) (i2 : Int) (cf2 : Cf) (l2 : List Int) (s1 s2 : Int) (s3 : Bool) (s4 s5 s6 s7 : Int) (N C S : Nat) (D : Nat → Slt) (t : Int) (l : List Int) (x y z : Gq) (n : Int) :
  (callV (goEnv V0 H0 (.normal, goV0 a n, goHN G a N C t l x y) V2 H2 (goO2 G ⟨false, N2, i2, cf2, 0 :: l2, ⟨s1, s2, 0, false, s3, s4, s5, s6, s7⟩⟩ S D (gEnd z 2) 0)) 60 11 [G.val, .int .u8 at_, .bool false] (goA G)).run (Option Value) none (fun r => some r.1) =
    goTop G at_ false V0 H0 (goMid G a ⟨false, N2, i2, cf2, 0 :: l2, ⟨s1, s2, 0, false, s3, s4, s5, s6, s7⟩⟩ N C S D t l x y n 0 2 V2 H2) := by kernel_rfl
theorem go_allU (G : Gv) (at_ : Int) (V0 : List Value) (H0 : List Go.Sx.Blk) (V2 : List Value) (H2 : List Go.Sx.Blk) (a : GoA) (N2 : Nat) (i2 : Int) (cf2 : Cf) (l2 : List Int) (s1 s2 : Int) (s3 : Bool) (s4 s5 s6 s7 : Int) (N C S : Nat) (D : Nat → Slt) (t : Int) (l : List Int) (x y z : Gq) (r : Rq) (n : Int) :
  (callV (goEnv V0 H0 (.normal, goV0 a n, goHR G a N C t l x y r) V2 H2 (goO2 G ⟨false, N2, i2, cf2, 0 :: l2, ⟨s1, s2, 0, false, s3, s4, s5, s6, s7⟩⟩ S D (gEnd z 2) 0)) 60 11 [G.val, .int .u8 at_, .bool false] (goA G)).run (Option Value) none (fun r => some r.1) =
    goTop G at_ false V0 H0 (goMid G a ⟨false, N2, i2, cf2, 0 :: l2, ⟨s1, s2, 0, false, s3, s4, s5, s6, s7⟩⟩ N C S D t l x y n 0 2 V2 H2) := by kernel_rfl
theorem go_allD0 (G : Gv) (at_ : Int) (str : Int) (brk : Bool) (V0 : List Value) (H0 : List Go.Sx.Blk) (V2 : List Value) (H2 : List Go.Sx.Blk) (a : GoA) (N2 : Nat) (i2 : Int) (cf2 : Cf) (l2 : List Int) (s1 s2 : Int) (s3 : Bool) (s4 s5 s6 s7 : Int) (N C S : Nat) (D : Nat → Slt) (t : Int) (l : List Int) (x y z : Gq) (r : Rq) (n : Int) :
  (callV (goEnv V0 H0 (.normal, goV0 a n, goHR G a N C t l x y r) V2 H2 (goO2 G ⟨true, N2, i2, cf2, 0 :: l2, ⟨s1, s2, str, brk, s3, s4, s5, s6, s7⟩⟩ S D (gEnd z 2) 0)) 60 11 [G.val, .int .u8 at_, .bool true] (goA G)).run (Option Value) none (fun r => some r.1) =
    goTop G at_ true V0 H0 (goMid G a ⟨true, N2, i2, cf2, 0 :: l2, ⟨s1, s2, str, brk, s3, s4, s5, s6, s7⟩⟩ N C S D t l x y n 0 2 V2 H2) := by kernel_rfl
theorem go_allD1 (G : Gv) (at_ : Int) (str : Int) (brk : Bool) (V0 : List Value) (H0 : List Go.Sx.Blk) (V2 : List Value) (H2 : List Go.Sx.Blk) (a : GoA) (N2 : Nat) (i2 : Int) (cf2 : Cf) (l2 : List Int) (s1 s2 : Int) (s3 : Bool) (s4 s5 s6 s7 : Int) (N C S : Nat) (D : Nat → Slt) (t : Int) (l : List Int) (x y z : Gq) (r : Rq) (n : Int) :
  (callV (goEnv V0 H0 (.normal, goV0 a n, goHR G a N C t l x y r) V2 H2 (goO2 G ⟨true, N2, i2, cf2, 1 :: l2, ⟨s1, s2, str, brk, s3, s4, s5, s6, s7⟩⟩ S D (gEnd z 2) 0)) 60 11 [G.val, .int .u8 at_, .bool true] (goA G)).run (Option Value) none (fun r => some r.1) =
    goTop G at_ true V0 H0 (goMid G a ⟨true, N2, i2, cf2, 1 :: l2, ⟨s1, s2, str, brk, s3, s4, s5, s6, s7⟩⟩ N C S D t l x y n 0 2 V2 H2) := by kernel_rfl
theorem go_allK0 (G : Gv) (at_ : Int) (V0 : List Value) (H0 : List Go.Sx.Blk) (V2 : List Value) (H2 : List Go.Sx.Blk) (a : GoA) (N2 : Nat) (i2 : Int) (cf2 : Cf) (l2 : List Int) (s1 s2 : Int) (s3 : Bool) (s4 s5 s6 s7 : Int) (N C S : Nat) (D : Nat → Slt) (t : Int) (l : List Int) (x y z : Gq) (r : Rq) (n : Int) :
  (callV (goEnv V0 H0 (.normal, goV0 a n, goHR G a N C t l x y r) V2 H2 (goO2 G ⟨false, N2, i2, cf2, 0 :: l2, ⟨s1, s2, 0, true, s3, s4, s5, s6, s7⟩⟩ S D (gEnd z 2) 0)) 60 11 [G.val, .int .u8 at_, .bool false] (goA G)).run (Option Value) none (fun r => some r.1) =
    goTop G at_ false V0 H0 (goMid G a ⟨false, N2, i2, cf2, 0 :: l2, ⟨s1, s2, 0, true, s3, s4, s5, s6, s7⟩⟩ N C S D t l x y n 0 2 V2 H2) := by kernel_rfl
theorem go_allK1 (G : Gv) (at_ : Int) (V0 : List Value) (H0 : List Go.Sx.Blk) (V2 : List Value) (H2 : List Go.Sx.Blk) (a : GoA) (N2 : Nat) (i2 : Int) (cf2 : Cf) (l2 : List Int) (s1 s2 : Int) (s3 : Bool) (s4 s5 s6 s7 : Int) (N C S : Nat) (D : Nat → Slt) (t : Int) (l : List Int) (x y z : Gq) (r : Rq) (n : Int) :
  (callV (goEnv V0 H0 (.normal, goV0 a n, goHR G a N C t l x y r) V2 H2 (goO2 G ⟨false, N2, i2, cf2, 1 :: l2, ⟨s1, s2, 0, true, s3, s4, s5, s6, s7⟩⟩ S D (gEnd z 2) 0)) 60 11 [G.val, .int .u8 at_, .bool false] (goA G)).run (Option Value) none (fun r => some r.1) =
    goTop G at_ false V0 H0 (goMid G a ⟨false, N2, i2, cf2, 1 :: l2, ⟨s1, s2, 0, true, s3, s4, s5, s6, s7⟩⟩ N C S D t l x y n 0 2 V2 H2) := by kernel_rfl
theorem go_allL (G : Gv) (at_ : Int) (V0 : List Value) (H0 : List Go.Sx.Blk) (V2 : List Value) (H2 : List Go.Sx.Blk) (a : GoA) (N2 : Nat) (i2 : Int) (cf2 : Cf) (l2 : List Int) (s1 s2 : Int) (s3 : Bool) (s4 s5 s6 s7 : Int) (N C S : Nat) (D : Nat → Slt) (t : Int) (l : List Int) (x y z : Gq) (r : Rq) (n : Int) :
  (callV (goEnv V0 H0 (.normal, goV0 a n, goHR G a N C t l x y r) V2 H2 (goO2 G ⟨false, N2, i2, cf2, 1 :: l2, ⟨s1, s2, 0, false, s3, s4, s5, s6, s7⟩⟩ S D (gEnd z 2) 0)) 60 11 [G.val, .int .u8 at_, .bool false] (goA G)).run (Option Value) none (fun r => some r.1) =
    goTop G at_ false V0 H0 (goMid G a ⟨false, N2, i2, cf2, 1 :: l2, ⟨s1, s2, 0, false, s3, s4, s5, s6, s7⟩⟩ N C S D t l x y n 0 2 V2 H2) := by kernel_rfl
theorem go_none (G : Gv) (at_ : Int) (disc : Bool) :
  (callV goEnvN 60 11 [G.val, .int .u8 at_, .bool disc] (goA G)).run (Option Value) none (fun r => some r.1) =
    bt (mdC G.cf G.ns G.nf G.np) (noS G.cf (bt (ldG G.cf G.l) (ixR (atI G.cf.s at_) G.cf.s.toNat G.cf.s.toNat (bt (ldG G.cf G.l) (bif (slD G.cf G.l (atI G.cf.s at_).toNat).st != 3 then isT else bif decide ((slD G.cf G.l (atI G.cf.s at_).toNat).own ≥ G.cf.w) then isT else none))))) := by kernel_rfl
end Go.Proofs.YthfoljgaiincdaaDoor
