/- RetirePlays. No condition of its own. -/
import Derived.Test.YtcakklnacnnlaaaDoorRetP
namespace Go.Proofs.YtcakklnacnnlaaaDoor
open Go.RowKit Go.Fld Go.Sx
set_option linter.unusedVariables false
set_option linter.unusedSimpArgs false
noncomputable def rpBody : Code := Tryd.f12.body.getD .skip
noncomputable def rpRound : Code := lpB (blkAt 0 rpBody)
theorem rp_loop : blkAt 0 rpBody = .loop rpRound := by kernel_rfl
abbrev rpV (W : Wv) (i : Int) : List Value := [W.val 3, .bool true, .pointer (some ⟨4, 0, none⟩), .pointer (some ⟨5, 0, none⟩), .pointer (some ⟨6, 0, none⟩), .pointer (some ⟨7, 0, none⟩), .int .i64 i]
abbrev rpA (G : Gv) (W : Wv) : List Go.Sx.Blk := [G.r0, G.r1, G.r2, W.row]
abbrev rpH (G : Gv) (W : Wv) (N C : Nat) (tp tr : Int) (lp lr : List Int) (q : Rq) (h : Rr) : List Go.Sx.Blk := rpA G W ++ [.cells true true [.slice (some ⟨8, 0, none⟩) N C, .int .i64 tp], rqB 5 q, .cells true true [.slice (some ⟨9, 0, some 1⟩) N 0, .int .i64 tr], rrB h, .ints true true lp, .ints true true lr]
theorem rp_tree (G : Gv) (W : Wv) (N C : Nat) (tp tr : Int) (lp lr : List Int) (q : Rq) (h : Rr) (i : Int) :
    (roundV rlEnv 40 noLps 142 [4, 11, 15, 16, 17, 18, 19] 4 rpRound (unpack 142 [4, 11, 15, 16, 17, 18, 19] (rpV W i) (rpH G W N C tp tr lp lr q h))).get =
    bif decide (i < 6) then bt (okM N lp && Nat.beq W.nl W.nl && smallN W.nl) (bt (okM N lr && Nat.beq W.nl W.nl && smallN W.nl && wrOK N W.gi W.nl) (bt (okM N (wrsL N W.gi i W.nl lp) && rOK q.f) (bt (okM N (wrsL N W.gi i W.nl lr)) (
      bif !(rret N (wrsL N W.gi i W.nl lp) q == (rrstep N (wrsL N W.gi i W.nl lr) h).dn) then (some (.ret, rpV W i, rpH G W N C (rtch N q (wrsT N W.gi i W.nl tp)) (rrtch N h tr) (rmem N (wrsL N W.gi i W.nl lp) q) (rrmem N (wrsL N W.gi i W.nl lr) h) (rstep N (wrsL N W.gi i W.nl lp) q) (rrstep N (wrsL N W.gi i W.nl lr) h))) else bif !((rstep N (wrsL N W.gi i W.nl lp) q).sw == (rrstep N (wrsL N W.gi i W.nl lr) h).sw) then (some (.ret, rpV W i, rpH G W N C (rtch N q (wrsT N W.gi i W.nl tp)) (rrtch N h tr) (rmem N (wrsL N W.gi i W.nl lp) q) (rrmem N (wrsL N W.gi i W.nl lr) h) (rstep N (wrsL N W.gi i W.nl lp) q) (rrstep N (wrsL N W.gi i W.nl lr) h))) else bif !((rstep N (wrsL N W.gi i W.nl lp) q).dn == (rrstep N (wrsL N W.gi i W.nl lr) h).dn) then (some (.ret, rpV W i, rpH G W N C (rtch N q (wrsT N W.gi i W.nl tp)) (rrtch N h tr) (rmem N (wrsL N W.gi i W.nl lp) q) (rrmem N (wrsL N W.gi i W.nl lr) h) (rstep N (wrsL N W.gi i W.nl lp) q) (rrstep N (wrsL N W.gi i W.nl lr) h))) else
      bif w64 (rtch N q (wrsT N W.gi i W.nl tp) - (wrsT N W.gi i W.nl tp)) != w64 (rrtch N h tr - tr) then (some (.ret, rpV W i, rpH G W N C (rtch N q (wrsT N W.gi i W.nl tp)) (rrtch N h tr) (rmem N (wrsL N W.gi i W.nl lp) q) (rrmem N (wrsL N W.gi i W.nl lr) h) (rstep N (wrsL N W.gi i W.nl lp) q) (rrstep N (wrsL N W.gi i W.nl lr) h))) else bt (okM N (rmem N (wrsL N W.gi i W.nl lp) q)) (bt (lenOK N (rmem N (wrsL N W.gi i W.nl lp) q) && lenOK N (rrmem N (wrsL N W.gi i W.nl lr) h)) (bif !decide (rmem N (wrsL N W.gi i W.nl lp) q = rrmem N (wrsL N W.gi i W.nl lr) h) then (some (.ret, rpV W i, rpH G W N C (rtch N q (wrsT N W.gi i W.nl tp)) (rrtch N h tr) (rmem N (wrsL N W.gi i W.nl lp) q) (rrmem N (wrsL N W.gi i W.nl lr) h) (rstep N (wrsL N W.gi i W.nl lp) q) (rrstep N (wrsL N W.gi i W.nl lr) h))) else (some (.normal, rpV W (w64 (i + 1)), rpH G W N C (rtch N q (wrsT N W.gi i W.nl tp)) (rrtch N h tr) (rmem N (wrsL N W.gi i W.nl lp) q) (rrmem N (wrsL N W.gi i W.nl lr) h) (rstep N (wrsL N W.gi i W.nl lp) q) (rrstep N (wrsL N W.gi i W.nl lr) h)))))))))
    else some (.exit 0, rpV W i, rpH G W N C tp tr lp lr q h) := by kernel_rfl
end Go.Proofs.YtcakklnacnnlaaaDoor
