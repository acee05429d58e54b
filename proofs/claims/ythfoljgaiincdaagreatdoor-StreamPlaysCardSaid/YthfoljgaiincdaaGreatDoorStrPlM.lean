
/- StreamPlays: its loop, the whole. No condition of its own. -/
import Derived.Test.YthfoljgaiincdaaGreatDoorStrYB
import Derived.Test.YthfoljgaiincdaaGreatDoorStrL
import Derived.Test.YthfoljgaiincdaaGreatDoorSxMf
namespace Go.Proofs.YthfoljgaiincdaaGreatDoor
open Go.RowKit Go.Fld Go.Sx
set_option linter.unusedVariables false
set_option linter.unusedSimpArgs false
noncomputable def spFns : List (FuncId × Func) := [(3, Tryz.f3), (10, Tryz.f10), (9, Tryz.f9), (11, Tryz.f11)]
theorem spFns_ok : ∀ e ∈ spFns, FnOK Tryz.prog e.1 e.2 :=
  fns_ok_cons ⟨Tryz.func3, by kernel_rfl, by kernel_rfl⟩ <| fns_ok_cons ⟨Tryz.func10, by kernel_rfl, by kernel_rfl⟩ <| fns_ok_cons ⟨Tryz.func9, by kernel_rfl, by kernel_rfl⟩ <| fns_ok_cons ⟨Tryz.func11, by kernel_rfl, by kernel_rfl⟩ <| fns_ok_nil rfl
def sp0 : List (FuncId × Orc) := streamYOrcs ++ ([(8, frameM laidO), (12, frameM wrO), (13, frameM wrqO), (6, frameM madeO), (7, frameM slotsO)] ++ memOrcs ++ confOrcs ++ wordOrcs ++ intsOrcs)
theorem sp0_ok : Sounds Tryz.prog Tab sp0 := sounds_append streamYOrcs_ok (sounds_append (sounds_append (sounds_append (sounds_append (sounds_cons (laid_sound.frame tab_kept) <| sounds_cons (wr_sound.frame tab_kept) <| sounds_cons (wrq_sound.frame tab_kept) <| sounds_cons (made_sound.frame tab_kept) <| sounds_cons (slots_sound.frame tab_kept) sounds_nil) memOrcs_ok) confOrcs_ok) wordOrcs_ok) intsOrcs_ok)
def sp1 : List (FuncId × Orc) := [(5, awakeO)] ++ streamOrcs ++ sp0
theorem sp1_ok : SoundsG KT Tryz.prog TT sp1 := sounds_appendG (sounds_appendG (sounds_consG awake_sound sounds_nilG) streamOrcs_ok) sp0_ok.tt
noncomputable def spE : Env := mkEnv Tryz.prog spFns [slotEq] sp1 []
theorem spE_ok (X : Nat → Prop) (w0 : World) (h0 : ∀ k, KT k → X k) (hB : Bnd X w0) (hT : TT w0) : EnvOK spE X w0 := mkEnv_okG slotEq_ok (by kernel_rfl) spFns_ok sp1_ok lpSounds_nilG h0 hB hT
noncomputable def spBody : Code := Tryz.f3.body.getD .skip
noncomputable def spRound : Code := lpB (blkAt 0 spBody)
theorem sp_loop : blkAt 0 spBody = .loop spRound := by kernel_rfl
abbrev sK (k : Nat) : Value := .pointer (some ⟨k, 0, none⟩)
abbrev spV (W : Wv) (j : Int) : List Value := [W.val 3, .bool false, .bool true, sK 4, sK 5, sK 6, sK 7, .int .i64 j]
abbrev spA (G : Gv) (W : Wv) : List Go.Sx.Blk := [G.r0, G.r1, G.r2, W.row]
abbrev spB (G : Gv) (W : Wv) (f : Nat) (N C : Nat) (tp tr : Int) (lp lr : List Int) (q : Sq) (y : Yq) : List Go.Sx.Blk := spA G W ++ [.cells true true [.slice (some ⟨8, 0, none⟩) N C, .int .i64 tp], .cells true true [.slice (some ⟨9, 0, some 1⟩) N 0, .int .i64 tr], sB (kV f 10 11) q, yqB y, .ints true true lp, .ints true true lr]
abbrev spHO (bw : Int) (bc : Cf) (G : Gv) (W : Wv) (N C : Nat) (tp tr : Int) (lp lr : List Int) (q : Sq) (y : Yq) : List Go.Sx.Blk := spB G W fOpen N C tp tr lp lr q y ++ [i1 bw, cB bc]
abbrev spHS (bw bn : Int) (G : Gv) (W : Wv) (N C : Nat) (tp tr : Int) (lp lr : List Int) (q : Sq) (y : Yq) : List Go.Sx.Blk := spB G W fShut N C tp tr lp lr q y ++ [i1 bw, i1 bn]
theorem sp_treeO (G : Gv) (W : Wv) (bw : Int) (bc : Cf) (N C : Nat) (tp tr : Int) (lp lr : List Int) (cf : Cf) (w i gen st wd nx num e : Int) (y : Yq) (j : Int) :
    (roundV spE 40 noLps 182 [7, 16, 17, 22, 23, 24, 25, 26] 4 spRound (unpack 182 [7, 16, 17, 22, 23, 24, 25, 26] (spV W j) (spHO bw bc G W N C tp tr lp lr (⟨cf, w, i, gen, st, wd, nx, num, e⟩ : Sq) y))).get =
    bif decide (j < 30) then bt (okM N lp && Nat.beq W.nl W.nl && smallN W.nl) (bt (okM N lr && Nat.beq W.nl W.nl && smallN W.nl && wrOK N W.gi W.nl) (bt (okM N (wrsL N W.gi j W.nl lp) && sOK st && Nat.beq 0 0) (bt (okM N (wrsL N W.gi j W.nl lr) && bSt (strS y.st)) (bt (bSt (strS (ysq N (wrsL N W.gi j W.nl lr) (yqOf (ybOf y))).st)) (bif !(sret (.op bw bc) N (wrsL N W.gi j W.nl lp) (⟨cf, w, i, gen, st, wd, nx, num, e⟩ : Sq) == ((ysq N (wrsL N W.gi j W.nl lr) (yqOf (ybOf y))).st == 3)) then (some (.ret, spV W j, spHO bw bc G W N C (stch N (⟨cf, w, i, gen, st, wd, nx, num, e⟩ : Sq) (wrsT N W.gi j W.nl tp)) (ystch N (yqOf (ybOf y)) tr) (smem N (wrsL N W.gi j W.nl lp) (⟨cf, w, i, gen, st, wd, nx, num, e⟩ : Sq)) (ysmem N (wrsL N W.gi j W.nl lr) (yqOf (ybOf y))) (sq (.op bw bc) N (wrsL N W.gi j W.nl lp) (⟨cf, w, i, gen, st, wd, nx, num, e⟩ : Sq)) (ysq N (wrsL N W.gi j W.nl lr) (yqOf (ybOf y))))) else bif anE (sq (.op bw bc) N (wrsL N W.gi j W.nl lp) (⟨cf, w, i, gen, st, wd, nx, num, e⟩ : Sq)).st (sq (.op bw bc) N (wrsL N W.gi j W.nl lp) (⟨cf, w, i, gen, st, wd, nx, num, e⟩ : Sq)).e != anE (stSt (strS (ysq N (wrsL N W.gi j W.nl lr) (yqOf (ybOf y))).st)) (ysq N (wrsL N W.gi j W.nl lr) (yqOf (ybOf y))).e then (some (.ret, spV W j, spHO bw bc G W N C (stch N (⟨cf, w, i, gen, st, wd, nx, num, e⟩ : Sq) (wrsT N W.gi j W.nl tp)) (ystch N (yqOf (ybOf y)) tr) (smem N (wrsL N W.gi j W.nl lp) (⟨cf, w, i, gen, st, wd, nx, num, e⟩ : Sq)) (ysmem N (wrsL N W.gi j W.nl lr) (yqOf (ybOf y))) (sq (.op bw bc) N (wrsL N W.gi j W.nl lp) (⟨cf, w, i, gen, st, wd, nx, num, e⟩ : Sq)) (ysq N (wrsL N W.gi j W.nl lr) (yqOf (ybOf y))))) else bif anN (sq (.op bw bc) N (wrsL N W.gi j W.nl lp) (⟨cf, w, i, gen, st, wd, nx, num, e⟩ : Sq)).st (sq (.op bw bc) N (wrsL N W.gi j W.nl lp) (⟨cf, w, i, gen, st, wd, nx, num, e⟩ : Sq)).e (sq (.op bw bc) N (wrsL N W.gi j W.nl lp) (⟨cf, w, i, gen, st, wd, nx, num, e⟩ : Sq)).num != anN (stSt (strS (ysq N (wrsL N W.gi j W.nl lr) (yqOf (ybOf y))).st)) (ysq N (wrsL N W.gi j W.nl lr) (yqOf (ybOf y))).e (ysq N (wrsL N W.gi j W.nl lr) (yqOf (ybOf y))).num then (some (.ret, spV W j, spHO bw bc G W N C (stch N (⟨cf, w, i, gen, st, wd, nx, num, e⟩ : Sq) (wrsT N W.gi j W.nl tp)) (ystch N (yqOf (ybOf y)) tr) (smem N (wrsL N W.gi j W.nl lp) (⟨cf, w, i, gen, st, wd, nx, num, e⟩ : Sq)) (ysmem N (wrsL N W.gi j W.nl lr) (yqOf (ybOf y))) (sq (.op bw bc) N (wrsL N W.gi j W.nl lp) (⟨cf, w, i, gen, st, wd, nx, num, e⟩ : Sq)) (ysq N (wrsL N W.gi j W.nl lr) (yqOf (ybOf y))))) else bif !(((sq (.op bw bc) N (wrsL N W.gi j W.nl lp) (⟨cf, w, i, gen, st, wd, nx, num, e⟩ : Sq)).st == 3) == ((stSt (strS (ysq N (wrsL N W.gi j W.nl lr) (yqOf (ybOf y))).st)) == 3)) then (some (.ret, spV W j, spHO bw bc G W N C (stch N (⟨cf, w, i, gen, st, wd, nx, num, e⟩ : Sq) (wrsT N W.gi j W.nl tp)) (ystch N (yqOf (ybOf y)) tr) (smem N (wrsL N W.gi j W.nl lp) (⟨cf, w, i, gen, st, wd, nx, num, e⟩ : Sq)) (ysmem N (wrsL N W.gi j W.nl lr) (yqOf (ybOf y))) (sq (.op bw bc) N (wrsL N W.gi j W.nl lp) (⟨cf, w, i, gen, st, wd, nx, num, e⟩ : Sq)) (ysq N (wrsL N W.gi j W.nl lr) (yqOf (ybOf y))))) else bif w64 ((stch N (⟨cf, w, i, gen, st, wd, nx, num, e⟩ : Sq) (wrsT N W.gi j W.nl tp)) - (wrsT N W.gi j W.nl tp)) != w64 ((ystch N (yqOf (ybOf y)) tr) - tr) then (some (.ret, spV W j, spHO bw bc G W N C (stch N (⟨cf, w, i, gen, st, wd, nx, num, e⟩ : Sq) (wrsT N W.gi j W.nl tp)) (ystch N (yqOf (ybOf y)) tr) (smem N (wrsL N W.gi j W.nl lp) (⟨cf, w, i, gen, st, wd, nx, num, e⟩ : Sq)) (ysmem N (wrsL N W.gi j W.nl lr) (yqOf (ybOf y))) (sq (.op bw bc) N (wrsL N W.gi j W.nl lp) (⟨cf, w, i, gen, st, wd, nx, num, e⟩ : Sq)) (ysq N (wrsL N W.gi j W.nl lr) (yqOf (ybOf y))))) else bt (okM N (smem N (wrsL N W.gi j W.nl lp) (⟨cf, w, i, gen, st, wd, nx, num, e⟩ : Sq))) (bt (lenOK N (smem N (wrsL N W.gi j W.nl lp) (⟨cf, w, i, gen, st, wd, nx, num, e⟩ : Sq)) && lenOK N (ysmem N (wrsL N W.gi j W.nl lr) (yqOf (ybOf y)))) (bif !decide ((smem N (wrsL N W.gi j W.nl lp) (⟨cf, w, i, gen, st, wd, nx, num, e⟩ : Sq)) = (ysmem N (wrsL N W.gi j W.nl lr) (yqOf (ybOf y)))) then (some (.ret, spV W j, spHO bw bc G W N C (stch N (⟨cf, w, i, gen, st, wd, nx, num, e⟩ : Sq) (wrsT N W.gi j W.nl tp)) (ystch N (yqOf (ybOf y)) tr) (smem N (wrsL N W.gi j W.nl lp) (⟨cf, w, i, gen, st, wd, nx, num, e⟩ : Sq)) (ysmem N (wrsL N W.gi j W.nl lr) (yqOf (ybOf y))) (sq (.op bw bc) N (wrsL N W.gi j W.nl lp) (⟨cf, w, i, gen, st, wd, nx, num, e⟩ : Sq)) (ysq N (wrsL N W.gi j W.nl lr) (yqOf (ybOf y))))) else (some (.normal, spV W (w64 (j + 1)), spHO bw bc G W N C (stch N (⟨cf, w, i, gen, st, wd, nx, num, e⟩ : Sq) (wrsT N W.gi j W.nl tp)) (ystch N (yqOf (ybOf y)) tr) (smem N (wrsL N W.gi j W.nl lp) (⟨cf, w, i, gen, st, wd, nx, num, e⟩ : Sq)) (ysmem N (wrsL N W.gi j W.nl lr) (yqOf (ybOf y))) (sq (.op bw bc) N (wrsL N W.gi j W.nl lp) (⟨cf, w, i, gen, st, wd, nx, num, e⟩ : Sq)) (ysq N (wrsL N W.gi j W.nl lr) (yqOf (ybOf y)))))))))))) else some (.exit 0, spV W j, spHO bw bc G W N C tp tr lp lr (⟨cf, w, i, gen, st, wd, nx, num, e⟩ : Sq) y) := by kernel_rfl
theorem sp_treeS (G : Gv) (W : Wv) (bw bn : Int) (N C : Nat) (tp tr : Int) (lp lr : List Int) (cf : Cf) (w i gen st wd nx num e : Int) (y : Yq) (j : Int) :
    (roundV spE 40 noLps 182 [7, 16, 17, 22, 23, 24, 25, 26] 4 spRound (unpack 182 [7, 16, 17, 22, 23, 24, 25, 26] (spV W j) (spHS bw bn G W N C tp tr lp lr (⟨cf, w, i, gen, st, wd, nx, num, e⟩ : Sq) y))).get =
    bif decide (j < 30) then bt (okM N lp && Nat.beq W.nl W.nl && smallN W.nl) (bt (okM N lr && Nat.beq W.nl W.nl && smallN W.nl && wrOK N W.gi W.nl) (bt (okM N (wrsL N W.gi j W.nl lp) && sOK st && Nat.beq 0 0) (bt (okM N (wrsL N W.gi j W.nl lr) && bSt (strS y.st)) (bt (bSt (strS (ysq N (wrsL N W.gi j W.nl lr) (yqOf (ybOf y))).st)) (bif !(sret (.sh bw bn) N (wrsL N W.gi j W.nl lp) (⟨cf, w, i, gen, st, wd, nx, num, e⟩ : Sq) == ((ysq N (wrsL N W.gi j W.nl lr) (yqOf (ybOf y))).st == 3)) then (some (.ret, spV W j, spHS bw bn G W N C (stch N (⟨cf, w, i, gen, st, wd, nx, num, e⟩ : Sq) (wrsT N W.gi j W.nl tp)) (ystch N (yqOf (ybOf y)) tr) (smem N (wrsL N W.gi j W.nl lp) (⟨cf, w, i, gen, st, wd, nx, num, e⟩ : Sq)) (ysmem N (wrsL N W.gi j W.nl lr) (yqOf (ybOf y))) (sq (.sh bw bn) N (wrsL N W.gi j W.nl lp) (⟨cf, w, i, gen, st, wd, nx, num, e⟩ : Sq)) (ysq N (wrsL N W.gi j W.nl lr) (yqOf (ybOf y))))) else bif anE (sq (.sh bw bn) N (wrsL N W.gi j W.nl lp) (⟨cf, w, i, gen, st, wd, nx, num, e⟩ : Sq)).st (sq (.sh bw bn) N (wrsL N W.gi j W.nl lp) (⟨cf, w, i, gen, st, wd, nx, num, e⟩ : Sq)).e != anE (stSt (strS (ysq N (wrsL N W.gi j W.nl lr) (yqOf (ybOf y))).st)) (ysq N (wrsL N W.gi j W.nl lr) (yqOf (ybOf y))).e then (some (.ret, spV W j, spHS bw bn G W N C (stch N (⟨cf, w, i, gen, st, wd, nx, num, e⟩ : Sq) (wrsT N W.gi j W.nl tp)) (ystch N (yqOf (ybOf y)) tr) (smem N (wrsL N W.gi j W.nl lp) (⟨cf, w, i, gen, st, wd, nx, num, e⟩ : Sq)) (ysmem N (wrsL N W.gi j W.nl lr) (yqOf (ybOf y))) (sq (.sh bw bn) N (wrsL N W.gi j W.nl lp) (⟨cf, w, i, gen, st, wd, nx, num, e⟩ : Sq)) (ysq N (wrsL N W.gi j W.nl lr) (yqOf (ybOf y))))) else bif anN (sq (.sh bw bn) N (wrsL N W.gi j W.nl lp) (⟨cf, w, i, gen, st, wd, nx, num, e⟩ : Sq)).st (sq (.sh bw bn) N (wrsL N W.gi j W.nl lp) (⟨cf, w, i, gen, st, wd, nx, num, e⟩ : Sq)).e (sq (.sh bw bn) N (wrsL N W.gi j W.nl lp) (⟨cf, w, i, gen, st, wd, nx, num, e⟩ : Sq)).num != anN (stSt (strS (ysq N (wrsL N W.gi j W.nl lr) (yqOf (ybOf y))).st)) (ysq N (wrsL N W.gi j W.nl lr) (yqOf (ybOf y))).e (ysq N (wrsL N W.gi j W.nl lr) (yqOf (ybOf y))).num then (some (.ret, spV W j, spHS bw bn G W N C (stch N (⟨cf, w, i, gen, st, wd, nx, num, e⟩ : Sq) (wrsT N W.gi j W.nl tp)) (ystch N (yqOf (ybOf y)) tr) (smem N (wrsL N W.gi j W.nl lp) (⟨cf, w, i, gen, st, wd, nx, num, e⟩ : Sq)) (ysmem N (wrsL N W.gi j W.nl lr) (yqOf (ybOf y))) (sq (.sh bw bn) N (wrsL N W.gi j W.nl lp) (⟨cf, w, i, gen, st, wd, nx, num, e⟩ : Sq)) (ysq N (wrsL N W.gi j W.nl lr) (yqOf (ybOf y))))) else bif !(((sq (.sh bw bn) N (wrsL N W.gi j W.nl lp) (⟨cf, w, i, gen, st, wd, nx, num, e⟩ : Sq)).st == 3) == ((stSt (strS (ysq N (wrsL N W.gi j W.nl lr) (yqOf (ybOf y))).st)) == 3)) then (some (.ret, spV W j, spHS bw bn G W N C (stch N (⟨cf, w, i, gen, st, wd, nx, num, e⟩ : Sq) (wrsT N W.gi j W.nl tp)) (ystch N (yqOf (ybOf y)) tr) (smem N (wrsL N W.gi j W.nl lp) (⟨cf, w, i, gen, st, wd, nx, num, e⟩ : Sq)) (ysmem N (wrsL N W.gi j W.nl lr) (yqOf (ybOf y))) (sq (.sh bw bn) N (wrsL N W.gi j W.nl lp) (⟨cf, w, i, gen, st, wd, nx, num, e⟩ : Sq)) (ysq N (wrsL N W.gi j W.nl lr) (yqOf (ybOf y))))) else bif w64 ((stch N (⟨cf, w, i, gen, st, wd, nx, num, e⟩ : Sq) (wrsT N W.gi j W.nl tp)) - (wrsT N W.gi j W.nl tp)) != w64 ((ystch N (yqOf (ybOf y)) tr) - tr) then (some (.ret, spV W j, spHS bw bn G W N C (stch N (⟨cf, w, i, gen, st, wd, nx, num, e⟩ : Sq) (wrsT N W.gi j W.nl tp)) (ystch N (yqOf (ybOf y)) tr) (smem N (wrsL N W.gi j W.nl lp) (⟨cf, w, i, gen, st, wd, nx, num, e⟩ : Sq)) (ysmem N (wrsL N W.gi j W.nl lr) (yqOf (ybOf y))) (sq (.sh bw bn) N (wrsL N W.gi j W.nl lp) (⟨cf, w, i, gen, st, wd, nx, num, e⟩ : Sq)) (ysq N (wrsL N W.gi j W.nl lr) (yqOf (ybOf y))))) else bt (okM N (smem N (wrsL N W.gi j W.nl lp) (⟨cf, w, i, gen, st, wd, nx, num, e⟩ : Sq))) (bt (lenOK N (smem N (wrsL N W.gi j W.nl lp) (⟨cf, w, i, gen, st, wd, nx, num, e⟩ : Sq)) && lenOK N (ysmem N (wrsL N W.gi j W.nl lr) (yqOf (ybOf y)))) (bif !decide ((smem N (wrsL N W.gi j W.nl lp) (⟨cf, w, i, gen, st, wd, nx, num, e⟩ : Sq)) = (ysmem N (wrsL N W.gi j W.nl lr) (yqOf (ybOf y)))) then (some (.ret, spV W j, spHS bw bn G W N C (stch N (⟨cf, w, i, gen, st, wd, nx, num, e⟩ : Sq) (wrsT N W.gi j W.nl tp)) (ystch N (yqOf (ybOf y)) tr) (smem N (wrsL N W.gi j W.nl lp) (⟨cf, w, i, gen, st, wd, nx, num, e⟩ : Sq)) (ysmem N (wrsL N W.gi j W.nl lr) (yqOf (ybOf y))) (sq (.sh bw bn) N (wrsL N W.gi j W.nl lp) (⟨cf, w, i, gen, st, wd, nx, num, e⟩ : Sq)) (ysq N (wrsL N W.gi j W.nl lr) (yqOf (ybOf y))))) else (some (.normal, spV W (w64 (j + 1)), spHS bw bn G W N C (stch N (⟨cf, w, i, gen, st, wd, nx, num, e⟩ : Sq) (wrsT N W.gi j W.nl tp)) (ystch N (yqOf (ybOf y)) tr) (smem N (wrsL N W.gi j W.nl lp) (⟨cf, w, i, gen, st, wd, nx, num, e⟩ : Sq)) (ysmem N (wrsL N W.gi j W.nl lr) (yqOf (ybOf y))) (sq (.sh bw bn) N (wrsL N W.gi j W.nl lp) (⟨cf, w, i, gen, st, wd, nx, num, e⟩ : Sq)) (ysq N (wrsL N W.gi j W.nl lr) (yqOf (ybOf y)))))))))))) else some (.exit 0, spV W j, spHS bw bn G W N C tp tr lp lr (⟨cf, w, i, gen, st, wd, nx, num, e⟩ : Sq) y) := by kernel_rfl
theorem sp_chain {α : Type} {N : Nat} {a b : Bool} {q' : Sq} {y' : Yq} {u v : Int} {m1 m2 : List Int} {F G : Option α} (hab : a = b) (hst : y'.st = q'.st) (he : y'.e = q'.e) (hs : sOK q'.st = true) (hn : q'.st = 3 → q'.e = 0 → q'.num = y'.num) (huv : u = v) (hm : m2 = m1) (hok : okM N m1 = true) :
    (bif !(a == b) then F else bif anE q'.st q'.e != anE (stSt (strS y'.st)) y'.e then F else bif anN q'.st q'.e q'.num != anN (stSt (strS y'.st)) y'.e y'.num then F else bif !((q'.st == 3) == (stSt (strS y'.st) == 3)) then F else bif u != v then F else bt (okM N m1) (bt (lenOK N m1 && lenOK N m2) (bif !decide (m1 = m2) then F else G))) = G := by
  subst hab; subst huv; subst hm
  rw [hst, he, (stSt_str hs).1]
  have hN : anN q'.st q'.e q'.num = anN q'.st q'.e y'.num := by
    unfold anN
    by_cases h3 : q'.st = 3
    · by_cases h0 : q'.e = 0
      · rw [hn h3 h0]
      · rw [show (q'.e != 0) = true from bne_iff_ne.2 h0]; rfl
    · rw [show (q'.st != 3) = true from bne_iff_ne.2 h3]; rfl
  rw [hN, beq_self_eq_true, bne_self_eq_false, bne_self_eq_false, beq_self_eq_true, bne_self_eq_false, bt_of hok, bt_of (by rw [lenOK_okM hok]; rfl), decide_eq_true rfl]
  rfl
structure SpS where
  tp : Int
  tr : Int
  l : List Int
  q : Sq
  y : Yq
def spH (K : Kd) (G : Gv) (W : Wv) (N C : Nat) (s : SpS) : List Go.Sx.Blk := match K with
  | .op bw bc => spHO bw bc G W N C s.tp s.tr s.l s.l s.q s.y
  | .sh bw bn => spHS bw bn G W N C s.tp s.tr s.l s.l s.q s.y
theorem spH_len (K : Kd) (G : Gv) (W : Wv) (N C : Nat) (s : SpS) (V : List Value) (ks : List Nat) (M : Nat) : 4 ≤ (unpack M ks V (spH K G W N C s)).lh.length := by
  cases K with
  | op _ _ => exact (show 4 ≤ 12 by decide)
  | sh _ _ => exact (show 4 ≤ 12 by decide)
theorem yq_str {y : Yq} (h : sOK y.st = true) : yqOf (ybOf y) = y := by
  obtain ⟨cf, w, i, gen, num, op, wd, st, e⟩ := y
  unfold yqOf ybOf
  simp only at h ⊢
  rw [(stSt_str h).1]
theorem sp_round {X : Nat → Prop} {w0 : World} (hE : EnvOK spE X w0) (K : Kd) (G : Gv) (W : Wv) (N C : Nat) (s : SpS) (j : Nat) (hj : j < 30) (hl : W.nl ≤ 20) (hw : WrI W.gi W.nl) (H : SsInv N s.l K s.q s.y) :
    ∃ s' : SpS, SsInv N s'.l K s'.q s'.y ∧ RunsB Tryz.prog X w0 0 4 spRound (unpack 182 [7, 16, 17, 22, 23, 24, 25, 26] (spV W j) (spH K G W N C s)) .normal (unpack 182 [7, 16, 17, 22, 23, 24, 25, 26] (spV W ((j + 1 : Nat) : Int)) (spH K G W N C s')) := by
  obtain ⟨tp, tr, l, q, y⟩ := s
  simp only at H
  have H0 := H.wrs hw j
  have R := ss_step H0
  have hN := (okM_iff.1 H.ok).2.1
  have hs : smallN W.nl = true := Nat.ble_eq_true_of_le (by omega)
  have c0 : (okM N l && Nat.beq W.nl W.nl && smallN W.nl) = true := by rw [H.ok, Nat.beq_refl, hs]; rfl
  have c1 : (okM N l && Nat.beq W.nl W.nl && smallN W.nl && wrOK N W.gi W.nl) = true := by rw [c0, wrOK_of hN hw]; rfl
  have hys : sOK y.st = true := by rw [H.st]; exact H.s
  have c2 : (okM N (wrsL N W.gi j W.nl l) && sOK q.st && Nat.beq 0 0) = true := by rw [H0.ok, H.s]; rfl
  have c3 : (okM N (wrsL N W.gi j W.nl l) && bSt (strS y.st)) = true := by rw [H0.ok, (stSt_str hys).2]; rfl
  have hys2 : sOK (ysq N (wrsL N W.gi j W.nl l) y).st = true := by rw [R.inv.st]; exact R.inv.s
  have c4 : bSt (strS (ysq N (wrsL N W.gi j W.nl l) y).st) = true := (stSt_str hys2).2
  have hdec : decide ((j : Int) < 30) = true := decide_eq_true (by omega)
  have hw1 : w64 ((j : Int) + 1) = ((j + 1 : Nat) : Int) := w64_succ (by omega)
  refine ⟨⟨stch N q (wrsT N W.gi j W.nl tp), ystch N y tr, smem N (wrsL N W.gi j W.nl l) q, sq K N (wrsL N W.gi j W.nl l) q, ysq N (wrsL N W.gi j W.nl l) y⟩, R.inv, ?_⟩
  have hch := fun (F G : Option (Exit × List Value × List Go.Sx.Blk)) => sp_chain (F := F) (G := G) (a := sret K N (wrsL N W.gi j W.nl l) q) (b := (ysq N (wrsL N W.gi j W.nl l) y).st == 3) (by unfold sret; rw [R.inv.st]) R.inv.st R.inv.e R.inv.s R.inv.an (R.tch (wrsT N W.gi j W.nl tp) tr) R.mem.symm R.inv.ok
  cases K with
  | op bw bc =>
    obtain ⟨cf, w, i, gen, st, wd, nx, num, e⟩ := q
    have ht := sp_treeO G W bw bc N C tp tr l l cf w i gen st wd nx num e y j
    simp only [yq_str hys] at ht
    rw [hdec, cond_true, bt_of c0, bt_of c1, bt_of c2, bt_of c3, bt_of c4, hw1] at ht
    have ht2 := ht.trans (hch _ _)
    rw [← R.mem] at ht2
    exact round_runs hE (noLps_ok _) ht2 (Nat.zero_le _) (show 4 ≤ 12 by decide)
  | sh bw bn =>
    obtain ⟨cf, w, i, gen, st, wd, nx, num, e⟩ := q
    have ht := sp_treeS G W bw bn N C tp tr l l cf w i gen st wd nx num e y j
    simp only [yq_str hys] at ht
    rw [hdec, cond_true, bt_of c0, bt_of c1, bt_of c2, bt_of c3, bt_of c4, hw1] at ht
    have ht2 := ht.trans (hch _ _)
    rw [← R.mem] at ht2
    exact round_runs hE (noLps_ok _) ht2 (Nat.zero_le _) (show 4 ≤ 12 by decide)
theorem sp_out {X : Nat → Prop} {w0 : World} (hE : EnvOK spE X w0) (K : Kd) (G : Gv) (W : Wv) (N C : Nat) (s : SpS) : RunsB Tryz.prog X w0 0 4 spRound (unpack 182 [7, 16, 17, 22, 23, 24, 25, 26] (spV W 30) (spH K G W N C s)) (.exit 0) (unpack 182 [7, 16, 17, 22, 23, 24, 25, 26] (spV W 30) (spH K G W N C s)) := by
  obtain ⟨tp, tr, l, ⟨cf, w, i, gen, st, wd, nx, num, e⟩, y⟩ := s
  cases K with
  | op bw bc =>
    have ht := sp_treeO G W bw bc N C tp tr l l cf w i gen st wd nx num e y 30
    rw [decide_eq_false (by omega)] at ht
    exact round_runs hE (noLps_ok _) ht (Nat.zero_le _) (show 4 ≤ 12 by decide)
  | sh bw bn =>
    have ht := sp_treeS G W bw bn N C tp tr l l cf w i gen st wd nx num e y 30
    rw [decide_eq_false (by omega)] at ht
    exact round_runs hE (noLps_ok _) ht (Nat.zero_le _) (show 4 ≤ 12 by decide)
theorem sp_rounds {X : Nat → Prop} {w0 : World} (hE : EnvOK spE X w0) (K : Kd) (G : Gv) (W : Wv) (N C : Nat) (hl : W.nl ≤ 20) (hw : WrI W.gi W.nl) : ∀ (m j : Nat) (s : SpS), j + m = 30 → SsInv N s.l K s.q s.y →
    ∃ s' : SpS, LoopRunsB Tryz.prog X w0 0 4 spRound (unpack 182 [7, 16, 17, 22, 23, 24, 25, 26] (spV W j) (spH K G W N C s)) (.exit 0) (unpack 182 [7, 16, 17, 22, 23, 24, 25, 26] (spV W 30) (spH K G W N C s'))
  | 0, j, s, hj, H => by
    obtain rfl : j = 30 := by omega
    exact ⟨s, LoopRunsB.exit (sp_out hE K G W N C s) (by simp)⟩
  | m + 1, j, s, hj, H => by
    obtain ⟨s1, H1, hr⟩ := sp_round hE K G W N C s j (by omega) hl hw H
    obtain ⟨s2, h2⟩ := sp_rounds hE K G W N C hl hw m (j + 1) s1 (by omega) H1
    exact ⟨s2, LoopRunsB.step hr h2⟩
abbrev spU : List Value := [.bool false, .bool true]
theorem sp_normO (bw : Int) (bc : Cf) (G : Gv) (W : Wv) (N C : Nat) (tp tr : Int) (lp lr : List Int) (q : Sq) (y : Yq) (j : Int) : (normV 182 [16, 17] 4 (unpack 182 [7, 16, 17, 22, 23, 24, 25, 26] (spV W j) (spHO bw bc G W N C tp tr lp lr q y))).get = some (spU, spA G W) := by kernel_rfl
theorem sp_normS (bw bn : Int) (G : Gv) (W : Wv) (N C : Nat) (tp tr : Int) (lp lr : List Int) (q : Sq) (y : Yq) (j : Int) : (normV 182 [16, 17] 4 (unpack 182 [7, 16, 17, 22, 23, 24, 25, 26] (spV W j) (spHS bw bn G W N C tp tr lp lr q y))).get = some (spU, spA G W) := by kernel_rfl
theorem sp_norm (K : Kd) (G : Gv) (W : Wv) (N C : Nat) (s : SpS) (j : Int) : (normV 182 [16, 17] 4 (unpack 182 [7, 16, 17, 22, 23, 24, 25, 26] (spV W j) (spH K G W N C s))).get = some (spU, spA G W) := by
  cases K with
  | op bw bc => exact sp_normO bw bc G W N C s.tp s.tr s.l s.l s.q s.y j
  | sh bw bn => exact sp_normS bw bn G W N C s.tp s.tr s.l s.l s.q s.y j
theorem sp_runs {X : Nat → Prop} {w0 : World} (hE : EnvOK spE X w0) (K : Kd) (G : Gv) (W : Wv) (N C : Nat) (hl : W.nl ≤ 20) (hw : WrI W.gi W.nl) (s : SpS) (H : SsInv N s.l K s.q s.y) :
    RunsB Tryz.prog X w0 0 4 (.block 0 (blkAt 0 spBody)) (unpack 182 [7, 16, 17, 22, 23, 24, 25, 26] (spV W 0) (spH K G W N C s)) .normal (unpack 182 [16, 17] spU (spA G W)) := by
  obtain ⟨s', h3⟩ := sp_rounds hE K G W N C hl hw 30 0 s rfl H
  rw [sp_loop]
  exact h3.runs.block_exit.norm (sp_norm K G W N C s' 30) (Nat.zero_le _)
/-! ### The whole -/
abbrev spV1 (W : Wv) (i gen num : Int) (op : Bool) (N : Nat) (k : Int) : List Value := [.int .i64 i, .int .i64 gen, .int .i64 num, .bool op, W.val 3, .bool false, .bool true, sK 4, .slice (some ⟨5, 0, none⟩) N N, .int .i64 k]
abbrev spV0 (W : Wv) (i gen num : Int) (op : Bool) : List Value := [.int .i64 i, .int .i64 gen, .int .i64 num, .bool op, W.val 3, .bool true, .bool true, undef, undef, undef]
abbrev spH1 (G : Gv) (W : Wv) (cf : Cf) (l : List Int) : List Go.Sx.Blk := spA G W ++ [.cells true true (cfCells cf), .ints true true l]
def spThere {α : Type} (cf : Cf) (l : List Int) (there : Bool) (i gen : Int) (K : Int → Option α) : Option α :=
  bif there then (bif decide (i ≥ 0) then bif decide (i < (cf.s.toNat : Int)) then ixR i cf.s.toNat cf.s.toNat (K (slD cf l i.toNat).gen) else K gen else K gen) else K gen
theorem sp_cut1 : cutOK 6 spBody = true := by kernel_rfl
theorem sp_cut2 : cutOK 5 (cutZ 6 spBody) = true := by kernel_rfl
theorem sp_pre (G : Gv) (W : Wv) (who i gen num : Int) (there op : Bool) :
    (roundV spE 60 noLps 182 [2, 3, 5, 6, 7, 16, 17, 18, 19, 20] 4 (cutA 6 spBody) ⟨[G.val, .int .u8 who, .int .i64 i, .int .i64 gen, .bool there, .int .i64 num, .bool op, W.val 3] ++ List.replicate (182 - 8) undef, spA G W⟩).get =
    bif decide ((W.nl : Int) > 20) then some (.ret, spV0 W i gen num op, spA G W) else bt (mdC G.cf G.ns G.nf G.np) (noW G.cf (bt (ldG G.cf G.l) (spThere G.cf G.l there i gen fun gen' => some (.normal, spV1 W i gen' num op (cntN G.cf) (atI G.cf.w who), spH1 G W G.cf G.l)))) := by kernel_rfl
abbrev spVM (W : Wv) : List Value := [W.val 3, .bool false, .bool true, sK 4, sK 5, sK 6, sK 7]
def spQ0 (cf : Cf) (k i gen : Int) : Sq := ⟨cf, k, i, gen, 0, 0, 0, 0, 0⟩
def spY0 (cf : Cf) (k i gen num : Int) (op : Bool) : Yq := ⟨cf, k, i, gen, num, op, 0, 0, 0⟩
abbrev spM (G : Gv) (W : Wv) (cf : Cf) (l : List Int) (k i gen num : Int) (op : Bool) (f : Nat) (B1 B2 : Go.Sx.Blk) : List Go.Sx.Blk := spA G W ++ [.cells true true [.slice (some ⟨8, 0, none⟩) (cntN cf) (cntN cf), .int .i64 (cntN cf)], .cells true true [.slice (some ⟨9, 0, some 1⟩) (cpyN (cntN cf) l) 0, .int .i64 0], sB (kV f 10 11) (spQ0 cf k i gen), yqB (spY0 cf k i gen num op), .ints true true l, .ints true true (cpyL (cntN cf) l), B1, B2]
theorem sp_midO (G : Gv) (W : Wv) (cf : Cf) (l : List Int) (k i gen num : Int) :
    (roundV spE 60 noLps 182 [7, 16, 17, 22, 23, 24, 25] 4 (cutA 5 (cutZ 6 spBody)) (unpack 182 [2, 3, 5, 6, 7, 16, 17, 18, 19, 20] (spV1 W i gen num true (cntN cf) k) (spH1 G W cf l))).get =
    bt (ldG cf l) (cpyM (cntN cf) l (some (.normal, spVM W, spM G W cf l k i gen num true fOpen (i1 k) (cB cf)))) := by kernel_rfl
theorem sp_midS (G : Gv) (W : Wv) (cf : Cf) (l : List Int) (k i gen num : Int) :
    (roundV spE 60 noLps 182 [7, 16, 17, 22, 23, 24, 25] 4 (cutA 5 (cutZ 6 spBody)) (unpack 182 [2, 3, 5, 6, 7, 16, 17, 18, 19, 20] (spV1 W i gen num false (cntN cf) k) (spH1 G W cf l))).get =
    bt (ldG cf l) (cpyM (cntN cf) l (some (.normal, spVM W, spM G W cf l k i gen num false fShut (i1 k) (i1 num)))) := by kernel_rfl
noncomputable def spTail : Code := cutZ 5 (cutZ 6 spBody)
noncomputable def spFirst : Code := cutA 0 (cutA 0 spTail)
theorem sp_shape : spTail = .seq (.seq spFirst (.block 0 (blkAt 0 spBody))) (cutZ 0 spTail) := by kernel_rfl
theorem sp_firstO (bw : Int) (bc : Cf) (G : Gv) (W : Wv) (N C : Nat) (tp tr : Int) (lp lr : List Int) (q : Sq) (y : Yq) : (roundV spE 60 noLps 182 [7, 16, 17, 22, 23, 24, 25, 26] 4 spFirst (unpack 182 [7, 16, 17, 22, 23, 24, 25] (spVM W) (spHO bw bc G W N C tp tr lp lr q y))).get = some (.normal, spV W 0, spHO bw bc G W N C tp tr lp lr q y) := by kernel_rfl
theorem sp_firstS (bw bn : Int) (G : Gv) (W : Wv) (N C : Nat) (tp tr : Int) (lp lr : List Int) (q : Sq) (y : Yq) : (roundV spE 60 noLps 182 [7, 16, 17, 22, 23, 24, 25, 26] 4 spFirst (unpack 182 [7, 16, 17, 22, 23, 24, 25] (spVM W) (spHS bw bn G W N C tp tr lp lr q y))).get = some (.normal, spV W 0, spHS bw bn G W N C tp tr lp lr q y) := by kernel_rfl
theorem sp_last (G : Gv) (W : Wv) : (roundV spE 60 noLps 182 [16] 4 (cutZ 0 spTail) (unpack 182 [16, 17] spU (spA G W))).get = some (.ret, [.bool true], spA G W) := by kernel_rfl
theorem sp_res (H : List Go.Sx.Blk) : (resultsM Tryz.prog Tryz.f3 (unpack 182 [16] [.bool true] H)).get = some (.bool true) := by kernel_rfl
theorem sp_res0 (W : Wv) (i gen num : Int) (op : Bool) (H : List Go.Sx.Blk) : (resultsM Tryz.prog Tryz.f3 (unpack 182 [2, 3, 5, 6, 7, 16, 17, 18, 19, 20] (spV0 W i gen num op) H)).get = some (.bool true) := by kernel_rfl
theorem spThere_cases {G : Gv} (hG : G.OK) {there : Bool} {i gen : Int} (hg : I64i gen) {α : Type} {K : Int → Option α} : ∃ gen', spThere G.cf G.l there i gen K = K gen' := by
  have hs := hG.right.s
  unfold spThere
  cases there with
  | false => exact ⟨gen, rfl⟩
  | true =>
    by_cases h1 : i ≥ 0
    case neg => rw [decide_eq_false h1]; exact ⟨gen, rfl⟩
    by_cases h2 : i < (G.cf.s.toNat : Int)
    case neg => rw [decide_eq_true h1, decide_eq_false h2]; exact ⟨gen, rfl⟩
    obtain ⟨j, rfl⟩ : ∃ j : Nat, i = j := ⟨i.toNat, by omega⟩
    rw [decide_eq_true h1, decide_eq_true h2, ixR_in rfl (by omega)]
    exact ⟨_, rfl⟩
theorem sp_go (w : World) (hT : TT w) (G : Gv) (hG : G.OK) (who : Int) (hwho : 0 ≤ who ∧ who ≤ 255) (i : Int) (hi : I64i i) (gen : Int) (hgen : I64i gen) (there : Bool) (num : Int) (hnum : I64i num) (op : Bool) (W : Wv) (hw : WrI W.gi W.nl) {σ : Nat → Option Pl} (hr : HR (· < w.heap.size) w 0 σ (spA G W) w)
    {args' : Array Value} (hv : VRA σ [G.val, .int .u8 who, .int .i64 i, .int .i64 gen, .bool there, .int .i64 num, .bool op, W.val 3].toArray args') : Calls Tryz.prog 3 args' w fun e w' => e = .returned (.bool true) ∧ Below w.heap.size w w' := by
  have hE := spE_ok _ w hT.lt (bnd_self w) hT
  have hf : spE.P.funcs[3]? = some Tryz.f3 := Tryz.func3
  have hb : Tryz.f3.body = some spBody := by kernel_rfl
  have hn : Tryz.f3.ntmps = 182 := by kernel_rfl
  have hp := sp_pre G W who i gen num there op
  by_cases hl : W.nl ≤ 20
  case neg =>
    rw [decide_eq_true (by omega), cond_true] at hp
    have hq := (cut_runs hE (Nat.zero_le _) sp_cut1 (show 4 ≤ 4 by decide) hp).2 (by simp)
    exact body_start (E := spE) rfl hf hb (by rw [hn]; exact hq) (.inr rfl) (sp_res0 W i gen num op _) rfl hr hv
  rw [decide_eq_false (by omega), cond_false, bt_of hG.made, noW_of hG.right, bt_of hG.ld] at hp
  generalize atI G.cf.w who = k at hp
  obtain ⟨gen', hg⟩ := spThere_cases hG (there := there) (i := i) hgen (K := fun gen' => some (Exit.normal, spV1 W i gen' num op (cntN G.cf) k, spH1 G W G.cf G.l))
  rw [hg] at hp
  have h1 := (cut_runs hE (Nat.zero_le _) sp_cut1 (show 4 ≤ 4 by decide) hp).1 rfl
  obtain ⟨g1, g2⟩ := cpy_eq hG.okM
  let s : SpS := ⟨(cntN G.cf : Nat), 0, G.l, spQ0 G.cf k i gen', spY0 G.cf k i gen' num op⟩
  have hlast := round_runs hE (noLps_ok _) (sp_last G W) (Nat.zero_le _) (show 4 ≤ 4 by decide)
  cases op with
  | true =>
    have hm := sp_midO G W G.cf G.l k i gen' num
    rw [bt_of hG.ld, cpyM_of hG.okM] at hm
    unfold spM at hm
    rw [g1, g2] at hm
    have h2 := (cut_runs hE (Nat.zero_le _) sp_cut2 (show 4 ≤ 6 by decide) hm).1 rfl
    have hI : SsInv (cntN G.cf) s.l (.op k G.cf) s.q s.y := ⟨hG.okM, hG.I, rfl, rfl, rfl, rfl, rfl, rfl, rfl, .inl ⟨rfl, rfl⟩, rfl, fun e => absurd (show (0 : Int) = 2 from e) (by decide), fun e => absurd (show (0 : Int) = 3 from e) (by decide)⟩
    have h3 := sp_runs hE (.op k G.cf) G W (cntN G.cf) (cntN G.cf) hl hw s hI
    have h4 : RunsB Tryz.prog (· < w.heap.size) w 0 4 spTail (unpack 182 [7, 16, 17, 22, 23, 24, 25] (spVM W) (spH (.op k G.cf) G W (cntN G.cf) (cntN G.cf) s)) .ret (unpack 182 [16] [.bool true] (spA G W)) := by
      rw [sp_shape]
      exact ((round_runs hE (noLps_ok _) (sp_firstO k G.cf G W (cntN G.cf) (cntN G.cf) _ _ _ _ _ _) (Nat.zero_le _) (show 4 ≤ 12 by decide)).seq h3).seq hlast
    exact body_start (E := spE) rfl hf hb (by rw [hn]; exact h1 _ _ (h2 _ _ h4)) (.inr rfl) (sp_res _) rfl hr hv
  | false =>
    have hm := sp_midS G W G.cf G.l k i gen' num
    rw [bt_of hG.ld, cpyM_of hG.okM] at hm
    unfold spM at hm
    rw [g1, g2] at hm
    have h2 := (cut_runs hE (Nat.zero_le _) sp_cut2 (show 4 ≤ 6 by decide) hm).1 rfl
    have hI : SsInv (cntN G.cf) s.l (.sh k num) s.q s.y := ⟨hG.okM, hG.I, rfl, rfl, rfl, rfl, rfl, rfl, rfl, .inr ⟨rfl, rfl⟩, rfl, fun e => absurd (show (0 : Int) = 2 from e) (by decide), fun e => absurd (show (0 : Int) = 3 from e) (by decide)⟩
    have h3 := sp_runs hE (.sh k num) G W (cntN G.cf) (cntN G.cf) hl hw s hI
    have h4 : RunsB Tryz.prog (· < w.heap.size) w 0 4 spTail (unpack 182 [7, 16, 17, 22, 23, 24, 25] (spVM W) (spH (.sh k num) G W (cntN G.cf) (cntN G.cf) s)) .ret (unpack 182 [16] [.bool true] (spA G W)) := by
      rw [sp_shape]
      exact ((round_runs hE (noLps_ok _) (sp_firstS k num G W (cntN G.cf) (cntN G.cf) _ _ _ _ _ _) (Nat.zero_le _) (show 4 ≤ 12 by decide)).seq h3).seq hlast
    exact body_start (E := spE) rfl hf hb (by rw [hn]; exact h1 _ _ (h2 _ _ h4)) (.inr rfl) (sp_res _) rfl hr hv
theorem sp_walk (w : World) (hT : TT w) {v : Value} {a b c d e : Int} {A0 A1 A2 : Option Addr} {n0 c0 n1 c1 n2 c2 : Nat} {R0 R1 R2 : Go.Sx.Rows} (hg : GivenA w v a b c d e A0 n0 c0 R0 A1 n1 c1 R1 A2 n2 c2 R2) (x1 : Int) (b1 : 0 ≤ x1 ∧ x1 ≤ 255) (x2 : Int) (b2 : -9223372036854775808 ≤ x2 ∧ x2 ≤ 9223372036854775807) (x3 : Int) (b3 : -9223372036854775808 ≤ x3 ∧ x3 ≤ 9223372036854775807) (x4 : Bool) (x5 : Int) (b5 : -9223372036854775808 ≤ x5 ∧ x5 ≤ 9223372036854775807) (x6 : Bool) {B7 : Option Addr} {m7 q7 : Nat} {S7 : Go.Sx.Rows} (k7 : S7.ks = kWr) (r7 : ArgRow w B7 m7 q7 3 S7) :
    Calls Tryz.prog 3 #[v, .int .u8 x1, .int .i64 x2, .int .i64 x3, .bool x4, .int .i64 x5, .bool x6, .slice B7 m7 q7] w fun e w' => e = .returned (.bool true) ∧ Below w.heap.size w w' := by
  have hw7 : WrI S7.gi m7 := fun i hi => ⟨U8_of_wf (r7.wf i 1 .u8 hi (by decide) (by rw [k7]; rfl)), I64_of_wf (r7.wf i 2 .i64 hi (by decide) (by rw [k7]; rfl))⟩
  have hval := hg.val
  have hfi : ∀ i, i < n1 → 0 ≤ R1.gi i 0 ∧ R1.gi i 0 ≤ 255 := fun i hi => U8_of_wf (hg.r1.wf i 0 .u8 hi (by decide) (by rw [hg.k1]; rfl))
  have q0 := hg.k0; have q1 := hg.k1; have q2 := hg.k2
  obtain ⟨ks0, R0gi, R0gb⟩ := R0
  obtain ⟨ks1, R1gi, R1gb⟩ := R1
  obtain ⟨ks2, R2gi, R2gb⟩ := R2
  simp only at q0 q1 q2
  subst q0 q1 q2
  let G : Gv := ⟨n0, n1, n2, c0, c1, c2, R0gi, R1gi, R2gi, R0gb, R1gb, R2gb, a, b, c, d, e⟩
  have hG : G.OK := ⟨hg.ha, hg.hb, hg.hc, hg.hd, hg.he, hfi⟩
  obtain ⟨ks7, S7gi, S7gb⟩ := S7
  simp only at k7
  subst k7
  let L : List ArgE := [(A0, n0, c0, 9, ⟨kSlot, R0gi, R0gb⟩), (A1, n1, c1, 1, ⟨[.it .u8], R1gi, R1gb⟩), (A2, n2, c2, 1, ⟨[.it .u8], R2gi, R2gb⟩), (B7, m7, q7, 3, ⟨kWr, S7gi, S7gb⟩)]
  let σ : Nat → Option Pl := fun k => (L[k]?).bind fun e : ArgE => plOf e.1 e.2.1 e.2.2.2.1
  have hL : ∀ e ∈ L, ArgRow w e.1 e.2.1 e.2.2.1 e.2.2.2.1 e.2.2.2.2 := by
    intro e he
    simp only [L, List.mem_cons, List.not_mem_nil, or_false] at he
    rcases he with rfl | rfl | rfl | rfl
    · exact hg.r0
    · exact hg.r1
    · exact hg.r2
    · exact r7
  have hr : HR (· < w.heap.size) w 0 σ ((L.map fun e : ArgE => (e.2.2.2.1, e.2.1, e.2.2.2.2)).map fun e => .rows false false e.1 e.2.1 e.2.2) w := args_hr _ (plOfs_some L hL)
  rw [hval]
  refine sp_go w hT G hG x1 b1 x2 b2 x3 b3 x4 x5 b5 x6 ⟨m7, q7, S7gi, S7gb⟩ hw7 hr (VRA.of_list ?_)
  exact .cons (.agg rfl (VRA.of_list (.cons (.int _ _) (.cons (.int _ _) (.cons (.int _ _) (.cons (.int _ _) (.cons (.int _ _) (.cons (VR.argRow (σ := σ) (k := 0) hg.r0 rfl _) (.cons (VR.argRow (σ := σ) (k := 1) hg.r1 rfl _) (.cons (VR.argRow (σ := σ) (k := 2) hg.r2 rfl _) .nil))))))))).2) (.cons (.int _ _) (.cons (.int _ _) (.cons (.int _ _) (.cons (.bool _) (.cons (.int _ _) (.cons (.bool _) (.cons (VR.argRow (σ := σ) (k := 3) r7 rfl _) .nil)))))))
end Go.Proofs.YthfoljgaiincdaaGreatDoor
