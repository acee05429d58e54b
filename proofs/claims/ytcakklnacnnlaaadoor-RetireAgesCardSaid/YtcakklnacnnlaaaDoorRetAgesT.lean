/- RetireAges: its rounds. No condition of its own. -/
import Derived.Test.YtcakklnacnnlaaaDoorRetOneV
namespace Go.Proofs.YtcakklnacnnlaaaDoor
open Go.RowKit Go.Fld Go.Sx
set_option linter.unusedVariables false
set_option linter.unusedSimpArgs false
noncomputable def raBody : Code := Tryd.f9.body.getD .skip
noncomputable def raRound : Code := lpB (blkAt 0 raBody)
theorem ra_loop : blkAt 0 raBody = .loop raRound := by kernel_rfl
/-- One at work, and four numbers. -/
structure A1s where
  l : List Int
  t : Int
  q : Rq
  e0 : Int
  e1 : Int
  e2 : Int
  e3 : Int
/-- Bytes. -/
structure Uv where
  nt : Nat
  ct : Nat
  ti : Nat → Nat → Int
  tb : Nat → Nat → Bool
abbrev Uv.row (T : Uv) : Go.Sx.Blk := .rows false false 1 T.nt ⟨[.it .u8], T.ti, T.tb⟩
abbrev raA (G : Gv) (T : Uv) : List Go.Sx.Blk := [G.r0, G.r1, G.r2, T.row]
abbrev raV (n ct : Nat) (i k : Int) : List Value := [.slice (some ⟨3, 0, some 2⟩) n ct, .bool true, .pointer (some ⟨4, 0, none⟩), .int .i64 i, .pointer (some ⟨5, 0, none⟩), .pointer (some ⟨6, 0, none⟩), .slice (some ⟨7, 0, none⟩) 4 4, .int .i64 k]
abbrev raH (G : Gv) (T : Uv) (cf : Cf) (N C : Nat) (s : A1s) : List Go.Sx.Blk := raA G T ++ [.cells true true (cfCells cf), .cells true true [.slice (some ⟨8, 0, none⟩) N C, .int .i64 s.t], rqB 6 s.q, .cells true true [.int .i64 s.e0, .int .i64 s.e1, .int .i64 s.e2, .int .i64 s.e3], .ints true true s.l]
abbrev raO (G : Gv) (T : Uv) (N C : Nat) (s : A1s) : Exit × List Value × List Go.Sx.Blk := (.normal, [.bool true, .pointer (some ⟨4, 0, none⟩), .slice (some ⟨5, 0, none⟩) 4 4], raA G T ++ [.cells true true [.slice (some ⟨6, 0, none⟩) N C, .int .i64 s.t], .cells true true [.int .i64 s.e0, .int .i64 s.e1, .int .i64 s.e2, .int .i64 s.e3], .ints true true s.l])
/-- The memory behind what others do, and behind the step. -/
def a1L (N : Nat) (d : Int) (s : A1s) : List Int := addS N s.l 2 d
def a1M (N : Nat) (d : Int) (s : A1s) : List Int := rmem N (a1L N d s) s.q
def a1T (cf : Cf) (N : Nat) (i d : Int) (s : A1s) : Int := tcS N (cellC cf i) (rtch N s.q (tcS N 2 (tcS N 2 s.t)))
def a1Q (N : Nat) (d : Int) (s : A1s) : Rq := rstep N (a1L N d s) s.q
def a1E (N : Nat) (d : Int) (s : A1s) : Int := ldS N (a1L N d s) 2
def a1S (cf : Cf) (N : Nat) (i d : Int) (s : A1s) : Int → A1s
  | 0 => ⟨a1M N d s, a1T cf N i d s, a1Q N d s, a1E N d s, s.e1, s.e2, s.e3⟩
  | 1 => ⟨a1M N d s, a1T cf N i d s, a1Q N d s, s.e0, a1E N d s, s.e2, s.e3⟩
  | 2 => ⟨a1M N d s, a1T cf N i d s, a1Q N d s, s.e0, s.e1, a1E N d s, s.e3⟩
  | _ => ⟨a1M N d s, a1T cf N i d s, a1Q N d s, s.e0, s.e1, s.e2, a1E N d s⟩
def a1D (cf : Cf) (N : Nat) (i d : Int) (s : A1s) : Option Slt := decA (ldS N (a1M N d s) (cellC cf i))
def a1W (cf : Cf) (N : Nat) (i d : Int) (s : A1s) (ep : Int) (R X : Option (Exit × List Value × List Go.Sx.Blk)) : Option (Exit × List Value × List Go.Sx.Blk) :=
  bt (okM N s.l) (bt (okM N (a1L N d s)) (bt (okM N (a1L N d s) && rOK s.q.f) (bt (okM N (a1M N d s)) (bif !(a1D cf N i d s).isSome then R else bif (slt0 (a1D cf N i d s)).st != 6 then R else bif (slt0 (a1D cf N i d s)).ep != ep then R else X))))
theorem ra_tree0 (G : Gv) (T : Uv) (cf : Cf) (N C ct : Nat) (s : A1s) (i : Int) :
    (roundV rlEnv 40 noLps 138 [2, 7, 8, 10, 11, 14, 15, 16] 4 raRound (unpack 138 [2, 7, 8, 10, 11, 14, 15, 16] (raV 4 ct i 0) (raH G T cf N C s))).get =
    bt (Nat.blt (Int.toNat 0) T.nt) (a1W cf N i (w64 (T.ti (Int.toNat 0) 0)) s 4095 (some (.ret, raV 4 ct i 0, raH G T cf N C (a1S cf N i (w64 (T.ti (Int.toNat 0) 0)) s 0))) (some (.normal, raV 4 ct i (0 + 1), raH G T cf N C (a1S cf N i (w64 (T.ti (Int.toNat 0) 0)) s 0)))) := by kernel_rfl
theorem ra_tree1 (G : Gv) (T : Uv) (cf : Cf) (N C ct : Nat) (s : A1s) (i : Int) :
    (roundV rlEnv 40 noLps 138 [2, 7, 8, 10, 11, 14, 15, 16] 4 raRound (unpack 138 [2, 7, 8, 10, 11, 14, 15, 16] (raV 4 ct i 1) (raH G T cf N C s))).get =
    bt (Nat.blt (Int.toNat 1) T.nt) (a1W cf N i (w64 (T.ti (Int.toNat 1) 0)) s 4095 (some (.ret, raV 4 ct i 1, raH G T cf N C (a1S cf N i (w64 (T.ti (Int.toNat 1) 0)) s 1))) (some (.normal, raV 4 ct i (1 + 1), raH G T cf N C (a1S cf N i (w64 (T.ti (Int.toNat 1) 0)) s 1)))) := by kernel_rfl
theorem ra_tree2 (G : Gv) (T : Uv) (cf : Cf) (N C ct : Nat) (s : A1s) (i : Int) :
    (roundV rlEnv 40 noLps 138 [2, 7, 8, 10, 11, 14, 15, 16] 4 raRound (unpack 138 [2, 7, 8, 10, 11, 14, 15, 16] (raV 4 ct i 2) (raH G T cf N C s))).get =
    bt (Nat.blt (Int.toNat 2) T.nt) (a1W cf N i (w64 (T.ti (Int.toNat 2) 0)) s s.e1 (some (.ret, raV 4 ct i 2, raH G T cf N C (a1S cf N i (w64 (T.ti (Int.toNat 2) 0)) s 2))) (some (.normal, raV 4 ct i (2 + 1), raH G T cf N C (a1S cf N i (w64 (T.ti (Int.toNat 2) 0)) s 2)))) := by kernel_rfl
theorem ra_tree3 (G : Gv) (T : Uv) (cf : Cf) (N C ct : Nat) (s : A1s) (i : Int) :
    (roundV rlEnv 40 noLps 138 [2, 7, 8, 10, 11, 14, 15, 16] 4 raRound (unpack 138 [2, 7, 8, 10, 11, 14, 15, 16] (raV 4 ct i 3) (raH G T cf N C s))).get =
    bt (Nat.blt (Int.toNat 3) T.nt) (a1W cf N i (w64 (T.ti (Int.toNat 3) 0)) s s.e1 (some (.ret, raV 4 ct i 3, raH G T cf N C (a1S cf N i (w64 (T.ti (Int.toNat 3) 0)) s 3))) (some (.normal, raV 4 ct i (3 + 1), raH G T cf N C (a1S cf N i (w64 (T.ti (Int.toNat 3) 0)) s 3)))) := by kernel_rfl
theorem ra_tree4 (G : Gv) (T : Uv) (cf : Cf) (N C ct : Nat) (s : A1s) (i : Int) :
    (roundV rlEnv 40 noLps 138 [2, 7, 8, 10, 11, 14, 15, 16] 4 raRound (unpack 138 [2, 7, 8, 10, 11, 14, 15, 16] (raV 4 ct i 4) (raH G T cf N C s))).get = some (.exit 0, raV 4 ct i 4, raH G T cf N C s) := by kernel_rfl
theorem ra_norm (G : Gv) (T : Uv) (cf : Cf) (N C ct : Nat) (s : A1s) (i k : Int) : (normV 138 [7, 11, 15] 4 (unpack 138 [2, 7, 8, 10, 11, 14, 15, 16] (raV 4 ct i k) (raH G T cf N C s))).get = some (raO G T N C s).2 := by kernel_rfl
end Go.Proofs.YtcakklnacnnlaaaDoor
