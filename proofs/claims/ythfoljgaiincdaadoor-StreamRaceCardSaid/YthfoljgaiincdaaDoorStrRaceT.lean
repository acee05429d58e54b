
/- StreamRace: its loops. No condition of its own. -/
import Derived.Test.YthfoljgaiincdaaDoorStrL
import Derived.Test.YthfoljgaiincdaaDoorStrRaceP
namespace Go.Proofs.YthfoljgaiincdaaDoor
open Go.RowKit Go.Fld Go.Sx
set_option linter.unusedVariables false
set_option linter.unusedSimpArgs false
noncomputable def srBody : Code := Tryd.f7.body.getD .skip
noncomputable def srRound0 : Code := lpB (blkAt 0 srBody)
noncomputable def srRound2 : Code := lpB (blkAt 2 srBody)
noncomputable def srRound4 : Code := lpB (blkAt 4 srBody)
noncomputable def srRound6 : Code := lpB (blkAt 6 srBody)
theorem sr_loop0 : blkAt 0 srBody = .loop srRound0 := by kernel_rfl
theorem sr_loop2 : blkAt 2 srBody = .loop srRound2 := by kernel_rfl
theorem sr_loop4 : blkAt 4 srBody = .loop srRound4 := by kernel_rfl
theorem sr_loop6 : blkAt 6 srBody = .loop srRound6 := by kernel_rfl
structure Tb where
  nt : Nat
  ct : Nat
  ti : Nat → Nat → Int
  tb : Nat → Nat → Bool
abbrev Tb.row (T : Tb) : Go.Sx.Blk := .rows false false 1 T.nt ⟨[.bo], T.ti, T.tb⟩
def ixT {α : Type} (i : Int) (n : Nat) (K : Option α) : Option α := bif inRange i n then bif Nat.blt i.toNat n then K else none else none
theorem ixT_in {α : Type} {i n : Nat} {K : Option α} (h : i < n) : ixT (i : Int) n K = K := by
  unfold ixT
  rw [show inRange (i : Int) n = true by unfold inRange; simp; omega, Int.toNat_natCast, show Nat.blt i n = true by rw [Nat.blt_eq]; omega]; rfl
abbrev sP (k : Nat) : Value := .pointer (some ⟨k, 0, none⟩)
abbrev srV (T : Tb) (op k : Int) : List Value := [.int .u8 op, .slice (some ⟨0, 0, some 2⟩) T.nt T.ct, .bool false, .bool true, sP 1, sP 2, sP 3, sP 4, .int .i64 k]
abbrev srW (op k : Int) : List Value := [.int .u8 op, .bool false, .bool true, sP 1, sP 2, sP 3, sP 4, .int .i64 k]
abbrev srU (op : Int) : List Value := [.int .u8 op, .bool false, .bool true, sP 1, sP 2, sP 3, sP 4]
abbrev srH (T : Tb) (cf : Cf) (N C : Nat) (s : S2) : List Go.Sx.Blk := [T.row, cB cf, .cells true true [.slice (some ⟨5, 0, none⟩) N C, .int .i64 s.t], sB (kV fOpen 6 7) s.x, sB (kV fOpen 8 9) s.y, .ints true true s.l, i1 0, cB cf, i1 0, cB cf]
def sOKx (N : Nat) (s : S2) : Bool := okM N s.l && sOK s.x.st && Nat.beq 0 0
def sOKy (N : Nat) (s : S2) : Bool := okM N s.l && sOK s.y.st && Nat.beq 0 0
theorem sr_tree0 (T : Tb) (op : Int) (cf : Cf) (N C : Nat) (l : List Int) (t : Int) (x y : Sq) (k : Int) :
    (roundV smEnv 40 noLps 156 [1, 2, 6, 7, 8, 9, 10, 11, 12] 1 srRound0 (unpack 156 [1, 2, 6, 7, 8, 9, 10, 11, 12] (srV T op k) (srH T cf N C ⟨l, t, x, y⟩))).get =
    bif decide (k < (T.nt : Int)) then ixT k T.nt (bif T.tb k.toNat 0 then bt (sOKx N ⟨l, t, x, y⟩) (some (.normal, srV T op (w64 (k + 1)), srH T cf N C (s2X (.op 0 cf) N ⟨l, t, x, y⟩))) else bt (sOKy N ⟨l, t, x, y⟩) (some (.normal, srV T op (w64 (k + 1)), srH T cf N C (s2Y (.op 0 cf) N ⟨l, t, x, y⟩)))) else some (.exit 0, srV T op k, srH T cf N C ⟨l, t, x, y⟩) := by kernel_rfl
theorem sr_tree2 (T : Tb) (op : Int) (cf : Cf) (N C : Nat) (l : List Int) (t : Int) (x y : Sq) (k : Int) :
    (roundV smEnv 40 noLps 156 [1, 6, 7, 8, 9, 10, 11, 13] 1 srRound2 (unpack 156 [1, 6, 7, 8, 9, 10, 11, 13] (srW op k) (srH T cf N C ⟨l, t, x, y⟩))).get =
    bif decide (k < 9) then bt (sOKx N ⟨l, t, x, y⟩) (some (.normal, srW op (w64 (k + 1)), srH T cf N C (s2X (.op 0 cf) N ⟨l, t, x, y⟩))) else some (.exit 2, srW op k, srH T cf N C ⟨l, t, x, y⟩) := by kernel_rfl
theorem sr_tree4 (T : Tb) (op : Int) (cf : Cf) (N C : Nat) (l : List Int) (t : Int) (x y : Sq) (k : Int) :
    (roundV smEnv 40 noLps 156 [1, 6, 7, 8, 9, 10, 11, 14] 1 srRound4 (unpack 156 [1, 6, 7, 8, 9, 10, 11, 14] (srW op k) (srH T cf N C ⟨l, t, x, y⟩))).get =
    bif decide (k < 9) then bt (sOKy N ⟨l, t, x, y⟩) (some (.normal, srW op (w64 (k + 1)), srH T cf N C (s2Y (.op 0 cf) N ⟨l, t, x, y⟩))) else some (.exit 4, srW op k, srH T cf N C ⟨l, t, x, y⟩) := by kernel_rfl
theorem sr_norm0 (T : Tb) (op : Int) (cf : Cf) (N C : Nat) (s : S2) (k : Int) : (normV 156 [1, 6, 7, 8, 9, 10, 11] 1 (unpack 156 [1, 2, 6, 7, 8, 9, 10, 11, 12] (srV T op k) (srH T cf N C s))).get = some (srU op, srH T cf N C s) := by kernel_rfl
theorem sr_norm2 (T : Tb) (op : Int) (cf : Cf) (N C : Nat) (s : S2) (k : Int) : (normV 156 [1, 6, 7, 8, 9, 10, 11] 1 (unpack 156 [1, 6, 7, 8, 9, 10, 11, 13] (srW op k) (srH T cf N C s))).get = some (srU op, srH T cf N C s) := by kernel_rfl
theorem sr_norm4 (T : Tb) (op : Int) (cf : Cf) (N C : Nat) (s : S2) (k : Int) : (normV 156 [1, 6, 7, 8, 9, 10, 11] 1 (unpack 156 [1, 6, 7, 8, 9, 10, 11, 14] (srW op k) (srH T cf N C s))).get = some (srU op, srH T cf N C s) := by kernel_rfl
end Go.Proofs.YthfoljgaiincdaaDoor
