
/- What others store: in plain words; and the document's Writes. No condition of its own. -/
import Derived.Test.YthfoljgaiincdaaDoorRefInts
import Derived.Test.YthfoljgaiincdaaDoorRefMem
namespace Go.Proofs.YthfoljgaiincdaaDoor
open Go.RowKit Go.Fld Go.Sx
set_option linter.unusedVariables false
set_option linter.unusedSimpArgs false
abbrev memAt (k n c : Nat) (t : Int) (l : List Int) : List Go.Sx.Blk := [.cells true true [.slice (some ⟨k, 0, none⟩) n c, .int .i64 t], .ints true true l]
/-! ### Words that others store -/
def wrA (N : Nat) (gi : Nat → Nat → Int) (i : Nat) : Int := (w64 (gi i 1)).tmod N
def wrB (gi : Nat → Nat → Int) (step : Int) (i : Nat) : Bool := w64 (gi i 0) == step
/-- How often a cell was touched then, and what the cells have. -/
def wrsT (N : Nat) (gi : Nat → Nat → Int) (step : Int) : Nat → Int → Int
  | 0, t => t
  | i + 1, t => if wrB gi step i then tcS N (wrA N gi i) (wrsT N gi step i t) else wrsT N gi step i t
def wrsL (N : Nat) (gi : Nat → Nat → Int) (step : Int) : Nat → List Int → List Int
  | 0, l => l
  | i + 1, l => if wrB gi step i then stS N (wrsL N gi step i l) (wrA N gi i) (gi i 2) else wrsL N gi step i l
theorem wrsL_length (N : Nat) (gi : Nat → Nat → Int) (step : Int) : ∀ (k : Nat) (l : List Int), (wrsL N gi step k l).length = l.length
  | 0, l => rfl
  | k + 1, l => by
    unfold wrsL
    split
    · rw [stS_length, wrsL_length]
    · exact wrsL_length N gi step k l
theorem okM_wrs (N : Nat) (gi : Nat → Nat → Int) (step : Int) (k : Nat) (l : List Int) : okM N (wrsL N gi step k l) = okM N l := by unfold okM; rw [wrsL_length]
abbrev wrKs : List Kd := [.it .u8, .it .u8, .it .i64]
def ixR {α : Type} (i : Int) (n k : Nat) (K : Option α) : Option α := bif inRange i n then bif Nat.blt i.toNat k then K else none else none
theorem ixR_in {α : Type} {i n k : Nat} {K : Option α} (h : n = k) (hi : i < n) : ixR i n k K = K := by
  unfold ixR inRange
  have e1 : (decide ((0 : Int) ≤ (i : Int)) && decide ((i : Int) < (n : Int))) = true := by simp; omega
  have e2 : Nat.blt ((i : Nat) : Int).toNat k = true := by rw [Nat.blt_eq]; simp; omega
  rw [e1, e2]; rfl
noncomputable def wrqFns : List (FuncId × Func) := []
theorem wrqFns_ok : ∀ e ∈ wrqFns, FnOK Tryd.prog e.1 e.2 := fns_ok_nil rfl
noncomputable def wrq0Env : Env := mkEnv Tryd.prog wrqFns [] [] []
theorem wrq0Env_ok (X : Nat → Prop) (w0 : World) (h0 : X 0) (hB : Bnd X w0) (hT : Tab w0) : EnvOK wrq0Env X w0 := mkEnv_ok (fun e he => by cases he) (by kernel_rfl) wrqFns_ok sounds_nil lpSounds_nil h0 hB hT
abbrev wrV (n c : Nat) (step i : Int) : List Value := [.pointer (some ⟨0, 0, none⟩), .slice (some ⟨1, 0, some 2⟩) n c, .int .i64 step, .int .i64 i]
abbrev wrqH (N : Nat) (t : Int) (o w : Bool) (k : Nat) (gi : Nat → Nat → Int) (gb : Nat → Nat → Bool) (l : List Int) : List Go.Sx.Blk := [.cells true true [.slice (some ⟨2, 0, some 1⟩) N 0, .int .i64 t], .rows o w 3 k ⟨wrKs, gi, gb⟩, .ints true true l]
/-- Is each cell that is named one of those that there are? -/
def wrOK (N : Nat) (gi : Nat → Nat → Int) (k : Nat) : Bool := (List.range k).all fun i => inR N (wrA N gi i)
def wrqF (vals : List Value) (lh : List Go.Sx.Blk) : M (Exit × List Value × List Go.Sx.Blk) :=
  match vals, lh with
  | [.pointer (some ⟨0, 0, none⟩), .slice (some ⟨1, 0, some 2⟩) n c, .int .i64 step, .int .i64 0], [.cells true true [.slice (some ⟨2, 0, some 1⟩) N 0, .int .i64 t], .rows o w 3 k ⟨[.it .u8, .it .u8, .it .i64], gi, gb⟩, .ints true true l] =>
    .br (okM N l && Nat.beq k n && smallN n && wrOK N gi n) (.ret (.normal, [], wrqH N t o w n gi gb (wrsL N gi step n l))) .bad
  | _, _ => .bad
theorem wrq_norm (N n c k : Nat) (t step i : Int) (o w : Bool) (gi : Nat → Nat → Int) (gb : Nat → Nat → Bool) (l : List Int) : (normV 43 [] 3 (unpack 43 [0, 1, 2, 6] (wrV n c step i) (wrqH N t o w k gi gb l))).get = some ([], wrqH N t o w k gi gb l) := by kernel_rfl
noncomputable def wrqEnv : Env := mkEnv Tryd.prog wrqFns [] [] []
def wrqO : Orc := fun args lh => match args, lh with
  | [.pointer (some ⟨0, 0, none⟩), .slice (some ⟨1, 0, some 2⟩) n c, .int .i64 step], [.cells true true [.slice (some ⟨2, 0, some 1⟩) N 0, .int .i64 t], .rows o w 3 k ⟨[.it .u8, .it .u8, .it .i64], gi, gb⟩, .ints true true l] =>
    .br (okM N l && Nat.beq k n && smallN n && wrOK N gi n) (.ret (undef, wrqH N t o w n gi gb (wrsL N gi step n l))) .bad
  | _, _ => .bad
end Go.Proofs.YthfoljgaiincdaaDoor
