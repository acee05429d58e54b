
/- What others store: in plain words; and the document's Writes. No condition of its own. -/
import Derived.Test.YthfoljgaiincdaaGreatDoorRefInts
import Derived.Test.YthfoljgaiincdaaGreatDoorRefMem
namespace Go.Proofs.YthfoljgaiincdaaGreatDoor
open Go.RowKit Go.Fld Go.Sx
set_option linter.unusedVariables false
set_option linter.unusedSimpArgs false
abbrev memAt (k n c : Nat) (t : Int) (l : List Int) : List Go.Sx.Blk := [.cells true true [.slice (some ⟨k, 0, none⟩) n c, .int .i64 t], .ints true true l]
/-! ### Words that others store -/
def wrA (N : Nat) (gi : Nat → Nat → Int) (i : Nat) : Int := (w64 (gi i 1)).tmod N
def wrB (gi : Nat → Nat → Int) (step : Int) (i : Nat) : Bool := w64 (gi i 0) == step
/-- How often a cell was touched then, and what the cells have. -/
def wrsT (N : Nat) (gi : Nat → Nat → Int) (step : Int) : Nat → Int → Int
  | 0, t => t
  | i + 1, t => if wrB gi step i then tcS N (wrA N gi i) (wrsT N gi step i t) else wrsT N gi step i t
def wrsL (N : Nat) (gi : Nat → Nat → Int) (step : Int) : Nat → List Int → List Int
  | 0, l => l
  | i + 1, l => if wrB gi step i then stS N (wrsL N gi step i l) (wrA N gi i) (gi i 2) else wrsL N gi step i l
theorem wrsL_length (N : Nat) (gi : Nat → Nat → Int) (step : Int) : ∀ (k : Nat) (l : List Int), (wrsL N gi step k l).length = l.length
  | 0, l => rfl
  | k + 1, l => by
    unfold wrsL
    split
    · rw [stS_length, wrsL_length]
    · exact wrsL_length N gi step k l
theorem okM_wrs (N : Nat) (gi : Nat → Nat → Int) (step : Int) (k : Nat) (l : List Int) : okM N (wrsL N gi step k l) = okM N l := by unfold okM; rw [wrsL_length]
abbrev wrKs : List Kd := [.it .u8, .it .u8, .it .i64]
def ixR {α : Type} (i : Int) (n k : Nat) (K : Option α) : Option α := bif inRange i n then bif Nat.blt i.toNat k then K else none else none
theorem ixR_in {α : Type} {i n k : Nat} {K : Option α} (h : n = k) (hi : i < n) : ixR i n k K = K := by
  unfold ixR inRange
  have e1 : (decide ((0 : Int) ≤ (i : Int)) && decide ((i : Int) < (n : Int))) = true := by simp; omega
  have e2 : Nat.blt ((i : Nat) : Int).toNat k = true := by rw [Nat.blt_eq]; simp; omega
  rw [e1, e2]; rfl
noncomputable def wrqFns : List (FuncId × Func) := [(13, Tryz.f13)]
theorem wrqFns_ok : ∀ e ∈ wrqFns, FnOK Tryz.prog e.1 e.2 := fns_ok_cons ⟨Tryz.func13, by kernel_rfl, by kernel_rfl⟩ <| fns_ok_nil rfl
noncomputable def wrq0Env : Env := mkEnv Tryz.prog wrqFns [] [] []
theorem wrq0Env_ok (X : Nat → Prop) (w0 : World) (h0 : X 0) (hB : Bnd X w0) (hT : Tab w0) : EnvOK wrq0Env X w0 := mkEnv_ok (fun e he => by cases he) (by kernel_rfl) wrqFns_ok sounds_nil lpSounds_nil h0 hB hT
noncomputable def wrqBody : Code := Tryz.f13.body.getD .skip
noncomputable def wrqRound : Code := lpB (blkAt 0 wrqBody)
theorem wrq_loop : blkAt 0 wrqBody = .loop wrqRound := by kernel_rfl
abbrev wrV (n c : Nat) (step i : Int) : List Value := [.pointer (some ⟨0, 0, none⟩), .slice (some ⟨1, 0, some 2⟩) n c, .int .i64 step, .int .i64 i]
abbrev wrqH (N : Nat) (t : Int) (o w : Bool) (k : Nat) (gi : Nat → Nat → Int) (gb : Nat → Nat → Bool) (l : List Int) : List Go.Sx.Blk := [.cells true true [.slice (some ⟨2, 0, some 1⟩) N 0, .int .i64 t], .rows o w 3 k ⟨wrKs, gi, gb⟩, .ints true true l]
theorem wrq_tree (N n c k : Nat) (t step i : Int) (o w : Bool) (gi : Nat → Nat → Int) (gb : Nat → Nat → Bool) (l : List Int) :
    (roundV wrq0Env 30 noLps 43 [0, 1, 2, 6] 3 wrqRound (unpack 43 [0, 1, 2, 6] (wrV n c step i) (wrqH N t o w k gi gb l))).get =
    bif decide (i < (n : Int)) then ixR i n k (bif w64 (gi i.toNat 0) == step then ixR i n k (bif decide ((N : Int) = 0) then none else ixR i n k (bif inRange ((w64 (gi i.toNat 1)).tmod N) N then bif Nat.blt ((w64 (gi i.toNat 1)).tmod N).toNat l.length then
      some (.normal, wrV n c step (w64 (i + 1)), wrqH N t o w k gi gb (l.set ((w64 (gi i.toNat 1)).tmod N).toNat (gi i.toNat 2))) else none else none))
      else some (.normal, wrV n c step (w64 (i + 1)), wrqH N t o w k gi gb l)) else some (.exit 0, wrV n c step i, wrqH N t o w k gi gb l) := by kernel_rfl
/-- Is each cell that is named one of those that there are? -/
def wrOK (N : Nat) (gi : Nat → Nat → Int) (k : Nat) : Bool := (List.range k).all fun i => inR N (wrA N gi i)
theorem wrq_rounds {X : Nat → Prop} {w0 : World} (hE : EnvOK wrq0Env X w0) (N n c : Nat) (t step : Int) (o w : Bool) (gi : Nat → Nat → Int) (gb : Nat → Nat → Bool) (l : List Int) (h1 : okM N l = true) (h2 : n ≤ 1073741824) (h3 : ∀ i, i < n → inR N (wrA N gi i) = true) : ∀ (k i : Nat), i + k = n →
    LoopRunsB Tryz.prog X w0 0 3 wrqRound (unpack 43 [0, 1, 2, 6] (wrV n c step i) (wrqH N t o w n gi gb (wrsL N gi step i l))) (.exit 0) (unpack 43 [0, 1, 2, 6] (wrV n c step n) (wrqH N t o w n gi gb (wrsL N gi step n l)))
  | 0, i, hi => by
    have ht := wrq_tree N n c n t step i o w gi gb (wrsL N gi step i l)
    rw [decide_eq_false (by omega)] at ht
    have hr := round_runs hE (noLps_ok _) ht (Nat.zero_le _) (Nat.le_refl _)
    obtain rfl : i = n := by omega
    exact LoopRunsB.exit hr (by simp)
  | k + 1, i, hi => by
    have ht := wrq_tree N n c n t step i o w gi gb (wrsL N gi step i l)
    obtain ⟨g1, g2, g3⟩ := okM_iff.1 h1
    have h4 := h3 i (by omega)
    have h5 := blt_len (l := wrsL N gi step i l) (by rw [wrsL_length]; exact g1) h4
    rw [Nat.zero_add] at h5
    rw [decide_eq_true (by omega), ixR_in rfl (by omega), ixR_in rfl (by omega), ixR_in rfl (by omega), w64_succ (by omega), Int.toNat_natCast, decide_eq_false (by omega)] at ht
    change _ = bif true then bif wrB gi step i then bif false then _ else bif inRange (wrA N gi i) N then bif Nat.blt (wrA N gi i).toNat (wrsL N gi step i l).length then _ else _ else _ else _ else _ at ht
    rw [inRange_in h4, h5] at ht
    have hl := wrq_rounds hE N n c t step o w gi gb l h1 h2 h3 k (i + 1) (by omega)
    have e2 : wrsL N gi step (i + 1) l = if wrB gi step i then (wrsL N gi step i l).set (wrA N gi i).toNat (gi i 2) else wrsL N gi step i l := by
      show (if wrB gi step i then stS N (wrsL N gi step i l) (wrA N gi i) (gi i 2) else wrsL N gi step i l) = _
      unfold stS; rw [if_pos h4]
    rw [e2] at hl
    cases hb : wrB gi step i with
    | true =>
      rw [hb] at ht hl
      exact LoopRunsB.step (round_runs hE (noLps_ok _) ht (Nat.zero_le _) (Nat.le_refl _)) hl
    | false =>
      rw [hb] at ht hl
      exact LoopRunsB.step (round_runs hE (noLps_ok _) ht (Nat.zero_le _) (Nat.le_refl _)) hl
def wrqF (vals : List Value) (lh : List Go.Sx.Blk) : M (Exit × List Value × List Go.Sx.Blk) :=
  match vals, lh with
  | [.pointer (some ⟨0, 0, none⟩), .slice (some ⟨1, 0, some 2⟩) n c, .int .i64 step, .int .i64 0], [.cells true true [.slice (some ⟨2, 0, some 1⟩) N 0, .int .i64 t], .rows o w 3 k ⟨[.it .u8, .it .u8, .it .i64], gi, gb⟩, .ints true true l] =>
    .br (okM N l && Nat.beq k n && smallN n && wrOK N gi n) (.ret (.normal, [], wrqH N t o w n gi gb (wrsL N gi step n l))) .bad
  | _, _ => .bad
theorem wrq_norm (N n c k : Nat) (t step i : Int) (o w : Bool) (gi : Nat → Nat → Int) (gb : Nat → Nat → Bool) (l : List Int) : (normV 43 [] 3 (unpack 43 [0, 1, 2, 6] (wrV n c step i) (wrqH N t o w k gi gb l))).get = some ([], wrqH N t o w k gi gb l) := by kernel_rfl
theorem wrq_lp : LpSound Tryz.prog Tab 13 0 (loopV 43 [0, 1, 2, 6] [] wrqF 3) := by
  refine LpSound.of_loop (c := wrqBody) Tryz.func13 (by kernel_rfl) (by kernel_rfl) fun X w0 h0 hB hT vals lh e vals' lh' hF hb => ?_
  unfold wrqF at hF
  split at hF
  · rename_i n c step N t o w k gi gb l
    rcases M.get_br_some hF with ⟨hc, hF⟩ | ⟨_, hF⟩
    · simp only [Bool.and_eq_true] at hc
      obtain ⟨⟨⟨hc1, hc2⟩, hc3⟩, hc4⟩ := hc
      obtain rfl := Nat.eq_of_beq_eq_true hc2
      unfold wrOK at hc4
      rw [List.all_eq_true] at hc4
      have hl := wrq_rounds (wrq0Env_ok X w0 h0 hB hT) N k c t step o w gi gb l hc1 (Nat.le_of_ble_eq_true hc3) (fun i hi => hc4 i (List.mem_range.2 hi)) k 0 (Nat.zero_add _)
      rw [wrq_loop]
      simp only [M.get_ret, Option.some.injEq, Prod.mk.injEq] at hF
      obtain ⟨rfl, rfl, rfl⟩ := hF
      exact hl.runs.block_exit.norm (wrq_norm N k c k t step k o w gi gb _) (Nat.zero_le _)
    · cases hF
  · cases hF
noncomputable def wrqEnv : Env := mkEnv Tryz.prog wrqFns [] [] [(13, 0, loopV 43 [0, 1, 2, 6] [] wrqF 3)]
theorem wrqEnv_ok (X : Nat → Prop) (w0 : World) (h0 : X 0) (hB : Bnd X w0) (hT : Tab w0) : EnvOK wrqEnv X w0 := mkEnv_ok (fun e he => by cases he) (by kernel_rfl) wrqFns_ok sounds_nil (lpSounds_cons wrq_lp lpSounds_nil) h0 hB hT
theorem wrqF_tree (N n c k : Nat) (t step : Int) (o w : Bool) (gi : Nat → Nat → Int) (gb : Nat → Nat → Bool) (l : List Int) : (callV wrqEnv 40 13 [.pointer (some ⟨0, 0, none⟩), .slice (some ⟨1, 0, some 2⟩) n c, .int .i64 step] (wrqH N t o w k gi gb l)).get =
    bif okM N l && Nat.beq k n && smallN n && wrOK N gi n then some (undef, wrqH N t o w n gi gb (wrsL N gi step n l)) else none := by kernel_rfl
def wrqO : Orc := fun args lh => match args, lh with
  | [.pointer (some ⟨0, 0, none⟩), .slice (some ⟨1, 0, some 2⟩) n c, .int .i64 step], [.cells true true [.slice (some ⟨2, 0, some 1⟩) N 0, .int .i64 t], .rows o w 3 k ⟨[.it .u8, .it .u8, .it .i64], gi, gb⟩, .ints true true l] =>
    .br (okM N l && Nat.beq k n && smallN n && wrOK N gi n) (.ret (undef, wrqH N t o w n gi gb (wrsL N gi step n l))) .bad
  | _, _ => .bad
theorem wrq_sound : Sound Tryz.prog Tab 13 wrqO := by
  refine Sound.of_run ⟨Tryz.func13, by kernel_rfl, by kernel_rfl⟩ rfl rfl wrqEnv_ok 40 fun args lh r hr => ?_
  unfold wrqO at hr
  split at hr
  · rename_i n c step N t o w k gi gb l
    rcases M.get_br_some hr with ⟨hc, hr⟩ | ⟨_, hr⟩
    · simp only [M.get_ret, Option.some.injEq] at hr; subst hr
      refine (wrqF_tree N n c k t step o w gi gb l).trans ?_
      rw [hc]; rfl
    · cases hr
  · cases hr
end Go.Proofs.YthfoljgaiincdaaGreatDoor
