
/- bits.TrailingZeros of a number of one bit; the worlds that have its table. No condition of its own. -/
import Derived.Test.YthfoljgaiincdaaGreatDoorSxMe
import Derived.Test.YthfoljgaiincdaaGreatDoorSlotOrc
namespace Go.Proofs.YthfoljgaiincdaaGreatDoor
open Go.RowKit Go.Fld Go.Sx
set_option linter.unusedVariables false
set_option linter.unusedSimpArgs false
attribute [local go_sem ↓] Go.wp_at_zero Go.wp_at_succ
/-- The table's cells. -/
def tab2C : Array Value := #[.int .u8 0, .int .u8 1, .int .u8 56, .int .u8 2, .int .u8 57, .int .u8 49, .int .u8 28, .int .u8 3, .int .u8 61, .int .u8 58, .int .u8 42, .int .u8 50, .int .u8 38, .int .u8 29, .int .u8 17, .int .u8 4, .int .u8 62, .int .u8 47, .int .u8 59, .int .u8 36, .int .u8 45, .int .u8 43, .int .u8 51, .int .u8 22, .int .u8 53, .int .u8 39, .int .u8 33, .int .u8 30, .int .u8 24, .int .u8 18, .int .u8 12, .int .u8 5, .int .u8 63, .int .u8 55, .int .u8 48, .int .u8 27, .int .u8 60, .int .u8 41, .int .u8 37, .int .u8 16, .int .u8 46, .int .u8 35, .int .u8 44, .int .u8 21, .int .u8 52, .int .u8 32, .int .u8 23, .int .u8 11, .int .u8 54, .int .u8 26, .int .u8 40, .int .u8 15, .int .u8 34, .int .u8 20, .int .u8 31, .int .u8 10, .int .u8 25, .int .u8 14, .int .u8 19, .int .u8 9, .int .u8 13, .int .u8 8, .int .u8 7, .int .u8 6]
def Tab2 (w : World) : Prop := ∃ t fr, w.heap[2]? = some (.cells tab2C t fr)
theorem Tab2.lt {w : World} (h : Tab2 w) : 2 < w.heap.size := by
  obtain ⟨t, fr, h⟩ := h
  exact (Array.getElem?_eq_some_iff.1 h).1
theorem Tab2.of_kept {n : Nat → Prop} {w0 w : World} (h : Tab2 w0) (hn : n 2) (hb : Kept n w0 w) : Tab2 w := by
  obtain ⟨t, fr, h'⟩ := h
  exact ⟨t, fr, (hb.block 2 hn).trans h'⟩
def KT (k : Nat) : Prop := k = 0 ∨ k = 2
def TT (w : World) : Prop := Tab w ∧ Tab2 w
theorem tt_kept : ∀ (X : Nat → Prop) (w w' : World), (∀ k, KT k → X k) → TT w → Kept X w w' → TT w' := fun X w w' h0 h hk => ⟨h.1.of_kept (h0 0 (.inl rfl)) hk, h.2.of_kept (h0 2 (.inr rfl)) hk⟩
theorem TT.lt {w : World} (h : TT w) : ∀ k, KT k → k < w.heap.size := fun k hk => by
  rcases hk with rfl | rfl
  · exact h.1.lt
  · exact h.2.lt
theorem Tab2.cell {w : World} (h : Tab2 w) (j : Nat) : w.cell? ⟨2, j, none⟩ = tab2C[j]? := by
  obtain ⟨t, fr, h⟩ := h
  simp [World.cell?, h]
/-- What a number of one bit says. -/
def tzV (x : Int) : Int := if x = 1 then 0 else if x = 2 then 1 else if x = 4 then 2 else if x = 8 then 3 else if x = 16 then 4 else if x = 32 then 5 else if x = 64 then 6 else 7
def tzOK (x : Int) : Bool := x == 1 || x == 2 || x == 4 || x == 8 || x == 16 || x == 32 || x == 64 || x == 128
theorem tzx_0 : IntKind.u64.wrap (bits BinOp.and IntKind.u64 1 (IntKind.u64.wrap (-1)) * 285870213051353865) / 288230376151711744 = 0 := by kernel_rfl
attribute [local go_sem] tzx_0
theorem tzq_0 (w : World) (hT : Tab2 w) : Calls Tryz.prog 108 #[.int .u64 1] w fun e w' => e = .returned (.int .i64 0) ∧ w = w' := by
  have c0 : w.cell? ⟨2, 0, none⟩ = some (.int .u8 0) := hT.cell 0
  go_enter Tryz.func108, Tryz.ntmps108
  go_wp2
  go_ret
  exact ⟨rfl, rfl⟩
theorem tz_0 (w : World) (hT : Tab2 w) : Calls Tryz.prog 72 #[.int .u64 1] w fun e w' => e = .returned (.int .i64 0) ∧ w = w' := by
  go_enter Tryz.func72, Tryz.ntmps72
  go_wp2_with fail
  refine (tzq_0 _ hT).mono ?_
  rintro e w1 ⟨rfl, rfl⟩
  go_wp2
  go_ret
  exact ⟨rfl, rfl⟩
theorem tzx_1 : IntKind.u64.wrap (bits BinOp.and IntKind.u64 2 (IntKind.u64.wrap (-2)) * 285870213051353865) / 288230376151711744 = 1 := by kernel_rfl
attribute [local go_sem] tzx_1
theorem tzq_1 (w : World) (hT : Tab2 w) : Calls Tryz.prog 108 #[.int .u64 2] w fun e w' => e = .returned (.int .i64 1) ∧ w = w' := by
  have c0 : w.cell? ⟨2, 1, none⟩ = some (.int .u8 1) := hT.cell 1
  go_enter Tryz.func108, Tryz.ntmps108
  go_wp2
  go_ret
  exact ⟨rfl, rfl⟩
theorem tz_1 (w : World) (hT : Tab2 w) : Calls Tryz.prog 72 #[.int .u64 2] w fun e w' => e = .returned (.int .i64 1) ∧ w = w' := by
  go_enter Tryz.func72, Tryz.ntmps72
  go_wp2_with fail
  refine (tzq_1 _ hT).mono ?_
  rintro e w1 ⟨rfl, rfl⟩
  go_wp2
  go_ret
  exact ⟨rfl, rfl⟩
theorem tzx_2 : IntKind.u64.wrap (bits BinOp.and IntKind.u64 4 (IntKind.u64.wrap (-4)) * 285870213051353865) / 288230376151711744 = 3 := by kernel_rfl
attribute [local go_sem] tzx_2
theorem tzq_2 (w : World) (hT : Tab2 w) : Calls Tryz.prog 108 #[.int .u64 4] w fun e w' => e = .returned (.int .i64 2) ∧ w = w' := by
  have c0 : w.cell? ⟨2, 3, none⟩ = some (.int .u8 2) := hT.cell 3
  go_enter Tryz.func108, Tryz.ntmps108
  go_wp2
  go_ret
  exact ⟨rfl, rfl⟩
theorem tz_2 (w : World) (hT : Tab2 w) : Calls Tryz.prog 72 #[.int .u64 4] w fun e w' => e = .returned (.int .i64 2) ∧ w = w' := by
  go_enter Tryz.func72, Tryz.ntmps72
  go_wp2_with fail
  refine (tzq_2 _ hT).mono ?_
  rintro e w1 ⟨rfl, rfl⟩
  go_wp2
  go_ret
  exact ⟨rfl, rfl⟩
theorem tzx_3 : IntKind.u64.wrap (bits BinOp.and IntKind.u64 8 (IntKind.u64.wrap (-8)) * 285870213051353865) / 288230376151711744 = 7 := by kernel_rfl
attribute [local go_sem] tzx_3
theorem tzq_3 (w : World) (hT : Tab2 w) : Calls Tryz.prog 108 #[.int .u64 8] w fun e w' => e = .returned (.int .i64 3) ∧ w = w' := by
  have c0 : w.cell? ⟨2, 7, none⟩ = some (.int .u8 3) := hT.cell 7
  go_enter Tryz.func108, Tryz.ntmps108
  go_wp2
  go_ret
  exact ⟨rfl, rfl⟩
theorem tz_3 (w : World) (hT : Tab2 w) : Calls Tryz.prog 72 #[.int .u64 8] w fun e w' => e = .returned (.int .i64 3) ∧ w = w' := by
  go_enter Tryz.func72, Tryz.ntmps72
  go_wp2_with fail
  refine (tzq_3 _ hT).mono ?_
  rintro e w1 ⟨rfl, rfl⟩
  go_wp2
  go_ret
  exact ⟨rfl, rfl⟩
theorem tzx_4 : IntKind.u64.wrap (bits BinOp.and IntKind.u64 16 (IntKind.u64.wrap (-16)) * 285870213051353865) / 288230376151711744 = 15 := by kernel_rfl
attribute [local go_sem] tzx_4
theorem tzq_4 (w : World) (hT : Tab2 w) : Calls Tryz.prog 108 #[.int .u64 16] w fun e w' => e = .returned (.int .i64 4) ∧ w = w' := by
  have c0 : w.cell? ⟨2, 15, none⟩ = some (.int .u8 4) := hT.cell 15
  go_enter Tryz.func108, Tryz.ntmps108
  go_wp2
  go_ret
  exact ⟨rfl, rfl⟩
theorem tz_4 (w : World) (hT : Tab2 w) : Calls Tryz.prog 72 #[.int .u64 16] w fun e w' => e = .returned (.int .i64 4) ∧ w = w' := by
  go_enter Tryz.func72, Tryz.ntmps72
  go_wp2_with fail
  refine (tzq_4 _ hT).mono ?_
  rintro e w1 ⟨rfl, rfl⟩
  go_wp2
  go_ret
  exact ⟨rfl, rfl⟩
theorem tzx_5 : IntKind.u64.wrap (bits BinOp.and IntKind.u64 32 (IntKind.u64.wrap (-32)) * 285870213051353865) / 288230376151711744 = 31 := by kernel_rfl
attribute [local go_sem] tzx_5
theorem tzq_5 (w : World) (hT : Tab2 w) : Calls Tryz.prog 108 #[.int .u64 32] w fun e w' => e = .returned (.int .i64 5) ∧ w = w' := by
  have c0 : w.cell? ⟨2, 31, none⟩ = some (.int .u8 5) := hT.cell 31
  go_enter Tryz.func108, Tryz.ntmps108
  go_wp2
  go_ret
  exact ⟨rfl, rfl⟩
theorem tz_5 (w : World) (hT : Tab2 w) : Calls Tryz.prog 72 #[.int .u64 32] w fun e w' => e = .returned (.int .i64 5) ∧ w = w' := by
  go_enter Tryz.func72, Tryz.ntmps72
  go_wp2_with fail
  refine (tzq_5 _ hT).mono ?_
  rintro e w1 ⟨rfl, rfl⟩
  go_wp2
  go_ret
  exact ⟨rfl, rfl⟩
theorem tzx_6 : IntKind.u64.wrap (bits BinOp.and IntKind.u64 64 (IntKind.u64.wrap (-64)) * 285870213051353865) / 288230376151711744 = 63 := by kernel_rfl
attribute [local go_sem] tzx_6
theorem tzq_6 (w : World) (hT : Tab2 w) : Calls Tryz.prog 108 #[.int .u64 64] w fun e w' => e = .returned (.int .i64 6) ∧ w = w' := by
  have c0 : w.cell? ⟨2, 63, none⟩ = some (.int .u8 6) := hT.cell 63
  go_enter Tryz.func108, Tryz.ntmps108
  go_wp2
  go_ret
  exact ⟨rfl, rfl⟩
theorem tz_6 (w : World) (hT : Tab2 w) : Calls Tryz.prog 72 #[.int .u64 64] w fun e w' => e = .returned (.int .i64 6) ∧ w = w' := by
  go_enter Tryz.func72, Tryz.ntmps72
  go_wp2_with fail
  refine (tzq_6 _ hT).mono ?_
  rintro e w1 ⟨rfl, rfl⟩
  go_wp2
  go_ret
  exact ⟨rfl, rfl⟩
theorem tzx_7 : IntKind.u64.wrap (bits BinOp.and IntKind.u64 128 (IntKind.u64.wrap (-128)) * 285870213051353865) / 288230376151711744 = 62 := by kernel_rfl
attribute [local go_sem] tzx_7
theorem tzq_7 (w : World) (hT : Tab2 w) : Calls Tryz.prog 108 #[.int .u64 128] w fun e w' => e = .returned (.int .i64 7) ∧ w = w' := by
  have c0 : w.cell? ⟨2, 62, none⟩ = some (.int .u8 7) := hT.cell 62
  go_enter Tryz.func108, Tryz.ntmps108
  go_wp2
  go_ret
  exact ⟨rfl, rfl⟩
theorem tz_7 (w : World) (hT : Tab2 w) : Calls Tryz.prog 72 #[.int .u64 128] w fun e w' => e = .returned (.int .i64 7) ∧ w = w' := by
  go_enter Tryz.func72, Tryz.ntmps72
  go_wp2_with fail
  refine (tzq_7 _ hT).mono ?_
  rintro e w1 ⟨rfl, rfl⟩
  go_wp2
  go_ret
  exact ⟨rfl, rfl⟩
def tzO : Orc := fun args lh => match args with
  | [.int .u64 x] => .br (tzOK x) (.ret (.int .i64 (tzV x), lh)) .bad
  | _ => .bad
theorem tz_sound : SoundG KT Tryz.prog TT 72 tzO := by
  refine ⟨⟨Tryz.f72, Tryz.func72, by kernel_rfl, by kernel_rfl⟩, fun X w0 h0 hB hT args lh r hr => ?_⟩
  unfold tzO at hr
  split at hr
  · rename_i x
    rcases M.get_br_some hr with ⟨hc, hr⟩ | ⟨_, hr⟩
    · simp only [M.get_ret, Option.some.injEq] at hr; subst hr
      refine CallTo.pure rfl rfl fun w hk => ?_
      have h2 : Tab2 w := hT.2.of_kept (h0 2 (.inr rfl)) hk
      have hb : Below w.heap.size w w := Below.refl _ _
      unfold tzOK at hc
      simp only [Bool.or_eq_true, beq_iff_eq] at hc
      rcases hc with ((((((h | h) | h) | h) | h) | h) | h) | h <;> subst h
      · refine (tz_0 w h2).mono fun e w' hh => ?_; obtain ⟨rfl, rfl⟩ := hh; exact ⟨rfl, hb⟩
      · refine (tz_1 w h2).mono fun e w' hh => ?_; obtain ⟨rfl, rfl⟩ := hh; exact ⟨rfl, hb⟩
      · refine (tz_2 w h2).mono fun e w' hh => ?_; obtain ⟨rfl, rfl⟩ := hh; exact ⟨rfl, hb⟩
      · refine (tz_3 w h2).mono fun e w' hh => ?_; obtain ⟨rfl, rfl⟩ := hh; exact ⟨rfl, hb⟩
      · refine (tz_4 w h2).mono fun e w' hh => ?_; obtain ⟨rfl, rfl⟩ := hh; exact ⟨rfl, hb⟩
      · refine (tz_5 w h2).mono fun e w' hh => ?_; obtain ⟨rfl, rfl⟩ := hh; exact ⟨rfl, hb⟩
      · refine (tz_6 w h2).mono fun e w' hh => ?_; obtain ⟨rfl, rfl⟩ := hh; exact ⟨rfl, hb⟩
      · refine (tz_7 w h2).mono fun e w' hh => ?_; obtain ⟨rfl, rfl⟩ := hh; exact ⟨rfl, hb⟩
    · cases hr
  · cases hr
end Go.Proofs.YthfoljgaiincdaaGreatDoor
namespace Go.Sx
open Go.Proofs Go.Proofs.YthfoljgaiincdaaGreatDoor
theorem Sound.tt {f : FuncId} {F : Orc} (h : Sound Tryz.prog Tab f F) : SoundG KT Tryz.prog TT f F := h.toG (.inl rfl) fun _ h => h.1
theorem Sounds.tt {l : List (FuncId × Orc)} (h : Sounds Tryz.prog Tab l) : SoundsG KT Tryz.prog TT l := h.toG (.inl rfl) fun _ h => h.1
theorem LpSound.tt {f : FuncId} {id : Nat} {F : Nat → St → M (Exit × St)} (h : LpSound Tryz.prog Tab f id F) : LpSoundG KT Tryz.prog TT f id F := h.toG (.inl rfl) fun _ h => h.1
end Go.Sx
