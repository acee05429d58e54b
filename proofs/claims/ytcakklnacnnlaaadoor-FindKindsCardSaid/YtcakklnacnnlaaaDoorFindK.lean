/- FindKinds: its walk. No condition of its own. -/
import Derived.Test.YtcakklnacnnlaaaDoorFindL
namespace Go.Proofs.YtcakklnacnnlaaaDoor
open Go.RowKit Go.Fld Go.Sx
set_option linter.unusedVariables false
set_option linter.unusedSimpArgs false
def othB (st : Int) : Bool := !(st == 2) && !(st == 0) && !(st == 3) && !(st == 6)
theorem oth_fits {s : Slt} (h : othB s.st = true) (k own : Int) : fitsS s k own = false := by
  unfold othB at h
  simp only [Bool.and_eq_true, Bool.not_eq_true'] at h
  obtain ⟨⟨⟨h1, h2⟩, h3⟩, h4⟩ := h
  unfold fitsS
  rw [h1, h2, h3, h4]
  simp
/-- What fits where nothing does. -/
def fitsNO : Orc := fun args lh => match args with | [s, .int .i64 k, .int .i64 own] => slotM s fun s => .br (othB s.st) (.ret (.bool false, lh)) .bad | _ => .bad
theorem fitsN_sound : Sound Tryd.prog Tab 14 fitsNO := by
  obtain ⟨hf, hs⟩ := fits_sound
  refine ⟨hf, fun X w0 h0 hB hT args lh r hr => hs X w0 h0 hB hT args lh r ?_⟩
  unfold fitsNO at hr
  split at hr
  · rename_i s0 k own
    obtain ⟨s, rfl, h2⟩ := slotM_some hr
    rcases M.get_br_some h2 with ⟨hc, h3⟩ | ⟨_, h3⟩
    · rw [← h3, ← oth_fits hc k own]
      have e : fitsO [s.val, .int .i64 k, .int .i64 own] lh = .ret (.bool (fitsS s k own), lh) := by cases s; rfl
      rw [e]
    · cases h3
  · cases hr
noncomputable def fnEnv : Env := mkEnv Tryd.prog flFns [] [(13, awakeO), (14, fitsNO)] []
theorem fnEnv_ok (X : Nat → Prop) (w0 : World) (h0 : X 0) (hB : Bnd X w0) (hT : Tab w0) : EnvOK fnEnv X w0 := mkEnv_ok (fun e he => by cases he) (by kernel_rfl) flFns_ok (sounds_cons awake_sound <| sounds_cons fitsN_sound sounds_nil) lpSounds_nil h0 hB hT
noncomputable def fkEnv : Env := mkEnv Tryd.prog flFns [] [(13, awakeO), (14, fitsO)] []
theorem fkEnv_ok (X : Nat → Prop) (w0 : World) (h0 : X 0) (hB : Bnd X w0) (hT : Tab w0) : EnvOK fkEnv X w0 := mkEnv_ok (fun e he => by cases he) (by kernel_rfl) flFns_ok (sounds_cons awake_sound <| sounds_cons fits_sound sounds_nil) lpSounds_nil h0 hB hT
def bt' {α : Type} (c : Bool) (K : Option α) : Option α := bif c then K else none
theorem fk_oth (s : Slt) (own : Int) : (call fnEnv 60 4 [s.val, .int .i64 own] []).run (Option Value) none (fun r => some r.1) =
    bt' (othB s.st) (bt' (othB s.st) (bt' (othB s.st) (bt' (othB s.st) (bt' (othB s.st) (bt' (othB s.st) (bt' (othB s.st) (bt' (othB s.st) (bif false == (s.st == 3) then some (.bool true) else some (.bool false))))))))) := by kernel_rfl
theorem fk_2t (ow own : Int) (str : Int) (m : Bool) (u g e v : Int) : (call fkEnv 60 4 [(⟨2, ow, str, true, m, u, g, e, v⟩ : Slt).val, .int .i64 own] []).run (Option Value) none (fun r => some r.1) = some (.bool true) := by kernel_rfl
theorem fk_2f (ow own : Int) (str : Int) (m : Bool) (u g e v : Int) : (call fkEnv 60 4 [(⟨2, ow, str, false, m, u, g, e, v⟩ : Slt).val, .int .i64 own] []).run (Option Value) none (fun r => some r.1) =
    bif ow == own then some (.bool ((ow == own) == (ow == own))) else some (.bool ((ow == own) == (ow == own))) := by kernel_rfl
theorem fk_0 (ow own : Int) (str : Int) (b m : Bool) (u g e v : Int) : (call fkEnv 60 4 [(⟨0, ow, str, b, m, u, g, e, v⟩ : Slt).val, .int .i64 own] []).run (Option Value) none (fun r => some r.1) = some (.bool true) := by kernel_rfl
theorem fk_3 (ow own : Int) (str : Int) (b m : Bool) (u g e v : Int) : (call fkEnv 60 4 [(⟨3, ow, str, b, m, u, g, e, v⟩ : Slt).val, .int .i64 own] []).run (Option Value) none (fun r => some r.1) = some (.bool true) := by kernel_rfl
theorem fk_6 (ow own : Int) (str : Int) (b m : Bool) (u g e v : Int) : (call fkEnv 60 4 [(⟨6, ow, str, b, m, u, g, e, v⟩ : Slt).val, .int .i64 own] []).run (Option Value) none (fun r => some r.1) = some (.bool true) := by kernel_rfl
theorem fk_go (s : Slt) (own : Int) (w : World) (hT : Tab w) (h : (call fkEnv 60 4 [s.val, .int .i64 own] []).run (Option Value) none (fun r => some r.1) = some (.bool true)) : Calls Tryd.prog 4 #[s.val, .int .i64 own] w fun e w' => e = .returned (.bool true) ∧ Below w.heap.size w w' :=
  call_start (fkEnv_ok _ w hT.lt (bnd_self w) hT) rfl (args := [s.val, .int .i64 own]) h rfl (by simp [undef]) (by simp [Slt.val, Go.Sx.plain, plain1])
theorem fn_go (s : Slt) (own : Int) (w : World) (hT : Tab w) (h : (call fnEnv 60 4 [s.val, .int .i64 own] []).run (Option Value) none (fun r => some r.1) = some (.bool true)) : Calls Tryd.prog 4 #[s.val, .int .i64 own] w fun e w' => e = .returned (.bool true) ∧ Below w.heap.size w w' :=
  call_start (fnEnv_ok _ w hT.lt (bnd_self w) hT) rfl (args := [s.val, .int .i64 own]) h rfl (by simp [undef]) (by simp [Slt.val, Go.Sx.plain, plain1])
theorem fk_oth_true (s : Slt) (own : Int) (h : othB s.st = true) (h3 : (s.st == 3) = false) : (call fnEnv 60 4 [s.val, .int .i64 own] []).run (Option Value) none (fun r => some r.1) = some (.bool true) := by
  rw [fk_oth, h, h3]; rfl
theorem fk_2 (s : Slt) (own : Int) (h : s.st = 2) : (call fkEnv 60 4 [s.val, .int .i64 own] []).run (Option Value) none (fun r => some r.1) = some (.bool true) := by
  obtain ⟨st, ow, str, brk, mrk, u, g, e, v⟩ := s
  obtain rfl : st = 2 := h
  cases brk
  · rw [fk_2f]
    cases ow == own <;> rfl
  · rw [fk_2t]
theorem fk_0' (s : Slt) (own : Int) (h : s.st = 0) : (call fkEnv 60 4 [s.val, .int .i64 own] []).run (Option Value) none (fun r => some r.1) = some (.bool true) := by
  obtain ⟨st, ow, str, brk, mrk, u, g, e, v⟩ := s
  obtain rfl : st = 0 := h
  rw [fk_0]
theorem fk_3' (s : Slt) (own : Int) (h : s.st = 3) : (call fkEnv 60 4 [s.val, .int .i64 own] []).run (Option Value) none (fun r => some r.1) = some (.bool true) := by
  obtain ⟨st, ow, str, brk, mrk, u, g, e, v⟩ := s
  obtain rfl : st = 3 := h
  rw [fk_3]
theorem fk_6' (s : Slt) (own : Int) (h : s.st = 6) : (call fkEnv 60 4 [s.val, .int .i64 own] []).run (Option Value) none (fun r => some r.1) = some (.bool true) := by
  obtain ⟨st, ow, str, brk, mrk, u, g, e, v⟩ := s
  obtain rfl : st = 6 := h
  rw [fk_6]
theorem fk_walk (s : Slt) (own : Int) (w : World) (hT : Tab w) : Calls Tryd.prog 4 #[s.val, .int .i64 own] w fun e w' => e = .returned (.bool true) ∧ Below w.heap.size w w' := by
  by_cases h2 : s.st = 2
  · exact fk_go s own w hT (fk_2 s own h2)
  by_cases h0 : s.st = 0
  · exact fk_go s own w hT (fk_0' s own h0)
  by_cases h3 : s.st = 3
  · exact fk_go s own w hT (fk_3' s own h3)
  by_cases h6 : s.st = 6
  · exact fk_go s own w hT (fk_6' s own h6)
  have k : ∀ b : Int, s.st ≠ b → (s.st == b) = false := fun b h => by simpa using h
  exact fn_go s own w hT (fk_oth_true s own (by unfold othB; rw [k 2 h2, k 0 h0, k 3 h3, k 6 h6]; rfl) (k 3 h3))
end Go.Proofs.YtcakklnacnnlaaaDoor
