
/- Words and slots: what each function does, in plain words. No condition of its own. -/
import Derived.Test.YthfoljgaiincdaaDoorLifeNext
import Derived.Test.YthfoljgaiincdaaDoorSlotS
namespace Go.Proofs.YthfoljgaiincdaaDoor
open Go.RowKit Go.Fld Go.Sx
set_option linter.unusedVariables false
set_option linter.unusedSimpArgs false
abbrev w64 (x : Int) : Int := IntKind.i64.wrap x
def rawA (x : Int) : Slt := ⟨x.tmod 8, (w64 (x.tdiv 8)).tmod 16, (w64 (x.tdiv 128)).tmod 256, (w64 (x.tdiv 32768)).tmod 2 == 1, (w64 (x.tdiv 65536)).tmod 2 == 1, (w64 (x.tdiv 131072)).tmod 64, (w64 (x.tdiv 8388608)).tmod 4096, (w64 (x.tdiv 34359738368)).tmod 4096, w64 (x.tdiv 140737488355328)⟩
/-- What the document's Decode tells of any number. -/
def decA (x : Int) : Option Slt := if x < 0 then none else if rightR (rawA x) then some (rawA x) else none
def I64i (x : Int) : Prop := -9223372036854775808 ≤ x ∧ x ≤ 9223372036854775807
theorem w64_in {x : Int} (h : I64i x) : w64 x = x := by
  unfold w64 I64i at *
  simp [IntKind.wrap, IntKind.signed, IntKind.bits]; omega
theorem w64_eq (x : Int) : w64 x = if 9223372036854775808 ≤ x % 18446744073709551616 then x % 18446744073709551616 - 18446744073709551616 else x % 18446744073709551616 := by
  unfold w64
  simp [IntKind.wrap, IntKind.signed, IntKind.bits]
theorem w64_I (x : Int) : I64i (w64 x) := by
  rw [w64_eq]
  unfold I64i
  split <;> omega
theorem w64_mod (x : Int) : ∃ q, w64 x = x + q * 18446744073709551616 := by
  refine ⟨(w64 x - x) / 18446744073709551616, ?_⟩
  rw [w64_eq]
  split <;> omega
theorem w64_congr {x y q : Int} (h : x = y + q * 18446744073709551616) : w64 x = w64 y := by
  obtain ⟨a, ha⟩ := w64_mod x
  obtain ⟨b, hb⟩ := w64_mod y
  have h1 := w64_I x
  have h2 := w64_I y
  unfold I64i at h1 h2
  omega
theorem decA_eq (x : Int) (h : I64i x) : decA x = decS x := by
  rw [dec_eq x h.2]
  unfold decA decQ
  by_cases h0 : x < 0
  · rw [if_pos h0, if_pos h0]
  · rw [if_neg h0, if_neg h0]
    have h1 : 0 ≤ x := by omega
    have e : ∀ d : Int, 0 < d → w64 (x.tdiv d) = x / d ∧ (0 : Int) ≤ x / d := fun d hd => by
      rw [Int.tdiv_eq_ediv_of_nonneg h1]
      have h2 : x / d ≤ x := by
        have := Int.ediv_le_self (a := x) d h1
        exact this
      have h3 : 0 ≤ x / d := Int.ediv_nonneg h1 (by omega)
      exact ⟨w64_in ⟨by omega, by have := h.2; omega⟩, h3⟩
    have hr : rawA x = rawR x := by
      unfold rawA rawR
      rw [(e 8 (by decide)).1, (e 128 (by decide)).1, (e 32768 (by decide)).1, (e 65536 (by decide)).1, (e 131072 (by decide)).1, (e 8388608 (by decide)).1, (e 34359738368 (by decide)).1, (e 140737488355328 (by decide)).1,
        Int.tmod_eq_emod_of_nonneg h1, Int.tmod_eq_emod_of_nonneg (e 8 (by decide)).2, Int.tmod_eq_emod_of_nonneg (e 128 (by decide)).2, Int.tmod_eq_emod_of_nonneg (e 32768 (by decide)).2, Int.tmod_eq_emod_of_nonneg (e 65536 (by decide)).2,
        Int.tmod_eq_emod_of_nonneg (e 131072 (by decide)).2, Int.tmod_eq_emod_of_nonneg (e 8388608 (by decide)).2, Int.tmod_eq_emod_of_nonneg (e 34359738368 (by decide)).2]
    rw [hr]
/-! ### Contracts without memory -/
def decO : Orc := fun args lh => match args with | [.int .i64 x] => .ret (decR (decS x), lh) | _ => .bad
def encO : Orc := fun args lh => match args with | [s] => slotM s fun s => .ret (optV (encS s), lh) | _ => .bad
def nextO : Orc := fun args lh => match args with | [s, .int .i64 k, .int .i64 own, .int .i64 more] => slotM s fun s => .ret (decR (nextS s k own more), lh) | _ => .bad
theorem args_next (s : Slt) (k own more : Int) : [s.val, .int .i64 k, .int .i64 own, .int .i64 more].all plainA = true := by simp [Slt.val, plainA, plain1]
theorem dec_sound : Sound Tryd.prog Tab 55 decO := by
  refine Sound.pure ⟨Tryd.func55, by kernel_rfl, by kernel_rfl⟩ fun args lh r hr => ?_
  unfold decO at hr
  split at hr
  · simp only [M.get_ret, Option.some.injEq] at hr; subst hr
    exact ⟨rfl, rfl, plain_decR _, fun w hT => dec_any _ w hT⟩
  · cases hr
theorem enc_sound : Sound Tryd.prog Tab 72 encO := by
  refine Sound.pure ⟨Tryd.func72, by kernel_rfl, by kernel_rfl⟩ fun args lh r hr => ?_
  unfold encO at hr
  split at hr
  · obtain ⟨s, rfl, h2⟩ := slotM_some hr
    simp only [M.get_ret, Option.some.injEq] at h2; subst h2
    exact ⟨rfl, args_slot s, plain_optV _, fun w hT => by rw [← optV_eq]; exact enc_any _ _ _ _ _ _ _ _ _ w hT⟩
  · cases hr
theorem encQ_sound : Sound Tryd.prog Tab 57 encO := by
  refine Sound.pure ⟨Tryd.func57, by kernel_rfl, by kernel_rfl⟩ fun args lh r hr => ?_
  unfold encO at hr
  split at hr
  · obtain ⟨s, rfl, h2⟩ := slotM_some hr
    simp only [M.get_ret, Option.some.injEq] at h2; subst h2
    exact ⟨rfl, args_slot s, plain_optV _, fun w hT => by rw [← optV_eq, encS_eq]; exact encR_any _ _ _ _ _ _ _ _ _ w⟩
  · cases hr
theorem next_sound : Sound Tryd.prog Tab 59 nextO := by
  refine Sound.pure ⟨Tryd.func59, by kernel_rfl, by kernel_rfl⟩ fun args lh r hr => ?_
  unfold nextO at hr
  split at hr
  · obtain ⟨s, rfl, h2⟩ := slotM_some hr
    simp only [M.get_ret, Option.some.injEq] at h2; subst h2
    exact ⟨rfl, args_next _ _ _ _, plain_decR _, fun w hT => life_any _ _ _ _ w hT⟩
  · cases hr
/-! ### Words -/
noncomputable def wordFns : List (FuncId × Func) := [(47, Tryd.f47), (35, Tryd.f35)]
theorem wordFns_ok : ∀ e ∈ wordFns, FnOK Tryd.prog e.1 e.2 :=
  fns_ok_cons ⟨Tryd.func47, by kernel_rfl, by kernel_rfl⟩ <| fns_ok_cons ⟨Tryd.func35, by kernel_rfl, by kernel_rfl⟩ <| fns_ok_nil rfl
def word0 : List (FuncId × Orc) := [(55, decO), (72, encO), (59, nextO), (68, rightO), (57, encO)]
theorem word0_ok : Sounds Tryd.prog Tab word0 := sounds_cons dec_sound <| sounds_cons enc_sound <| sounds_cons next_sound <| sounds_cons rightQ_sound <| sounds_cons encQ_sound <| sounds_nil
noncomputable def wordEnv : Env := mkEnv Tryd.prog wordFns [slotEq] word0 []
theorem wordEnv_ok (X : Nat → Prop) (w0 : World) (h0 : X 0) (hB : Bnd X w0) (hT : Tab w0) : EnvOK wordEnv X w0 := mkEnv_ok slotEq_ok (by kernel_rfl) wordFns_ok word0_ok lpSounds_nil h0 hB hT
def decAO : Orc := fun args lh => match args with | [.int .i64 x] => .ret (decR (decA x), lh) | _ => .bad
def wordO : Orc := fun args lh => match args with | [s] => slotM s fun s => .ret (.int .i64 ((encS s).getD 0), lh) | _ => .bad
/-- The word behind a step of its life. -/
def aftS (d : Int → Option Slt) (w k own more : Int) : Option Int := ((d w).bind fun s => nextS s k own more).bind encS
def aftAO : Orc := fun args lh => match args with | [.int .i64 w, .int .i64 k, .int .i64 own, .int .i64 more] => .ret (optV (aftS decA w k own more), lh) | _ => .bad
def slt0 (o : Option Slt) : Slt := o.getD Slt.zero
theorem decA_tree (x : Int) : (callV wordEnv 40 47 [.int .i64 x] []).get = bif decide (x < 0) then some (decR none, []) else bif !rightR (rawA x) then some (decR none, []) else some (decR (some (rawA x)), []) := by kernel_rfl
theorem wordQ_tree (s : Slt) : (callV wordEnv 40 35 [s.val] []).get = some (.int .i64 ((encS s).getD 0), []) := by kernel_rfl
theorem decA_run (x : Int) : (callV wordEnv 40 47 [.int .i64 x] []).get = some (decR (decA x), []) := by
  refine (decA_tree x).trans ?_
  unfold decA
  by_cases h0 : x < 0
  · rw [if_pos h0, decide_eq_true h0]; rfl
  · rw [if_neg h0, decide_eq_false h0]
    cases rightR (rawA x) <;> rfl
/-- A run out of no blocks, over any. -/
theorem Sound.of_empty {f : FuncId} {fn : Func} (hf : FnOK Tryd.prog f fn) {F : Orc} {E : Env} (hP : E.P = Tryd.prog) (hG : E.G = 0) (hE : ∀ (X : Nat → Prop) (w0 : World), X 0 → Bnd X w0 → Tab w0 → EnvOK E X w0) (fuel : Nat)
    (h : ∀ args lh r, (F args lh).get = some r → r.2 = lh ∧ args.all plainA = true ∧ Go.Sx.plain r.1 = true ∧ r.1 ≠ undef ∧ (callV E fuel f args []).get = some (r.1, [])) : Sound Tryd.prog Tab f F := by
  refine Sound.pure hf fun args lh r hr => ?_
  obtain ⟨h1, h2, h3, h3', h4⟩ := h args lh r hr
  refine ⟨h1, h2, h3, fun w hT => ?_⟩
  have hc := callV_ok (hE (· < w.heap.size) w hT.lt (bnd_self w) hT) hG h4
  have hr : HR (· < w.heap.size) w E.G (fun _ => none) [] w := by rw [hG]; exact start_hr
  have ha : args.all Go.Sx.plain = true := by
    rw [List.all_eq_true] at h2 ⊢
    intro v hv
    have := h2 v hv
    unfold plainA at this
    split at this
    · exact this
    · cases v <;> first | exact this | rfl | (simp [Go.Sx.plain, plain1] at this ⊢)
  rw [hP] at hc
  refine (hc.2 _ w args.toArray hr (VRA.plain args ha)).mono fun e w' hh => ?_
  obtain ⟨v', rfl, σ', _, hvr, hr'⟩ := hh
  rw [VR.plain_eq hvr h3 h3']
  exact ⟨rfl, hr'.below.below⟩
theorem decR_ne (o : Option Slt) : decR o ≠ undef := by simp [decR, undef]
theorem optV_ne (o : Option Int) : optV o ≠ undef := by simp [optV, undef]
theorem decA_sound : Sound Tryd.prog Tab 47 decAO := by
  refine Sound.of_empty ⟨Tryd.func47, by kernel_rfl, by kernel_rfl⟩ rfl rfl wordEnv_ok 40 fun args lh r hr => ?_
  unfold decAO at hr
  split at hr
  · simp only [M.get_ret, Option.some.injEq] at hr; subst hr
    exact ⟨rfl, rfl, plain_decR _, decR_ne _, decA_run _⟩
  · cases hr
theorem wordQ_sound : Sound Tryd.prog Tab 35 wordO := by
  refine Sound.of_empty ⟨Tryd.func35, by kernel_rfl, by kernel_rfl⟩ rfl rfl wordEnv_ok 40 fun args lh r hr => ?_
  unfold wordO at hr
  split at hr
  · obtain ⟨s, rfl, h2⟩ := slotM_some hr
    simp only [M.get_ret, Option.some.injEq] at h2; subst h2
    exact ⟨rfl, args_slot s, rfl, by simp [undef], wordQ_tree s⟩
  · cases hr
/-- slot.Decode and the like. -/
def wordOrcs : List (FuncId × Orc) := [(55, decO), (72, encO), (59, nextO), (47, decAO), (35, wordO), (68, rightO), (57, encO)]
theorem wordOrcs_ok : Sounds Tryd.prog Tab wordOrcs := sounds_cons dec_sound <| sounds_cons enc_sound <| sounds_cons next_sound <| sounds_cons decA_sound <| sounds_cons wordQ_sound <| sounds_cons rightQ_sound <| sounds_cons encQ_sound <| sounds_nil
noncomputable def word2Env : Env := mkEnv Tryd.prog wordFns [slotEq] wordOrcs []
theorem word2Env_ok (X : Nat → Prop) (w0 : World) (h0 : X 0) (hB : Bnd X w0) (hT : Tab w0) : EnvOK word2Env X w0 := mkEnv_ok slotEq_ok (by kernel_rfl) wordFns_ok wordOrcs_ok lpSounds_nil h0 hB hT
theorem aft_eq (d : Int → Option Slt) (w k own more : Int) : (bif !(d w).isSome then some (optV none, ([] : List Go.Sx.Blk)) else bif !(nextS (slt0 (d w)) k own more).isSome then some (optV none, []) else some (optV (encS (slt0 (nextS (slt0 (d w)) k own more))), [])) = some (optV (aftS d w k own more), []) := by
  unfold aftS slt0
  cases d w with
  | none => rfl
  | some s =>
    simp only [Option.getD_some, Option.bind_some]
    cases nextS s k own more <;> rfl
end Go.Proofs.YthfoljgaiincdaaDoor
