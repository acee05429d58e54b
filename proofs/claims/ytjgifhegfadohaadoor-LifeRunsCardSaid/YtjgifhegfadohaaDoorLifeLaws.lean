/- The laws of life: whatever the input their runs answer true. No condition of its own. -/
import Derived.Test.YtjgifhegfadohaaDoorLifeLaw
import Derived.Test.YtjgifhegfadohaaDoorLifePlain
namespace Go.Proofs.YtjgifhegfadohaaDoor
open Go.RowKit Go.Fld Go.Sx
set_option linter.unusedVariables false
set_option linter.unusedSimpArgs false
def T (s : Slt) (k own more : Int) : Slt := (nextS s k own more).getD Slt.zero
def I (s : Slt) (k own more : Int) : Bool := (nextS s k own more).isSome
abbrev tt : Option Value := some (.bool true)
abbrev ff : Option Value := some (.bool false)
theorem tells_tree (s : Slt) (k own more : Int) : (call lawEnv 60 7 [s.val, .int .i64 k, .int .i64 own, .int .i64 more] []).run (Option Value) none (fun r => some r.1) =
    bif beqS (T s k own more) (T s k own more) then some (.bool (I s k own more == I s k own more)) else ff := by kernel_rfl
theorem tells_walk (s : Slt) (k own more : Int) (w : World) (hT : Tab w) : Calls Tryd.prog 7 #[s.val, .int .i64 k, .int .i64 own, .int .i64 more] w fun e w' => e = .returned (.bool true) ∧ Below w.heap.size w w' :=
  call_value (lawEnv_ok hT hT.lt) ((tells_tree s k own more).trans (by rw [beqS_refl]; simp)) rfl start_hr (VRA.plain [s.val, .int .i64 k, .int .i64 own, .int .i64 more] (by simp [Slt.val, Go.Sx.plain, plain1]))
theorem right_tree (s : Slt) (k own more : Int) : (call lawEnv 60 8 [s.val, .int .i64 k, .int .i64 own, .int .i64 more] []).run (Option Value) none (fun r => some r.1) =
    bif !I s k own more then some (.bool (beqS (T s k own more) Slt.zero)) else bif rightR s then bif rightR (T s k own more) then bif !beqS (T s k own more) s then
      bif (T s k own more).ver == IntKind.i64.wrap (s.ver + 1) then tt else bif s.ver == 32767 then some (.bool ((T s k own more).ver == 0)) else ff else ff else ff else ff := by kernel_rfl
theorem right_true (s : Slt) (k own more : Int) : (call lawEnv 60 8 [s.val, .int .i64 k, .int .i64 own, .int .i64 more] []).run (Option Value) none (fun r => some r.1) = tt := by
  rw [right_tree]
  unfold I T
  cases h : nextS s k own more with
  | none => simp [beqS_refl]
  | some t =>
    obtain ⟨F, h0, h1, r, hr, rfl⟩ := next_some h
    have hv := F.ver
    have hF := row_facts F h0 h1 hr ((s.ver + 1) % 32768) (by omega) (by omega)
    have hw : IntKind.i64.wrap (s.ver + 1) = s.ver + 1 := wrap_small (by omega) (by omega)
    simp only [Option.isSome_some, Option.getD_some, Bool.not_true, cond_false, right_facts.2 F, right_facts.2 hF, cond_true, hw]
    have hne : beqS { r with ver := (s.ver + 1) % 32768 } s = false := by
      rw [beqS_eq, decide_eq_false_iff_not]
      intro hh
      have := congrArg Slt.ver hh
      simp only at this
      omega
    rw [hne]
    by_cases hq : s.ver = 32767
    · simp [hq]
    · have : (s.ver + 1) % 32768 = s.ver + 1 := by omega
      simp [this]
theorem right_walk (s : Slt) (k own more : Int) (w : World) (hT : Tab w) : Calls Tryd.prog 8 #[s.val, .int .i64 k, .int .i64 own, .int .i64 more] w fun e w' => e = .returned (.bool true) ∧ Below w.heap.size w w' :=
  call_value (lawEnv_ok hT hT.lt) (right_true s k own more) rfl start_hr (VRA.plain [s.val, .int .i64 k, .int .i64 own, .int .i64 more] (by simp [Slt.val, Go.Sx.plain, plain1]))
theorem own_tree (s : Slt) (k own more : Int) : (call lawEnv 60 10 [s.val, .int .i64 k, .int .i64 own, .int .i64 more] []).run (Option Value) none (fun r => some r.1) =
    bif !I s k own more then tt else bif own == s.own then tt else bif s.st == 3 then bif k == 13 then some (.bool (s.st == 3)) else bif k == 11 then some (.bool (s.st == 3)) else ff
    else bif s.st == 1 then bif k == 13 then some (.bool (s.st == 3)) else bif k == 11 then some (.bool (s.st == 3)) else ff
    else bif s.st == 4 then bif k == 13 then tt else some (.bool (k == 6)) else bif s.st != 5 then tt else some (.bool (k == 8)) := by kernel_rfl
theorem own_true (s : Slt) (k own more : Int) : (call lawEnv 60 10 [s.val, .int .i64 k, .int .i64 own, .int .i64 more] []).run (Option Value) none (fun r => some r.1) = tt := by
  rw [own_tree]
  unfold I
  cases h : nextS s k own more with
  | none => simp
  | some t =>
    obtain ⟨F, h0, h1, r, hr, rfl⟩ := next_some h
    have hc := row_cases hr
    simp only [Option.isSome_some, Bool.not_true, cond_false]
    by_cases ho : own = s.own
    · simp [ho]
    have ho' : ¬ s.own = own := fun hh => ho hh.symm
    have e0 : (own == s.own) = false := by simpa using ho
    simp only [e0, cond_false]
    clear hr h e0
    rcases hc with ⟨rfl, h⟩ | ⟨rfl, h⟩ | ⟨rfl, h⟩ | ⟨rfl, h⟩ | ⟨rfl, h⟩ | ⟨rfl, h⟩ | ⟨rfl, h⟩ | ⟨rfl, h⟩ | ⟨rfl, h⟩ | ⟨rfl, h⟩ | ⟨rfl, h⟩ | ⟨rfl, h⟩ | ⟨rfl, h⟩ | ⟨rfl, h⟩ | ⟨rfl, h⟩ | ⟨rfl, h⟩ | ⟨rfl, h⟩ | ⟨rfl, h⟩
    all_goals
      simp only [row0, row1, row2, row3, row4, row5, row6, row7, row8, row9, row10, row11, row12, row13, row14, row15, row16, row17, ho', and_false, false_and, if_false, reduceCtorEq] at h
    all_goals
      split at h
      · rename_i q
        first
          | (simp [q]; done)
          | (obtain ⟨q1, q2⟩ := q; simp [q1]; done)
          | (obtain ⟨q1 | q1, q2⟩ := q <;> simp [q1]; done)
          | (obtain ⟨q1 | q1 | q1, q2⟩ := q <;> simp [q1]; done)
      · cases h
theorem own_walk (s : Slt) (k own more : Int) (w : World) (hT : Tab w) : Calls Tryd.prog 10 #[s.val, .int .i64 k, .int .i64 own, .int .i64 more] w fun e w' => e = .returned (.bool true) ∧ Below w.heap.size w w' :=
  call_value (lawEnv_ok hT hT.lt) (own_true s k own more) rfl start_hr (VRA.plain [s.val, .int .i64 k, .int .i64 own, .int .i64 more] (by simp [Slt.val, Go.Sx.plain, plain1]))
def stp (i c : Bool) (K : Option Value) : Option Value := bif i then bif !c then ff else K else K
theorem little_tree (s : Slt) (own : Int) : (call lawEnv 60 13 [s.val, .int .i64 own] []).run (Option Value) none (fun r => some r.1) =
    stp (I s 9 own 0) (beqS { T s 9 own 0 with own := s.own, ver := s.ver } s) (stp (I s 10 own 0) (beqS { T s 10 own 0 with mrk := false, ver := s.ver } s) (stp (I s 13 own 0) (beqS { T s 13 own 0 with brk := false, ver := s.ver } s) tt)) := by kernel_rfl
theorem stp_true {i c : Bool} {K : Option Value} (h : i = true → c = true) (hK : K = tt) : stp i c K = tt := by
  subst hK
  unfold stp
  cases i
  · rfl
  · rw [h rfl]; rfl
theorem I_some {s : Slt} {k own more : Int} (h : I s k own more = true) : ∃ r, rowS s k own more = some r ∧ Facts s ∧ 0 ≤ own ∧ own ≤ 15 ∧ nextS s k own more = some { r with ver := (s.ver + 1) % 32768 } ∧ T s k own more = { r with ver := (s.ver + 1) % 32768 } := by
  unfold I at h
  obtain ⟨t, ht⟩ := Option.isSome_iff_exists.1 h
  obtain ⟨F, h0, h1, r, hr, rfl⟩ := next_some ht
  exact ⟨r, hr, F, h0, h1, ht, by unfold T; rw [ht]; rfl⟩
theorem little_true (s : Slt) (own : Int) : (call lawEnv 60 13 [s.val, .int .i64 own] []).run (Option Value) none (fun r => some r.1) = tt := by
  rw [little_tree]
  refine stp_true (fun h => ?_) (stp_true (fun h => ?_) (stp_true (fun h => ?_) rfl))
  · obtain ⟨r, hr, _, _, _, _, ht⟩ := I_some h
    have hr' : row9 s own = some r := hr
    unfold row9 at hr'
    split at hr'
    · cases hr'
      rw [ht]; exact beqS_refl s
    · cases hr'
  · obtain ⟨r, hr, _, _, _, _, ht⟩ := I_some h
    have hr' : row10 s = some r := hr
    unfold row10 at hr'
    split at hr'
    · rename_i q
      cases hr'
      rw [ht, beqS_eq, decide_eq_true_eq]
      obtain ⟨a, b, c, d, e, f, g, h, i⟩ := s
      simp only at q
      rw [q.2]
    · cases hr'
  · obtain ⟨r, hr, _, _, _, _, ht⟩ := I_some h
    have hr' : row13 s = some r := hr
    unfold row13 at hr'
    split at hr'
    · rename_i q
      cases hr'
      rw [ht, beqS_eq, decide_eq_true_eq]
      obtain ⟨a, b, c, d, e, f, g, h, i⟩ := s
      simp only at q
      rw [q.2]
    · cases hr'
theorem little_walk (s : Slt) (own : Int) (w : World) (hT : Tab w) : Calls Tryd.prog 13 #[s.val, .int .i64 own] w fun e w' => e = .returned (.bool true) ∧ Below w.heap.size w w' :=
  call_value (lawEnv_ok hT hT.lt) (little_true s own) rfl start_hr (VRA.plain [s.val, .int .i64 own] (by simp [Slt.val, Go.Sx.plain, plain1]))
end Go.Proofs.YtjgifhegfadohaaDoor
