/- LifeBack: whatever the input its run answers true. No condition of its own. -/
import Derived.Test.YtjgifhegfadohaaDoorLifeLaws
namespace Go.Proofs.YtjgifhegfadohaaDoor
open Go.RowKit Go.Fld Go.Sx
set_option linter.unusedVariables false
def backA (s : Slt) (a b : Int) (K : Option Value) : Option Value :=
  bif I s 5 a 0 then bif decide (b ≥ 0) then bif decide (b ≤ 15) then bif !I (T s 5 a 0) 6 b 0 then ff else bif !beqS { T (T s 5 a 0) 6 b 0 with own := s.own, mrk := s.mrk, ver := s.ver } s then ff else K else K else K else K
def backB (s : Slt) (a : Int) (K : Option Value) : Option Value :=
  bif I s 7 a 0 then bif !I (T s 7 a 0) 8 a 0 then ff else bif !beqS { T (T s 7 a 0) 8 a 0 with ver := s.ver } s then ff else K else K
def backC (s t : Slt) : Option Value :=
  bif !I t 12 0 0 then ff else bif (T t 12 0 0).st != 0 then ff else bif (T t 12 0 0).gen != s.gen then ff else bif (T t 12 0 0).own != 0 then ff else tt
def backD (s : Slt) (ep : Int) : Option Value := bif I s 11 0 4095 then bif I (T s 11 0 4095) 17 0 ep then backC s (T (T s 11 0 4095) 17 0 ep) else backC s (T s 11 0 4095) else tt
theorem rowS6 (t : Slt) (own more : Int) : rowS t 6 own more = row6 t own := by kernel_rfl
theorem rowS8 (t : Slt) (own more : Int) : rowS t 8 own more = row8 t := by kernel_rfl
theorem back_tree (s : Slt) (a b ep : Int) : (call lawEnv 60 12 [s.val, .int .i64 a, .int .i64 b, .int .i64 ep] []).run (Option Value) none (fun r => some r.1) =
    backA s a b (backB s a (backD s ep)) := by kernel_rfl
theorem backA_true {s : Slt} {a b : Int} {K : Option Value} (hK : K = tt) : backA s a b K = tt := by
  subst hK
  unfold backA
  cases hI : I s 5 a 0 with
  | false => rfl
  | true =>
    by_cases h0 : b ≥ 0
    · by_cases h1 : b ≤ 15
      · obtain ⟨r, hr, F, a0, a1, hn, ht⟩ := I_some hI
        have hF := row_facts F a0 a1 hr ((s.ver + 1) % 32768) (by omega) (by omega)
        have hr' : row5 s a = some r := hr
        unfold row5 at hr'
        split at hr'
        · rename_i q
          cases hr'
          rw [ht]
          have hn2 := next_of (k := 6) (more := 0) hF h0 h1
          have er : rowS { { s with st := 4, own := a, mrk := false } with ver := (s.ver + 1) % 32768 } 6 b 0 = some { s with st := 2, own := b, mrk := false, ver := (s.ver + 1) % 32768 } := by
            rw [rowS6]
            unfold row6
            rw [if_pos rfl]
          rw [er] at hn2
          have hI2 : I { { s with st := 4, own := a, mrk := false } with ver := (s.ver + 1) % 32768 } 6 b 0 = true := by unfold I; rw [hn2]; rfl
          have hT2 : T { { s with st := 4, own := a, mrk := false } with ver := (s.ver + 1) % 32768 } 6 b 0 = { s with st := 2, own := b, mrk := false, ver := ((s.ver + 1) % 32768 + 1) % 32768 } := by unfold T; rw [hn2]; rfl
          rw [hI2, hT2]
          have hq : beqS { { s with st := 2, own := b, mrk := false, ver := ((s.ver + 1) % 32768 + 1) % 32768 } with own := s.own, mrk := s.mrk, ver := s.ver } s = true := by
            rw [beqS_eq, decide_eq_true_eq]
            obtain ⟨a, b, c, d, e, f, g, h, i⟩ := s
            have := q.1
            simp only at this
            simp [this]
          rw [hq, decide_eq_true h0, decide_eq_true h1]
          rfl
        · cases hr'
      · rw [decide_eq_true h0, decide_eq_false h1]; rfl
    · rw [decide_eq_false h0]; rfl
theorem backB_true {s : Slt} {a : Int} {K : Option Value} (hK : K = tt) : backB s a K = tt := by
  subst hK
  unfold backB
  cases hI : I s 7 a 0 with
  | false => rfl
  | true =>
    obtain ⟨r, hr, F, a0, a1, hn, ht⟩ := I_some hI
    have hF := row_facts F a0 a1 hr ((s.ver + 1) % 32768) (by omega) (by omega)
    have hr' : row7 s a = some r := hr
    unfold row7 at hr'
    split at hr'
    · rename_i q
      cases hr'
      rw [ht]
      have hn2 := next_of (k := 8) (more := 0) hF a0 a1
      have er : rowS { plainS s 5 a with ver := (s.ver + 1) % 32768 } 8 a 0 = some ⟨0, 0, 0, false, false, 0, s.gen, 0, (s.ver + 1) % 32768⟩ := by
        rw [rowS8]
        unfold row8
        exact (if_pos rfl).trans rfl
      rw [er] at hn2
      have hI2 : I { plainS s 5 a with ver := (s.ver + 1) % 32768 } 8 a 0 = true := by unfold I; rw [hn2]; rfl
      have hT2 : T { plainS s 5 a with ver := (s.ver + 1) % 32768 } 8 a 0 = ⟨0, 0, 0, false, false, 0, s.gen, 0, ((s.ver + 1) % 32768 + 1) % 32768⟩ := by unfold T; rw [hn2]; rfl
      rw [hI2, hT2]
      have hq : beqS ⟨0, 0, 0, false, false, 0, s.gen, 0, s.ver⟩ s = true := by
        rw [beqS_eq, decide_eq_true_eq]
        obtain ⟨F1, F2, F3, F4, F5, F6, F7, F8, F9, F10, F11, F12, F13⟩ := F
        obtain ⟨a, b, c, d, e, f, g, h, i⟩ := s
        simp only at q F1 F2 F3 F4 F5 F6 F7 F8 F9 F10 F11 F12 F13
        subst q
        have e1 : b = 0 := by omega
        have e2 : c = 0 := by omega
        have e3 : f = 0 := by omega
        have e4 : h = 0 := by omega
        have e5 : d = false := by rcases F9 with h | h | h | h <;> first | exact h | omega
        have e6 : e = false := by rcases F11 with h | h <;> first | exact h | omega
        rw [e1, e2, e3, e4, e5, e6]
      exact (by rw [hq]; rfl : (bif !true then ff else bif !beqS ⟨0, 0, 0, false, false, 0, s.gen, 0, s.ver⟩ s then ff else tt) = tt)
    · cases hr'
theorem backC_true {s t : Slt} (F : Facts t) (h6 : t.st = 6) (hg : t.gen = s.gen) : backC s t = tt := by
  have hn2 := next_of (k := 12) (more := 0) (own := 0) F (by omega) (by omega)
  have er : rowS t 12 0 0 = some (plainS t 0 0) := by
    show row12 t = _
    unfold row12
    rw [if_pos h6]
  rw [er] at hn2
  unfold backC I T
  rw [hn2]
  simp [plainS, hg]
theorem backD_true {s : Slt} {ep : Int} : backD s ep = tt := by
  unfold backD
  cases hI : I s 11 0 4095 with
  | false => rfl
  | true =>
    obtain ⟨r, hr, F, a0, a1, hn, ht⟩ := I_some hI
    have hF := row_facts F a0 a1 hr ((s.ver + 1) % 32768) (by omega) (by omega)
    have hr' : row11 s 4095 = some r := hr
    unfold row11 at hr'
    split at hr'
    · cases hr'
      rw [ht]
      simp only [cond_true]
      cases hI2 : I { { plainS s 6 0 with ep := 4095 } with ver := (s.ver + 1) % 32768 } 17 0 ep with
      | false => exact backC_true hF rfl rfl
      | true =>
        obtain ⟨r2, hr2, F2, b0, b1, hn2, ht2⟩ := I_some hI2
        have hF2 := row_facts F2 b0 b1 hr2 (((s.ver + 1) % 32768 + 1) % 32768) (by omega) (by omega)
        have hr3 : row17 { { plainS s 6 0 with ep := 4095 } with ver := (s.ver + 1) % 32768 } ep = some r2 := hr2
        unfold row17 at hr3
        split at hr3
        · cases hr3
          simp only [cond_true]
          rw [ht2]
          exact backC_true hF2 rfl rfl
        · cases hr3
    · cases hr'
theorem back_walk (s : Slt) (a b ep : Int) (w : World) (hT : Tab w) : Calls Tryd.prog 12 #[s.val, .int .i64 a, .int .i64 b, .int .i64 ep] w fun e w' => e = .returned (.bool true) ∧ Below w.heap.size w w' :=
  call_value (lawEnv_ok hT hT.lt) ((back_tree s a b ep).trans (backA_true (backB_true backD_true))) rfl start_hr (VRA.plain [s.val, .int .i64 a, .int .i64 b, .int .i64 ep] (by simp [Slt.val, Go.Sx.plain, plain1]))
end Go.Proofs.YtjgifhegfadohaaDoor
