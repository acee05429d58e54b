
/- Words and the slots they say, one step of life on: plain facts. No condition of its own. -/
import Derived.Test.YthfoljgaiincdaaDoorLifePlain
import Derived.Test.YthfoljgaiincdaaDoorSlotPD
import Derived.Test.YthfoljgaiincdaaDoorRefWord
namespace Go.Proofs.YthfoljgaiincdaaDoor
open Go.RowKit Go.Fld Go.Sx
set_option linter.unusedVariables false
set_option linter.unusedSimpArgs false
theorem enc_of_dec {w : Int} {s : Slt} (h : decS w = some s) : encS s = some w := by
  unfold decS at h
  split at h
  · rename_i hh
    simp only [Option.some.injEq] at h
    rw [← h]; exact hh
  · cases h
theorem dec_of_enc {w : Int} {s : Slt} (h : encS s = some w) : decS w = some s := by
  have h1 := (dec_enc s w h).1
  unfold decS
  rw [h1, if_pos h]
theorem facts_of_enc {w : Int} {s : Slt} (h : encS s = some w) : Facts s := by
  rw [encS_eq] at h
  unfold encR at h
  split at h
  · rename_i hr; exact right_facts.1 hr
  · cases h
theorem dec_facts {w : Int} {s : Slt} (h : decS w = some s) : Facts s := facts_of_enc (enc_of_dec h)
theorem enc_facts {s : Slt} (h : Facts s) : ∃ w, encS s = some w ∧ decS w = some s := by
  have hr := right_facts.2 h
  have e : encS s = some (sumS s) := by rw [encS_eq]; unfold encR; rw [if_pos hr]
  exact ⟨_, e, dec_of_enc e⟩
theorem next_facts {s t : Slt} {k own more : Int} (h : nextS s k own more = some t) : Facts t ∧ t.ver = (s.ver + 1) % 32768 := by
  obtain ⟨F, h0, h1, r, hr, rfl⟩ := next_some h
  have := F.ver
  exact ⟨row_facts F h0 h1 hr _ (by omega) (by omega), rfl⟩
/-- A word behind a step. -/
theorem aft_some {w w' k own more : Int} (h : aftS decS w k own more = some w') : ∃ s t, decS w = some s ∧ nextS s k own more = some t ∧ decS w' = some t := by
  unfold aftS at h
  cases hd : decS w with
  | none => rw [hd] at h; cases h
  | some s =>
    rw [hd] at h
    simp only [Option.bind_some] at h
    cases hn : nextS s k own more with
    | none => rw [hn] at h; cases h
    | some t =>
      rw [hn] at h
      simp only [Option.bind_some] at h
      exact ⟨s, t, rfl, hn, dec_of_enc h⟩
theorem aft_of {w : Int} {s t : Slt} {k own more : Int} (h1 : decS w = some s) (h2 : nextS s k own more = some t) : ∃ w', aftS decS w k own more = some w' ∧ decS w' = some t := by
  obtain ⟨w', h3, h4⟩ := enc_facts (next_facts h2).1
  refine ⟨w', ?_, h4⟩
  unfold aftS
  rw [h1]
  simp only [Option.bind_some]
  rw [h2]
  exact h3
theorem aft_none {w : Int} {s : Slt} {k own more : Int} (h1 : decS w = some s) (h2 : nextS s k own more = none) : aftS decS w k own more = none := by
  unfold aftS
  rw [h1]
  simp only [Option.bind_some]
  rw [h2]; rfl
theorem dec_inj {w w' : Int} {s : Slt} (h : decS w = some s) (h' : decS w' = some s) : w = w' := by
  have e1 := enc_of_dec h
  have e2 := enc_of_dec h'
  rw [e1] at e2
  exact Option.some.inj e2
theorem dec_ne {w w' : Int} {s t : Slt} (h : decS w = some s) (h' : decS w' = some t) (hv : s.ver ≠ t.ver) : w ≠ w' := fun e => by
  subst e
  rw [h] at h'
  cases h'
  exact hv rfl
/-- Retire, Age. -/
theorem next_retire {s : Slt} {more : Int} (F : Facts s) (m0 : 0 ≤ more) (m1 : more ≤ 4095) : nextS s 11 0 more = if s.st = 2 ∨ s.st = 3 then some ⟨6, 0, 0, false, false, 0, s.gen, more, (s.ver + 1) % 32768⟩ else none := by
  rw [next_of F (by decide) (by decide)]
  unfold rowS row11
  simp only [show ¬ (11 : Int) = 0 by decide, show ¬ (11 : Int) = 1 by decide, show ¬ (11 : Int) = 2 by decide, show ¬ (11 : Int) = 3 by decide, show ¬ (11 : Int) = 4 by decide, show ¬ (11 : Int) = 5 by decide, show ¬ (11 : Int) = 6 by decide, show ¬ (11 : Int) = 7 by decide, show ¬ (11 : Int) = 8 by decide, show ¬ (11 : Int) = 9 by decide, show ¬ (11 : Int) = 10 by decide, if_false, if_true]
  by_cases h : s.st = 2 ∨ s.st = 3
  · rw [if_pos ⟨h, m0, m1⟩, if_pos h]; rfl
  · rw [if_neg (fun hh => h hh.1), if_neg h]; rfl
theorem next_age {s : Slt} {more : Int} (F : Facts s) (m0 : 0 ≤ more) (m1 : more ≤ 4095) : nextS s 17 0 more = if s.st = 6 then some { s with ep := more, ver := (s.ver + 1) % 32768 } else none := by
  rw [next_of F (by decide) (by decide)]
  unfold rowS row17
  simp only [show ¬ (17 : Int) = 0 by decide, show ¬ (17 : Int) = 1 by decide, show ¬ (17 : Int) = 2 by decide, show ¬ (17 : Int) = 3 by decide, show ¬ (17 : Int) = 4 by decide, show ¬ (17 : Int) = 5 by decide, show ¬ (17 : Int) = 6 by decide, show ¬ (17 : Int) = 7 by decide, show ¬ (17 : Int) = 8 by decide, show ¬ (17 : Int) = 9 by decide, show ¬ (17 : Int) = 10 by decide, show ¬ (17 : Int) = 11 by decide, show ¬ (17 : Int) = 12 by decide, show ¬ (17 : Int) = 13 by decide, show ¬ (17 : Int) = 14 by decide, show ¬ (17 : Int) = 15 by decide, show ¬ (17 : Int) = 16 by decide, if_false, if_true]
  by_cases h : s.st = 6
  · rw [if_pos ⟨h, m0, m1⟩, if_pos h]; rfl
  · rw [if_neg (fun hh => h hh.1), if_neg h]; rfl
end Go.Proofs.YthfoljgaiincdaaDoor
