
import Derived.Test.YthfoljgaiincdaaDoorSlotF
namespace Go.Proofs.YthfoljgaiincdaaDoor
open Go.RowKit Go.Fld
set_option linter.unusedVariables false
theorem fields_apart : apartB fieldsL = true := by decide +kernel
theorem okV_iff (f : Int × Int) (v : Int) : (okV (f, v) = true) = (0 ≤ v ∧ v ≤ 2 ^ f.2.toNat - 1) := by unfold okV; exact decide_eq_true_eq
theorem right_iff (s : Slt) : rightR s = true ↔ ¬(6 < s.st ∨ s ≠ bareS s) ∧ (fieldsL.zip (numsL s)).all okV = true := by
  obtain ⟨a, b, c, d, e, f, g, h, i⟩ := s
  have hc : a = 0 ∨ a = 1 ∨ a = 2 ∨ a = 3 ∨ a = 4 ∨ a = 5 ∨ a = 6 ∨ a < 0 ∨ 6 < a := by omega
  rcases hc with rfl | rfl | rfl | rfl | rfl | rfl | rfl | h0 | h6
  case inr.inr.inr.inr.inr.inr.inr.inl =>
    constructor
    · intro hr; simp [rightR, fr] at hr; omega
    · rintro ⟨_, hr⟩; simp [okV_iff, fieldsL, numsL] at hr; omega
  case inr.inr.inr.inr.inr.inr.inr.inr =>
    constructor
    · intro hr; simp [rightR, fr] at hr; omega
    · rintro ⟨hr, _⟩; exact absurd (Or.inl h6) hr
  all_goals
    cases d <;> cases e <;> simp [rightR, fr, livesS, bareS, okV_iff, fieldsL, numsL, bitI] <;> omega
theorem encS_eq (s : Slt) : encS s = encR s := by
  have hp : packZ fieldsL (numsL s) = if (fieldsL.zip (numsL s)).all okV then some (sumZ (fieldsL.zip (numsL s))) else none := by
    unfold packZ
    rw [if_pos ⟨rfl, fields_apart⟩, packGo_closed (zip_far (apart_far fields_apart))]
  have hs : sumZ (fieldsL.zip (numsL s)) = sumS s := by
    obtain ⟨a, b, c, d, e, f, g, h, i⟩ := s
    cases d <;> cases e <;> simp [fieldsL, numsL, sumZ, sumS, sumW, bitI] <;> omega
  unfold encS encR
  rw [hp, hs]
  have := right_iff s
  by_cases h1 : (6 < s.st ∨ s ≠ bareS s)
  · rw [if_pos h1]
    have : rightR s = false := by
      rw [Bool.eq_false_iff]; intro h; exact (this.1 h).1 h1
    rw [this]; rfl
  · rw [if_neg h1]
    by_cases h2 : (fieldsL.zip (numsL s)).all okV = true
    · rw [if_pos h2, if_pos (this.2 ⟨h1, h2⟩)]
    · rw [if_neg h2, if_neg (fun h => h2 (this.1 h).2)]
end Go.Proofs.YthfoljgaiincdaaDoor
