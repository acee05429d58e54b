
/- What becomes of a slot, in plain words. No condition of its own. -/
import Derived.Test.YthfoljgaiincdaaDoorSlotOrc
namespace Go.Proofs.YthfoljgaiincdaaDoor
open Go.RowKit Go.Fld Go.Sx
set_option linter.unusedVariables false
/-- The lowest bit that a number up to 255 hasn't. -/
def lowI (n : Int) : Int := if n % 2 ≠ 1 then 0 else if n / 2 % 2 ≠ 1 then 1 else if n / 4 % 2 ≠ 1 then 2 else if n / 8 % 2 ≠ 1 then 3 else if n / 16 % 2 ≠ 1 then 4 else if n / 32 % 2 ≠ 1 then 5 else if n / 64 % 2 ≠ 1 then 6 else if n / 128 % 2 ≠ 1 then 7 else 8
def in255 (n : Int) : Bool := decide (0 ≤ n) && decide (n ≤ 255)
def in8 (n : Int) : Bool := decide (0 ≤ n) && decide (n ≤ 8)
/-- A slot at a state, with but its Gen and Version. -/
def plainS (s : Slt) (st own : Int) : Slt := ⟨st, own, 0, false, false, 0, s.gen, 0, s.ver⟩
def leasedS (s : Slt) (own : Int) : Slt := ⟨3, own, 0, s.brk, false, if 63 < s.uses + 1 then 63 else s.uses + 1, (s.gen + 1) % 4096, 0, s.ver⟩
def row0 (s : Slt) (own : Int) : Option Slt := if s.st = 0 then some (plainS s 1 own) else none
def row1 (s : Slt) (own : Int) : Option Slt := if s.st = 1 ∧ s.own = own then some (leasedS (plainS s 1 own) own) else none
def row2 (s : Slt) (own : Int) : Option Slt := if s.st = 1 ∧ s.own = own then some (plainS s 0 0) else none
def row3 (s : Slt) (own : Int) : Option Slt := if s.st = 2 ∧ s.brk = false then some (leasedS s own) else none
def row4 (s : Slt) (own : Int) : Option Slt := if s.st = 3 ∧ s.own = own ∧ s.str = 0 then some { s with st := 2 } else none
def row5 (s : Slt) (own : Int) : Option Slt := if s.st = 2 ∧ s.brk = false then some { s with st := 4, own := own, mrk := false } else none
def row6 (s : Slt) (own : Int) : Option Slt := if s.st = 4 then some { s with st := 2, own := own } else none
def row7 (s : Slt) (own : Int) : Option Slt := if s.st = 0 then some (plainS s 5 own) else none
def row8 (s : Slt) : Option Slt := if s.st = 5 then some (plainS s 0 0) else none
def row9 (s : Slt) (own : Int) : Option Slt := if s.st = 2 then some { s with own := own } else none
def row10 (s : Slt) : Option Slt := if s.st = 2 ∧ s.mrk = false then some { s with mrk := true } else none
def row11 (s : Slt) (more : Int) : Option Slt := if (s.st = 2 ∨ s.st = 3) ∧ 0 ≤ more ∧ more ≤ 4095 then some { plainS s 6 0 with ep := more } else none
def row12 (s : Slt) : Option Slt := if s.st = 6 then some (plainS s 0 0) else none
def row13 (s : Slt) : Option Slt := if (s.st = 2 ∨ s.st = 3 ∨ s.st = 4) ∧ s.brk = false then some { s with brk := true } else none
def row14 (s : Slt) (own more : Int) : Option Slt := if s.st = 3 ∧ s.own = own ∧ s.brk = false ∧ lowI s.str < more ∧ lowI s.str < 8 then some { s with str := s.str + 2 ^ (lowI s.str).toNat } else none
def row15 (s : Slt) (own more : Int) : Option Slt := if s.st = 3 ∧ s.own = own ∧ 0 ≤ more ∧ more ≤ 7 ∧ s.str / 2 ^ more.toNat % 2 = 1 then some { s with str := s.str - 2 ^ more.toNat } else none
def row16 (s : Slt) (own : Int) : Option Slt := if s.st = 4 ∧ s.own = own then some (leasedS s own) else if s.st = 5 ∧ s.own = own then some (plainS s 1 own) else none
def row17 (s : Slt) (more : Int) : Option Slt := if s.st = 6 ∧ 0 ≤ more ∧ more ≤ 4095 then some { s with ep := more } else none
def rowS (s : Slt) (k own more : Int) : Option Slt :=
  if k = 0 then row0 s own else if k = 1 then row1 s own else if k = 2 then row2 s own else if k = 3 then row3 s own else if k = 4 then row4 s own else if k = 5 then row5 s own else
  if k = 6 then row6 s own else if k = 7 then row7 s own else if k = 8 then row8 s else if k = 9 then row9 s own else if k = 10 then row10 s else if k = 11 then row11 s more else
  if k = 12 then row12 s else if k = 13 then row13 s else if k = 14 then row14 s own more else if k = 15 then row15 s own more else if k = 16 then row16 s own else if k = 17 then row17 s more else none
/-- What becomes of a slot. -/
def nextS (s : Slt) (k own more : Int) : Option Slt :=
  if rightR s = true ∧ 0 ≤ own ∧ own ≤ 15 then (rowS s k own more).map fun t => { t with ver := (s.ver + 1) % 32768 } else none

/-- What a right slot has. -/
structure Facts (s : Slt) : Prop where
  st : 0 ≤ s.st ∧ s.st ≤ 6
  own : 0 ≤ s.own ∧ s.own ≤ 15
  str : 0 ≤ s.str ∧ s.str ≤ 255
  uses : 0 ≤ s.uses ∧ s.uses ≤ 63
  gen : 0 ≤ s.gen ∧ s.gen ≤ 4095
  ep : 0 ≤ s.ep ∧ s.ep ≤ 4095
  ver : 0 ≤ s.ver ∧ s.ver ≤ 32767
  str3 : s.str = 0 ∨ s.st = 3
  brk : s.brk = false ∨ s.st = 2 ∨ s.st = 3 ∨ s.st = 4
  uses0 : s.uses = 0 ∨ s.st = 2 ∨ s.st = 3 ∨ s.st = 4
  mrk : s.mrk = false ∨ s.st = 2
  ep0 : s.ep = 0 ∨ s.st = 6
  own0 : s.own = 0 ∨ 0 < s.st ∧ s.st < 6
theorem right_facts {s : Slt} : rightR s = true ↔ Facts s := by
  obtain ⟨a, b, c, d, e, f, g, h, i⟩ := s
  constructor
  · intro hr
    simp only [rightR, livesS, fr, Bool.and_eq_true, decide_eq_true_eq, Bool.not_eq_true', Bool.or_eq_false_iff, Bool.or_eq_true, beq_iff_eq] at hr
    obtain ⟨⟨⟨⟨⟨⟨⟨⟨h1, h2⟩, h3⟩, h4⟩, h5⟩, h6⟩, h7⟩, ⟨⟨h8, h9⟩, h10⟩, h11⟩, h12, h13⟩ := hr
    refine ⟨h1, h2, h3, h4, h5, h6, h7, ?_, ?_, ?_, ?_, h12, h13⟩
    · show c = 0 ∨ a = 3
      by_cases h3' : a = 3
      · exact .inr h3'
      · left; simp [h3'] at h8; have : 0 ≤ c := h3.1; omega
    · cases d
      · exact .inl rfl
      · right
        by_cases hl : a = 2 ∨ a = 3 ∨ a = 4
        · exact hl
        · have q : (a == 2 || a == 3 || a == 4) = false := by
            rw [Bool.eq_false_iff]; intro hq; simp [or_assoc] at hq; exact hl hq
          rw [q] at h9; cases h9
    · show f = 0 ∨ a = 2 ∨ a = 3 ∨ a = 4
      by_cases hl : a = 2 ∨ a = 3 ∨ a = 4
      · exact .inr hl
      · left
        have q : (a == 2 || a == 3 || a == 4) = false := by
          rw [Bool.eq_false_iff]; intro hq; simp [or_assoc] at hq; exact hl hq
        rw [q] at h10; simp at h10; have : 0 ≤ f := h4.1; omega
    · cases e
      · exact .inl rfl
      · right; simpa using h11
  · rintro ⟨h1, h2, h3, h4, h5, h6, h7, h8, h9, h10, h11, h12, h13⟩
    simp only at h1 h2 h3 h4 h5 h6 h7 h8 h9 h10 h11 h12 h13
    simp only [rightR, livesS, fr, Bool.and_eq_true, decide_eq_true_eq, Bool.not_eq_true', Bool.or_eq_false_iff, Bool.or_eq_true, beq_iff_eq]
    refine ⟨⟨⟨⟨⟨⟨⟨⟨h1, h2⟩, h3⟩, h4⟩, h5⟩, h6⟩, h7⟩, ⟨⟨?_, ?_⟩, ?_⟩, ?_⟩, h12, h13⟩
    · rcases h8 with h | h <;> simp [h]
    · rcases h9 with h | h | h | h <;> simp [h]
    · rcases h10 with h | h | h | h <;> simp [h]
    · rcases h11 with h | h <;> simp [h]
theorem wrap_small {k : Int} (h0 : 0 ≤ k) (h1 : k < 9223372036854775808) : IntKind.i64.wrap k = k := by
  simp [IntKind.wrap, IntKind.signed, IntKind.bits]; omega
def yes (s : Slt) : Option Value := some (decR (some s))
def no : Option Value := some (decR none)
/-- The head that both have. -/
theorem next_pre {s : Slt} {k own more : Int} {X : Option Value} (h : Facts s → 0 ≤ own → own ≤ 15 → X = some (decR ((rowS s k own more).map fun t => { t with ver := (s.ver + 1) % 32768 }))) :
    (bif !rightR s then no else bif decide (own < 0) then no else bif decide (own > 15) then no else X) = some (decR (nextS s k own more)) := by
  unfold nextS
  cases hr : rightR s with
  | false => simp [no]
  | true =>
    by_cases h0 : own < 0
    · simp [h0, no, show ¬ 0 ≤ own by omega]
    · by_cases h1 : own > 15
      · simp [h0, h1, no, show ¬ own ≤ 15 by omega]
      · rw [if_pos ⟨rfl, by omega, by omega⟩]
        simp only [Bool.not_true, cond_false, decide_eq_false h0, decide_eq_false h1]
        exact h (right_facts.1 hr) (by omega) (by omega)
end Go.Proofs.YthfoljgaiincdaaDoor
