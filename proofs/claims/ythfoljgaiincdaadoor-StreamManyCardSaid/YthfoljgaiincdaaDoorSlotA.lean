
import Derived.Test.YthfoljgaiincdaaDoorFieldPlain
namespace Go.Proofs.YthfoljgaiincdaaDoor
open Go.RowKit Go.Fld
set_option linter.unusedVariables false
attribute [local go_sem ↓] Go.wp_at_zero Go.wp_at_succ

/-- A slot. -/
structure Slt where
  st : Int
  own : Int
  str : Int
  brk : Bool
  mrk : Bool
  uses : Int
  gen : Int
  ep : Int
  ver : Int
deriving DecidableEq
def Slt.val (s : Slt) : Value := .agg #[.int .i64 s.st, .int .i64 s.own, .int .i64 s.str, .bool s.brk, .bool s.mrk, .int .i64 s.uses, .int .i64 s.gen, .int .i64 s.ep, .int .i64 s.ver]
def Slt.zero : Slt := ⟨0, 0, 0, false, false, 0, 0, 0, 0⟩
/-- What a slot's State has. -/
def bareS (s : Slt) : Slt :=
  { s with
    str := if s.st = 3 then s.str else 0
    mrk := if s.st = 2 then s.mrk else false
    brk := if s.st = 2 ∨ s.st = 3 ∨ s.st = 4 then s.brk else false
    uses := if s.st = 2 ∨ s.st = 3 ∨ s.st = 4 then s.uses else 0
    ep := if s.st = 6 then s.ep else 0
    own := if s.st = 0 ∨ s.st = 6 then 0 else s.own }
def bitI (b : Bool) : Int := if b then 1 else 0
def fieldsL : List (Int × Int) := [(0, 3), (3, 4), (7, 8), (15, 1), (16, 1), (17, 6), (23, 12), (35, 12), (47, 15)]
def numsL (s : Slt) : List Int := [s.st, s.own, s.str, bitI s.brk, bitI s.mrk, s.uses, s.gen, s.ep, s.ver]
def encS (s : Slt) : Option Int := if 6 < s.st ∨ s ≠ bareS s then none else packZ fieldsL (numsL s)

theorem bit_any (b : Bool) (w : World) : Calls Tryd.prog 89 #[.bool b] w fun e w' => e = .returned (.int .i64 (bitI b)) ∧ w = w' := by
  cases b
  all_goals
    go_enter Tryd.func89, Tryd.ntmps89
    go_wp2
    go_ret
    exact ⟨rfl, rfl⟩

theorem bare_any (a b c : Int) (d e : Bool) (f g h i : Int) (w : World) :
    Calls Tryd.prog 87 #[.agg #[.int .i64 a, .int .i64 b, .int .i64 c, .bool d, .bool e, .int .i64 f, .int .i64 g, .int .i64 h, .int .i64 i]] w fun en w' => en = .returned (bareS ⟨a, b, c, d, e, f, g, h, i⟩).val ∧ Below w.heap.size w w' := by
  have hcases : a = 0 ∨ a = 2 ∨ a = 3 ∨ a = 4 ∨ a = 6 ∨ (a ≠ 0 ∧ a ≠ 2 ∧ a ≠ 3 ∧ a ≠ 4 ∧ a ≠ 6) := by omega
  rcases hcases with rfl | rfl | rfl | rfl | rfl | ⟨h0, h2, h3, h4, h6⟩
  case inr.inr.inr.inr.inr =>
    have q0 : (a == 0) = false := by simp [h0]
    have q6 : (a == 6) = false := by simp [h6]
    have q2 : (a != 2) = true := by simp [h2]
    have q3 : (a != 3) = true := by simp [h3]
    have q4 : (a != 4) = true := by simp [h4]
    have q6' : (a != 6) = true := by simp [h6]
    have hs : (bareS ⟨a, b, c, d, e, f, g, h, i⟩).val = .agg #[.int .i64 a, .int .i64 b, .int .i64 0, .bool false, .bool false, .int .i64 0, .int .i64 g, .int .i64 0, .int .i64 i] := by
      simp [bareS, Slt.val, h0, h2, h3, h4, h6]
    have HS := Lib.hid hs
    clear h0 h2 h3 h4 h6 hs
    go_enter Tryd.func87, Tryd.ntmps87
    go_wp2
    rw [HS.out]
    refine bodyPost_ret (v := .agg #[.int .i64 a, .int .i64 b, .int .i64 0, .bool false, .bool false, .int .i64 0, .int .i64 g, .int .i64 0, .int .i64 i]) (by simp [results, Tryd.f87, go_sem]) rfl ⟨rfl, ?_⟩
    repeat (first | exact Below.refl _ _ | refine Below.setCell ?_ (by simp) _ | refine Below.alloc ?_ (by simp <;> omega) _)
  all_goals
    go_enter Tryd.func87, Tryd.ntmps87
    go_wp2
    refine bodyPost_ret (v := (bareS ⟨_, b, c, d, e, f, g, h, i⟩).val) (by simp [results, Tryd.f87, go_sem, bareS, Slt.val]) rfl ⟨rfl, ?_⟩
    repeat (first | exact Below.refl _ _ | refine Below.setCell ?_ (by simp) _ | refine Below.alloc ?_ (by simp <;> omega) _)
end Go.Proofs.YthfoljgaiincdaaDoor
