
import Derived.Test.YthfoljgaiincdaaDoorSlotA
namespace Go.Proofs.YthfoljgaiincdaaDoor
open Go.RowKit Go.Fld
set_option linter.unusedVariables false
def seq (s t : Slt) : Bool := decide (s = t)
theorem slot_equal (a b c : Int) (d e : Bool) (f g h i a' b' c' : Int) (d' e' : Bool) (f' g' h' i' : Int) (w : World) :
   (Op.equalIn 10000 49 (.agg #[.int .i64 a, .int .i64 b, .int .i64 c, .bool d, .bool e, .int .i64 f, .int .i64 g, .int .i64 h, .int .i64 i]) (.agg #[.int .i64 a', .int .i64 b', .int .i64 c', .bool d', .bool e', .int .i64 f', .int .i64 g', .int .i64 h', .int .i64 i'])).run Tryd.prog w = .ok (seq ⟨a, b, c, d, e, f, g, h, i⟩ ⟨a', b', c', d', e', f', g', h', i'⟩) w := by
  have key : seq ⟨a, b, c, d, e, f, g, h, i⟩ ⟨a', b', c', d', e', f', g', h', i'⟩ = (a == a' && b == b' && c == c' && d == d' && e == e' && f == f' && g == g' && h == h' && i == i') := by
    unfold seq
    rw [Bool.eq_iff_iff]
    simp [and_assoc]
  rw [key]
  go_simp
  by_cases h1 : a = a' <;> simp [h1]
  by_cases h2 : b = b' <;> simp [h2]
  by_cases h3 : c = c' <;> simp [h3]
  by_cases h4 : d = d' <;> simp [h4]
  by_cases h5 : e = e' <;> simp [h5]
  by_cases h6 : f = f' <;> simp [h6]
  by_cases h7 : g = g' <;> simp [h7]
  by_cases h8 : h = h' <;> simp [h8]
  by_cases h9 : i = i' <;> simp [h9]
end Go.Proofs.YthfoljgaiincdaaDoor
