import Derived.Test.YtljgocfmmdpdfaaFieldPartsW
namespace Go.Proofs.Ytljgocfmmdpdfaa
open Go.RowKit Go.Fld
set_option linter.unusedVariables false
attribute [local go_sem ↓] Go.wp_at_zero Go.wp_at_succ

theorem Try.info23 : (Try.prog.info? 23).map (fun i => (i.zero, i.size, i.bytes)) = some (some (.agg #[.int .i64 0, .int .i64 0]), 2, 16) := by kernel_rfl

/-- v is a slice of the fields xs. -/
def SliceF (w : World) (v : Value) (xs : List (Int × Int)) : Prop := ∃ A cap, v = .slice A xs.length cap ∧ xs.length ≤ cap ∧ RowAt encF 2 w w.heap.size A xs
theorem flat_get {α : Type} (enc : α → List Value) (size : Nat) (hs : ∀ x, (enc x).length = size) : ∀ (xs : List α) (k j : Nat) (x : α) (u : Value), xs[k]? = some x → (enc x)[j]? = some u → (xs.flatMap enc)[k * size + j]? = some u
  | [], k, j, x, u, hx, _ => by simp at hx
  | y :: r, 0, j, x, u, hx, hu => by
    simp at hx; subst hx
    have hj : j < (enc y).length := (List.getElem?_eq_some_iff.1 hu).1
    rw [List.flatMap_cons, Nat.zero_mul, Nat.zero_add, List.getElem?_append_left hj]
    exact hu
  | y :: r, k + 1, j, x, u, hx, hu => by
    simp at hx
    have := flat_get enc size hs r k j x u hx hu
    rw [List.flatMap_cons, List.getElem?_append_right (by rw [hs, Nat.add_mul]; omega), hs]
    rw [show (k + 1) * size + j - size = k * size + j by rw [Nat.add_mul]; omega]
    exact this
/-- A row of the call's own, of elements of whatever size, reads. -/
theorem rowAt_own {α : Type} {enc : α → List Value} {size : Nat} (hs : ∀ x, (enc x).length = size) {w : World} {base : Nat} {e : TypeId} {v : Value} {xs : List α} (h : w.ownsRow base e size v xs.length (xs.flatMap enc)) :
    ∃ A cap, v = .slice A xs.length cap ∧ xs.length ≤ cap ∧ RowAt enc size w w.heap.size A xs := by
  rcases h.2 with ⟨rfl, h0⟩ | ⟨g, cap, cur, rfl, hg, hh, hc, _, hsz, htake⟩
  · obtain rfl : xs = [] := List.eq_nil_of_length_eq_zero h0
    exact ⟨none, 0, rfl, Nat.le_refl _, fun h => absurd rfl h⟩
  · refine ⟨_, cap, rfl, hc, fun _ => ⟨g, 0, rfl, (Array.getElem?_eq_some_iff.1 hh).1, fun k x hx j u hu => ?_⟩⟩
    have h1 := flat_get enc size hs xs k j x u hx hu
    have hlt := (List.getElem?_eq_some_iff.1 h1).1
    have hfl : (xs.flatMap enc).length = xs.length * size := h.1
    rw [← htake, List.getElem?_take_of_lt (by omega)] at h1
    simp only [World.cell?, hh]
    simp
    rw [← h1]; simp
theorem encF_len (x : Int × Int) : (encF x).length = 2 := rfl
theorem encI_len (x : Int) : (encI x).length = 1 := rfl

/-- The first k of a list turned round by r. -/
def turnTo {α : Type} (xs : List α) (r k : Nat) : List α := (xs.drop r ++ xs.take r).take k
theorem turn_at {α : Type} (xs : List α) (by_ k : Nat) (hk : k < xs.length) : ∃ h : (k + by_) % xs.length < xs.length, turnTo xs (by_ % xs.length) (k + 1) = turnTo xs (by_ % xs.length) k ++ [xs[(k + by_) % xs.length]] := by
  have hpos : 0 < xs.length := by omega
  refine ⟨Nat.mod_lt _ hpos, ?_⟩
  have hr : by_ % xs.length < xs.length := Nat.mod_lt _ hpos
  have hm : (k + by_) % xs.length = (k + by_ % xs.length) % xs.length := by rw [Nat.add_mod_mod]
  have hm2 : (k + by_ % xs.length) % xs.length = if k + by_ % xs.length < xs.length then k + by_ % xs.length else k + by_ % xs.length - xs.length := by
    split
    · rename_i h; exact Nat.mod_eq_of_lt h
    · rename_i h; rw [Nat.mod_eq_sub_mod (by omega)]; exact Nat.mod_eq_of_lt (by omega)
  simp only [hm]
  generalize by_ % xs.length = r at *
  unfold turnTo
  rw [List.take_succ_eq_append_getElem (by simp; omega)]
  congr 2
  rw [List.getElem_append]
  split
  · rename_i h
    rw [List.length_drop] at h
    rw [List.getElem_drop]
    congr 1
    rw [hm2, if_pos (by omega)]
    omega
  · rename_i h
    rw [List.length_drop] at h
    rw [List.getElem_take]
    congr 1
    rw [List.length_drop, hm2, if_neg (by omega)]
    omega
theorem turnTo_len {α : Type} (xs : List α) (r k : Nat) (hk : k ≤ xs.length) : (turnTo xs r k).length = k := by unfold turnTo; simp; omega
theorem turnTo_all {α : Type} (xs : List α) (r : Nat) : turnTo xs r xs.length = xs.drop r ++ xs.take r := by
  unfold turnTo; rw [List.take_of_length_le (by simp; omega)]
end Go.Proofs.Ytljgocfmmdpdfaa
