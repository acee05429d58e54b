import Derived.Test.YtljgocfmmdpdfaaRefFieldA
namespace Go.Proofs.Ytljgocfmmdpdfaa
open Go.RowKit Go.Fld
set_option linter.unusedVariables false
attribute [local go_sem ↓] Go.wp_at_zero Go.wp_at_succ

theorem pairsOf_cons (a : Int × Int) (l : List (Int × Int)) : pairsOf (a :: l) = l.map (fun g => (a, g)) ++ pairsOf l := by
  unfold pairsOf
  rw [List.length_cons, List.range_succ_eq_map, List.flatMap_cons, List.flatMap_map]
  simp
theorem pairs_all (P : (Int × Int) × (Int × Int) → Bool) : ∀ l : List (Int × Int), (pairsOf l).all P = true ↔ l.Pairwise fun f g => P (f, g) = true
  | [] => by simp [pairsOf]
  | a :: l => by
    rw [pairsOf_cons, List.all_append, Bool.and_eq_true, pairs_all P l, List.pairwise_cons, List.all_map, List.all_eq_true]
    simp
theorem apartB_iff (l : List (Int × Int)) : apartB l = true ↔ (∀ f ∈ l, rightB f.1 f.2 = true) ∧ l.Pairwise fun f g => meetB (f, g) = false := by
  unfold apartB
  rw [Bool.and_eq_true, pairs_all]
  unfold allRight
  rw [List.all_eq_true]
  simp

/-- Field f takes bit k. -/
def cov (f : Int × Int) (k : Nat) : Bool := decide (f.1.toNat ≤ k ∧ k < f.1.toNat + f.2.toNat)
theorem bitZ_getZ (w : Int) (b e k : Nat) (h1 : b ≤ k) (h2 : k < b + e) : bitZ (getZ w b e) (k - b) = bitZ w k := by
  have e1 : bitZ w k = getZ (w / 2 ^ b) (k - b) 1 := by
    unfold bitZ getZ
    rw [← ediv_pow_add, show b + (k - b) = k by omega]
    rfl
  have e2 : ∀ y : Int, bitZ y (k - b) = getZ y (k - b) 1 := fun y => rfl
  rw [e1, e2, getZ_eq_mod, getZ_eq_mod (w / 2 ^ b)]
  unfold getZ
  rw [Int.emod_emod_of_dvd _ (pow_dvd (by omega))]
theorem bitZ_ones (d j : Nat) (h : j < d) : bitZ (2 ^ d - 1) j = 1 := by
  rw [← getZ_neg1 0 d]
  have := bitZ_getZ (-1) 0 d j (by omega) (by omega)
  rw [Nat.sub_zero] at this
  rw [this]
  unfold bitZ
  have h1 : (-1 : Int) / 2 ^ j = -1 := by
    have := two_pow_pos' j
    rw [Int.ediv_eq_iff_of_pos this]
    omega
  rw [h1]; rfl
theorem bitZ_zero (j : Nat) : bitZ 0 j = 0 := by unfold bitZ; simp
theorem mask_put (a d : Nat) : ((2 : Int) ^ d - 1) * 2 ^ a = putZ 0 a d (2 ^ d - 1) := by
  have hp := two_pow_pos' d
  have : ((2 : Int) ^ d - 1) % 2 ^ d = 2 ^ d - 1 := Int.emod_eq_of_lt (by omega) (by omega)
  unfold putZ
  rw [this]
  simp [getZ]
theorem mul_pow_zero {x : Int} {a : Nat} (h : x * 2 ^ a = 0) : x = 0 := by
  have := two_pow_pos' a
  rcases Int.mul_eq_zero.1 h with h | h
  · exact h
  · omega
theorem meet_far {f g : Int × Int} (hf : rightB f.1 f.2 = true) (hg : rightB g.1 g.2 = true) : meetB (f, g) = false ↔ (f.1.toNat + f.2.toNat ≤ g.1.toNat ∨ g.1.toNat + g.2.toNat ≤ f.1.toNat) := by
  have h1 := rightB_t.1 hf
  have h2 := rightB_t.1 hg
  have hd : ((2 : Int) ^ f.2.toNat - 1) % 2 ^ f.2.toNat = 2 ^ f.2.toNat - 1 := by
    have hp := two_pow_pos' f.2.toNat
    exact Int.emod_eq_of_lt (by omega) (by omega)
  unfold meetB maskZ
  show (bits .and .i64 ((2 ^ f.2.toNat - 1) * 2 ^ f.1.toNat) ((2 ^ g.2.toNat - 1) * 2 ^ g.1.toNat) != 0) = false ↔ _
  rw [bne_eq_false_iff_eq, and_shifted _ _ _ (by omega), mask_put f.1.toNat]
  constructor
  · intro h0
    have h3 := mul_pow_zero h0
    rcases Nat.lt_or_ge (max f.1.toNat g.1.toNat) (min (f.1.toNat + f.2.toNat) (g.1.toNat + g.2.toNat)) with hk | hk
    · exfalso
      obtain ⟨k, hk'⟩ : ∃ k, k = max f.1.toNat g.1.toNat := ⟨_, rfl⟩
      have e1 := bitZ_getZ (putZ 0 f.1.toNat f.2.toNat (2 ^ f.2.toNat - 1)) g.1.toNat g.2.toNat k (by omega) (by omega)
      have e2 := bitZ_getZ (putZ 0 f.1.toNat f.2.toNat (2 ^ f.2.toNat - 1)) f.1.toNat f.2.toNat k (by omega) (by omega)
      rw [h3, bitZ_zero] at e1
      rw [get_put, hd, bitZ_ones _ _ (by omega), ← e1] at e2
      omega
    · omega
  · intro h0
    rw [get_put_far _ _ _ _ _ _ (by omega)]
    simp [getZ]
theorem meet_comm (f g : Int × Int) : meetB (f, g) = meetB (g, f) := by
  unfold meetB
  have : bits .and .i64 (maskZ f) (maskZ g) = bits .and .i64 (maskZ g) (maskZ f) := by rw [and_bv, and_bv, BitVec.and_comm]
  simp only [this]
theorem apart_perm {l m : List (Int × Int)} (h : l.Perm m) : apartB l = apartB m := by
  rw [Bool.eq_iff_iff, apartB_iff, apartB_iff]
  have h1 : l.Pairwise (fun f g => meetB (f, g) = false) ↔ m.Pairwise fun f g => meetB (f, g) = false :=
    h.pairwise_iff (fun {x y} e => by rw [meet_comm]; exact e)
  rw [h1]
  constructor
  · rintro ⟨a, b⟩; exact ⟨fun f hf => a f (h.mem_iff.2 hf), b⟩
  · rintro ⟨a, b⟩; exact ⟨fun f hf => a f (h.mem_iff.1 hf), b⟩

/-- The reference's table: which bits are told. -/
def seenA (p : Nat → Bool) : Array Value := Array.ofFn (n := 62) fun j => Value.bool (p j.1)
theorem seenA_get (p : Nat → Bool) {k : Nat} (h : k < 62) : (seenA p)[k]? = some (.bool (p k)) := by simp [seenA, h]
theorem seenA_set (p : Nat → Bool) (k : Nat) : (seenA p).setIfInBounds k (.bool true) = seenA fun j => p j || j == k := by
  apply Array.ext
  · simp [seenA]
  · intro i h1 h2
    simp only [seenA, Array.size_ofFn] at h2
    rw [Array.getElem_setIfInBounds (by simpa [seenA] using h2)]
    simp only [seenA, Array.getElem_ofFn]
    by_cases h : k = i
    · subst h; simp
    · rw [if_neg h]
      have : (i == k) = false := by simp; omega
      rw [this, Bool.or_false]
theorem seenA_congr {p q : Nat → Bool} (h : ∀ k, k < 62 → p k = q k) : seenA p = seenA q := by
  unfold seenA
  congr 1
  funext j
  rw [h j.1 j.2]
theorem made_seen : (Array.replicate 62 (Value.bool false)) = seenA fun _ => false := by
  apply Array.ext
  · simp [seenA]
  · intro i h1 h2; simp [seenA]

def disjL (l : List (Int × Int)) : Prop := (∀ f ∈ l, rightB f.1 f.2 = true) ∧ l.Pairwise fun f g => meetB (f, g) = false
theorem disjL_snoc {l : List (Int × Int)} {f : Int × Int} : disjL (l ++ [f]) ↔ disjL l ∧ rightB f.1 f.2 = true ∧ ∀ g ∈ l, meetB (g, f) = false := by
  unfold disjL
  rw [List.pairwise_append]
  simp only [List.mem_append, List.mem_singleton, List.pairwise_cons, List.Pairwise.nil]
  constructor
  · rintro ⟨a, b, _, c⟩
    exact ⟨⟨fun g hg => a g (.inl hg), b⟩, a f (.inr rfl), fun g hg => c g hg f rfl⟩
  · rintro ⟨⟨a, b⟩, c, d⟩
    exact ⟨fun g hg => hg.elim (a g) (fun e => e ▸ c), b, by simp, fun g hg h e => e ▸ d g hg⟩
/-- Field f takes a bit that a field of l takes: they are not apart. -/
theorem not_disj {l : List (Int × Int)} {f : Int × Int} (hl : disjL l) (hf : rightB f.1 f.2 = true) {k : Nat} (h1 : f.1.toNat ≤ k) (h2 : k < f.1.toNat + f.2.toNat) (h : l.any (fun g => cov g k) = true) : ¬ disjL (l ++ [f]) := by
  rw [disjL_snoc]
  rintro ⟨_, _, h3⟩
  rw [List.any_eq_true] at h
  obtain ⟨g, hg, hk⟩ := h
  have := (meet_far (hl.1 g hg) hf).1 (h3 g hg)
  unfold cov at hk
  simp at hk
  omega
theorem disj_of {l : List (Int × Int)} {f : Int × Int} (hl : disjL l) (hf : rightB f.1 f.2 = true) (h : ∀ k, f.1.toNat ≤ k → k < f.1.toNat + f.2.toNat → l.any (fun g => cov g k) = false) : disjL (l ++ [f]) := by
  rw [disjL_snoc]
  refine ⟨hl, hf, fun g hg => (meet_far (hl.1 g hg) hf).2 ?_⟩
  rcases Nat.lt_or_ge (max f.1.toNat g.1.toNat) (min (f.1.toNat + f.2.toNat) (g.1.toNat + g.2.toNat)) with hk | hk
  · have := h (max f.1.toNat g.1.toNat) (by omega) (by omega)
    rw [List.any_eq_false] at this
    exfalso
    apply this g hg
    unfold cov
    simp
    omega
  · have h1 := rightB_t.1 hf
    have h2 := rightB_t.1 (hl.1 g hg)
    omega
theorem disj_take {l : List (Int × Int)} {n : Nat} (h : disjL l) : disjL (l.take n) :=
  ⟨fun f hf => h.1 f (List.mem_of_mem_take hf), h.2.sublist (List.take_sublist _ _)⟩
end Go.Proofs.Ytljgocfmmdpdfaa
