
import Derived.Test.YthfoljgaiincdaaDoorSlotPL
namespace Go.Proofs.YthfoljgaiincdaaDoor
open Go.RowKit Go.Fld
set_option linter.unusedVariables false
theorem raw_eq (x : Int) (h0 : 0 ≤ x) (h1 : x ≤ 9223372036854775807) : rawS x = { rawR x with ver := x / 140737488355328 % 32768 } := by
  unfold rawS rawR
  simp [getZ]
theorem dec_enc (s : Slt) (x : Int) (h : encS s = some x) : rawS x = s ∧ 0 ≤ x ∧ x < 4611686018427387904 := by
  have hr : rightR s = true := by
    rw [encS_eq] at h; unfold encR at h; split at h
    · assumption
    · cases h
  have hp : packZ fieldsL (numsL s) = some x := by
    unfold encS at h; split at h
    · cases h
    · exact h
  have hparts := parts_pack hp
  refine ⟨?_, pack_bd hp⟩
  have e : partsZ x fieldsL = [getZ x 0 3, getZ x 3 4, getZ x 7 8, getZ x 15 1, getZ x 16 1, getZ x 17 6, getZ x 23 12, getZ x 35 12, getZ x 47 15] := rfl
  rw [e] at hparts
  obtain ⟨a, b, c, d, e, f, g, h, i⟩ := s
  simp [numsL] at hparts
  obtain ⟨h1, h2, h3, h4, h5, h6, h7, h8, h9⟩ := hparts
  unfold rawS
  rw [h1, h2, h3, h4, h5, h6, h7, h8, h9]
  cases d <;> cases e <;> rfl
theorem bit_if (n : Int) (k : Int) : (if (n % 2 == 1) = true then k else 0) = k * (n % 2) := by
  rcases (show n % 2 = 0 ∨ n % 2 = 1 by omega) with h | h <;> simp [h]
theorem sum_raw (x : Int) (h0 : 0 ≤ x) : sumS (rawR x) = x := by
  have e : sumS (rawR x) = x % 8 + 8 * (x / 8 % 16) + 128 * (x / 128 % 256) + 131072 * (x / 131072 % 64) + 8388608 * (x / 8388608 % 4096) + 34359738368 * (x / 34359738368 % 4096) + 140737488355328 * (x / 140737488355328) + (if (x / 32768 % 2 == 1) = true then 32768 else 0) + (if (x / 65536 % 2 == 1) = true then 65536 else 0) := rfl
  rw [e, bit_if, bit_if]
  omega
theorem dec_eq (x : Int) (h1 : x ≤ 9223372036854775807) : decS x = decQ x := by
  by_cases h0 : x < 0
  · unfold decQ decS
    rw [if_pos h0, if_neg]
    intro h
    have := (dec_enc _ _ h).2
    omega
  · have h0' : 0 ≤ x := by omega
    by_cases hb : x < 4611686018427387904
    · have hr : rawS x = rawR x := by
        rw [raw_eq x h0' h1]
        have : x / 140737488355328 % 32768 = x / 140737488355328 := by omega
        rw [this]; rfl
      unfold decQ decS
      rw [if_neg h0, hr, encS_eq]
      unfold encR
      rw [sum_raw x h0']
      by_cases h : rightR (rawR x) = true
      · rw [if_pos h, if_pos rfl, if_pos h]
      · rw [if_neg h, if_neg (by simp), if_neg h]
    · have hn : rightR (rawR x) = false := by
        have : fr (rawR x).ver 32767 = false := by
          have hv : (rawR x).ver = x / 140737488355328 := rfl
          rw [hv]; unfold fr
          rw [decide_eq_false (p := x / 140737488355328 ≤ 32767) (by omega)]; simp
        unfold rightR; rw [this]; simp
      unfold decQ decS
      rw [if_neg h0, hn, if_neg]
      · rfl
      · intro h
        have := (dec_enc _ _ h).2
        omega
end Go.Proofs.YthfoljgaiincdaaDoor
