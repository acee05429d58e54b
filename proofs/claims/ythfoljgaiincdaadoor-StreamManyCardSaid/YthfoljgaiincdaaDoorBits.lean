
/- Plain laws: Go's bit operations on int as arithmetic over Int. -/
import Derived.IntWalk
namespace Go.Fld
open Go.RowKit Go.IntWalk

/-- An int64's range. -/
def I64 (x : Int) : Prop := -9223372036854775808 ≤ x ∧ x ≤ 9223372036854775807

theorem wrap_toNat (r : BitVec 64) : IntKind.i64.wrap (r.toNat : Int) = r.toInt := by
  have h := r.isLt
  rw [IntKind.wrap_i64, BitVec.toInt_eq_toNat_cond]
  split <;> omega
theorem toInt_ofInt {x : Int} (h : I64 x) : (BitVec.ofInt 64 x).toInt = x := by
  unfold I64 at h
  rw [BitVec.toInt_ofInt]
  show Int.bmod x 18446744073709551616 = x
  rw [Int.bmod_def]
  split <;> omega
theorem I64_toInt (r : BitVec 64) : I64 r.toInt := by
  have h1 := BitVec.toInt_lt (x := r)
  have h2 := BitVec.le_toInt (x := r)
  unfold I64
  omega
theorem and_bv (x y : Int) : bits .and .i64 x y = (BitVec.ofInt 64 x &&& BitVec.ofInt 64 y).toInt := wrap_toNat _
theorem or_bv (x y : Int) : bits .or .i64 x y = (BitVec.ofInt 64 x ||| BitVec.ofInt 64 y).toInt := wrap_toNat _
theorem xor_bv (x y : Int) : bits .xor .i64 x y = (BitVec.ofInt 64 x ^^^ BitVec.ofInt 64 y).toInt := wrap_toNat _
theorem andNot_bv (x y : Int) : bits .andNot .i64 x y = (BitVec.ofInt 64 x &&& ~~~ BitVec.ofInt 64 y).toInt := wrap_toNat _
theorem bits_I64 (op : BinOp) (x y : Int) : I64 (bits op .i64 x y) := by
  show I64 (IntKind.i64.wrap _)
  rw [IntKind.wrap_i64]
  unfold I64
  omega
theorem wrap64_I64 (x : Int) : I64 (wrap64 x) := by unfold wrap64 I64; omega

/-- The field's number: floor division and remainder. -/
def getZ (w : Int) (a d : Nat) : Int := (w / 2 ^ a) % 2 ^ d

theorem two_pow_cast (n : Nat) : ((2 ^ n : Nat) : Int) = (2 : Int) ^ n := by simp
theorem two_pow_pos' (n : Nat) : (0 : Int) < 2 ^ n := Int.pow_pos (by decide)
theorem getZ_nonneg (w : Int) (a d : Nat) : 0 ≤ getZ w a d := Int.emod_nonneg _ (by have := two_pow_pos' d; omega)
theorem getZ_lt (w : Int) (a d : Nat) : getZ w a d < 2 ^ d := Int.emod_lt_of_pos _ (two_pow_pos' d)

/-- What a field holds does not hang on the bits from 64 on. -/
theorem getZ_mod (w : Int) (a d : Nat) (h : a + d ≤ 64) : getZ (w % 18446744073709551616) a d = getZ w a d := by
  unfold getZ
  have e : w % 18446744073709551616 = w + (-(w / 18446744073709551616)) * 2 ^ (64 - a) * 2 ^ a := by
    have : (2 : Int) ^ (64 - a) * 2 ^ a = 18446744073709551616 := by rw [← Int.pow_add, show 64 - a + a = 64 by omega]; rfl
    rw [Int.mul_assoc, this]
    omega
  have hp : (2 : Int) ^ a ≠ 0 := by have := two_pow_pos' a; omega
  rw [e, Int.add_mul_ediv_right _ _ hp]
  have e2 : (-(w / 18446744073709551616)) * (2 : Int) ^ (64 - a) = (-(w / 18446744073709551616)) * 2 ^ (64 - a - d) * 2 ^ d := by
    rw [Int.mul_assoc, ← Int.pow_add, show 64 - a - d + d = 64 - a by omega]
  rw [e2, Int.add_mul_emod_self_right]

theorem and_shifted_nat (X a d : Nat) : X &&& ((2 ^ d - 1) * 2 ^ a) = ((X / 2 ^ a) % 2 ^ d) * 2 ^ a := by
  apply Nat.eq_of_testBit_eq
  intro i
  simp only [Nat.testBit_and, Nat.testBit_mul_two_pow, Nat.testBit_two_pow_sub_one, Nat.testBit_mod_two_pow, Nat.testBit_div_two_pow]
  by_cases h : a ≤ i
  · simp [h, Nat.sub_add_cancel h]; rw [Bool.and_comm]
  · simp [h]

theorem toNat_ofInt_pos {x : Int} (h0 : 0 ≤ x) (h1 : x < 18446744073709551616) : (BitVec.ofInt 64 x).toNat = x.toNat := by
  rw [BitVec.toNat_ofInt]
  show (x % 18446744073709551616).toNat = _
  rw [Int.emod_eq_of_lt h0 h1]

theorem mask_bd (a d : Nat) (h : a + d ≤ 63) : 0 ≤ ((2 : Int) ^ d - 1) * 2 ^ a ∧ ((2 : Int) ^ d - 1) * 2 ^ a < 9223372036854775808 := by
  have h1 := two_pow_pos' a
  have h2 := two_pow_pos' d
  have h3 : (2 : Int) ^ d * 2 ^ a ≤ 2 ^ 63 := by
    rw [← Int.pow_add]
    have : ((2 ^ (d + a) : Nat) : Int) ≤ ((2 ^ 63 : Nat) : Int) := by exact_mod_cast Nat.pow_le_pow_right (by decide) (by omega)
    simpa using this
  have h4 : (2 : Int) ^ 63 = 9223372036854775808 := rfl
  rw [h4] at h3
  rw [Int.sub_mul]
  constructor
  · have : (1 : Int) * 2 ^ a ≤ 2 ^ d * 2 ^ a := Int.mul_le_mul_of_nonneg_right (by omega) (by omega)
    omega
  · omega

theorem field_bd {g : Int} {a d : Nat} (h : a + d ≤ 63) (h0 : 0 ≤ g) (h1 : g < 2 ^ d) : 0 ≤ g * 2 ^ a ∧ g * 2 ^ a < 9223372036854775808 := by
  have hm := mask_bd a d h
  have ha := two_pow_pos' a
  have : g * 2 ^ a ≤ ((2 : Int) ^ d - 1) * 2 ^ a := Int.mul_le_mul_of_nonneg_right (by omega) (by omega)
  exact ⟨Int.mul_nonneg h0 (by omega), by omega⟩

/-- w & (a mask shifted): the field's number, where it stands. -/
theorem and_shifted (w : Int) (a d : Nat) (h : a + d ≤ 63) : bits .and .i64 w (((2 : Int) ^ d - 1) * 2 ^ a) = getZ w a d * 2 ^ a := by
  have hm := mask_bd a d h
  have hg := field_bd h (getZ_nonneg w a d) (getZ_lt w a d)
  have hM : (BitVec.ofInt 64 (((2 : Int) ^ d - 1) * 2 ^ a)).toNat = (2 ^ d - 1) * 2 ^ a := by
    rw [toNat_ofInt_pos hm.1 (by omega)]
    have : (((2 ^ d - 1) * 2 ^ a : Nat) : Int) = ((2 : Int) ^ d - 1) * 2 ^ a := by
      rw [Int.natCast_mul, Int.ofNat_sub (Nat.one_le_two_pow)]; simp
    rw [← this]; exact Int.toNat_natCast _
  show IntKind.i64.wrap ((BitVec.ofInt 64 w &&& BitVec.ofInt 64 (((2 : Int) ^ d - 1) * 2 ^ a)).toNat : Int) = _
  have hW : ((BitVec.ofInt 64 w).toNat : Int) = w % 18446744073709551616 := by
    rw [BitVec.toNat_ofInt]
    show ((w % 18446744073709551616).toNat : Int) = _
    omega
  rw [BitVec.toNat_and, hM, and_shifted_nat]
  have e : (((((BitVec.ofInt 64 w).toNat / 2 ^ a) % 2 ^ d) * 2 ^ a : Nat) : Int) = getZ w a d * 2 ^ a := by
    rw [← getZ_mod w a d (by omega), ← hW]
    unfold getZ
    simp
  rw [e]
  exact i64_in _ (by omega)

theorem and_low (w : Int) (d : Nat) (h : d ≤ 63) : bits .and .i64 w ((2 : Int) ^ d - 1) = w % 2 ^ d := by
  have := and_shifted w 0 d (by omega)
  simpa [getZ] using this

theorem ofInt_sub (x y : Int) : BitVec.ofInt 64 (x - y) = BitVec.ofInt 64 x - BitVec.ofInt 64 y := by
  rw [Int.sub_eq_add_neg, BitVec.ofInt_add, BitVec.ofInt_neg, BitVec.sub_eq_add_neg]

theorem bv_andNot (W M : BitVec 64) : W &&& ~~~ M = W - (W &&& M) := by
  have h : (W &&& ~~~ M) + (W &&& M) = W := by
    rw [BitVec.add_eq_or_of_and_eq_zero]
    · ext i hi
      simp only [BitVec.getElem_or, BitVec.getElem_and, BitVec.getElem_not]
      cases W[i] <;> cases M[i] <;> rfl
    · ext i hi
      simp only [BitVec.getElem_and, BitVec.getElem_not, BitVec.getElem_zero]
      cases W[i] <;> cases M[i] <;> rfl
  exact BitVec.eq_sub_iff_add_eq.mpr h
theorem ofInt_and (x y : Int) : BitVec.ofInt 64 (bits .and .i64 x y) = BitVec.ofInt 64 x &&& BitVec.ofInt 64 y := by rw [and_bv, BitVec.ofInt_toInt]

theorem andNot_sub (w m : Int) (h : I64 (w - bits .and .i64 w m)) : bits .andNot .i64 w m = w - bits .and .i64 w m := by
  rw [andNot_bv, bv_andNot, ← ofInt_and, ← ofInt_sub, toInt_ofInt h]

/-- Two numbers that have no bit in common. -/
theorem or_add {x y : Int} (h0 : BitVec.ofInt 64 x &&& BitVec.ofInt 64 y = 0) (h : I64 (x + y)) : bits .or .i64 x y = x + y := by
  rw [or_bv, ← BitVec.add_eq_or_of_and_eq_zero _ _ h0, ← BitVec.ofInt_add, toInt_ofInt h]

/-- A word with a number put into a field, as arithmetic. -/
def putZ (w : Int) (a d : Nat) (v : Int) : Int := w - getZ w a d * 2 ^ a + (v % 2 ^ d) * 2 ^ a

theorem ediv_pow_add (w : Int) (a d : Nat) : w / 2 ^ (a + d) = w / 2 ^ a / 2 ^ d := by
  rw [Int.pow_add, Int.ediv_ediv_of_nonneg (by have := two_pow_pos' a; omega)]
theorem split3 (w : Int) (a d : Nat) : w = (w / 2 ^ (a + d)) * 2 ^ (a + d) + getZ w a d * 2 ^ a + w % 2 ^ a := by
  have h1 := Int.mul_ediv_add_emod w (2 ^ a)
  have h2 := Int.mul_ediv_add_emod (w / 2 ^ a) (2 ^ d)
  rw [ediv_pow_add]
  unfold getZ
  have e : (w / 2 ^ a / 2 ^ d) * 2 ^ (a + d) = (2 ^ d * (w / 2 ^ a / 2 ^ d)) * 2 ^ a := by
    rw [Int.pow_add, Int.mul_comm (2 ^ a) (2 ^ d), ← Int.mul_assoc, Int.mul_comm (2 ^ d) (w / 2 ^ a / 2 ^ d)]
  rw [e, ← Int.add_mul, h2, Int.mul_comm, h1]
theorem putZ_eq (w : Int) (a d : Nat) (v : Int) : putZ w a d v = (w / 2 ^ (a + d)) * 2 ^ (a + d) + (v % 2 ^ d) * 2 ^ a + w % 2 ^ a := by
  have := split3 w a d
  unfold putZ
  omega
theorem pow_le {a b : Nat} (h : a ≤ b) : (2 : Int) ^ a ≤ 2 ^ b := by
  have : ((2 ^ a : Nat) : Int) ≤ ((2 ^ b : Nat) : Int) := by exact_mod_cast Nat.pow_le_pow_right (by decide) h
  simpa using this
/-- A number of a field, where it stands, and what is below it. -/
theorem low_bd {g l : Int} {a d : Nat} (h0 : 0 ≤ g) (h1 : g < 2 ^ d) (h2 : 0 ≤ l) (h3 : l < 2 ^ a) : 0 ≤ g * 2 ^ a + l ∧ g * 2 ^ a + l < 2 ^ (a + d) := by
  have ha := two_pow_pos' a
  have hm := Int.mul_nonneg h0 (Int.le_of_lt ha)
  have : (g + 1) * 2 ^ a ≤ 2 ^ d * 2 ^ a := Int.mul_le_mul_of_nonneg_right (by omega) (by omega)
  rw [Int.add_mul, Int.one_mul] at this
  rw [Int.pow_add, Int.mul_comm (2 ^ a) (2 ^ d)]
  omega
theorem emod_bd (w : Int) (a : Nat) : 0 ≤ w % 2 ^ a ∧ w % 2 ^ a < 2 ^ a :=
  ⟨Int.emod_nonneg _ (by have := two_pow_pos' a; omega), Int.emod_lt_of_pos _ (two_pow_pos' a)⟩
theorem high_bd {w l : Int} {n : Nat} (hn : n ≤ 63) (hw : I64 w) (h0 : 0 ≤ l) (h1 : l < 2 ^ n) : I64 ((w / 2 ^ n) * 2 ^ n + l) := by
  have hp := two_pow_pos' n
  have e : (2 : Int) ^ (63 - n) * 2 ^ n = 9223372036854775808 := by rw [← Int.pow_add, show 63 - n + n = 63 by omega]; rfl
  unfold I64 at *
  have l1 : -(2 ^ (63 - n)) ≤ w / 2 ^ n := by
    rw [Int.le_ediv_iff_mul_le hp, Int.neg_mul, e]
    omega
  have l2 : w / 2 ^ n < 2 ^ (63 - n) := by
    rw [Int.ediv_lt_iff_lt_mul hp, e]
    omega
  have m1 : (-(2 ^ (63 - n))) * 2 ^ n ≤ (w / 2 ^ n) * 2 ^ n := Int.mul_le_mul_of_nonneg_right l1 (by omega)
  have m2 : (w / 2 ^ n + 1) * 2 ^ n ≤ (2 ^ (63 - n)) * 2 ^ n := Int.mul_le_mul_of_nonneg_right (by omega) (by omega)
  rw [Int.neg_mul, e] at m1
  rw [Int.add_mul, Int.one_mul, e] at m2
  omega
theorem putZ_I64 {w : Int} (hw : I64 w) (a d : Nat) (h : a + d ≤ 63) (v : Int) : I64 (putZ w a d v) ∧ I64 (w - getZ w a d * 2 ^ a) := by
  have hv := emod_bd v d
  have hl := emod_bd w a
  have b1 := low_bd (a := a) hv.1 hv.2 hl.1 hl.2
  have b2 := low_bd (a := a) (d := d) (g := 0) (by omega) (two_pow_pos' d) hl.1 hl.2
  have e1 := putZ_eq w a d v
  have e2 := split3 w a d
  constructor
  · rw [e1, Int.add_assoc]; exact high_bd h hw b1.1 b1.2
  · have : w - getZ w a d * 2 ^ a = (w / 2 ^ (a + d)) * 2 ^ (a + d) + (0 * 2 ^ a + w % 2 ^ a) := by omega
    rw [this]; exact high_bd h hw b2.1 b2.2

theorem put_bits (w : Int) (hw : I64 w) (a d : Nat) (h : a + d ≤ 63) (v : Int) :
    bits .or .i64 (bits .andNot .i64 w (((2 : Int) ^ d - 1) * 2 ^ a)) ((v % 2 ^ d) * 2 ^ a) = putZ w a d v := by
  have hp := putZ_I64 hw a d h v
  have e1 : bits .andNot .i64 w (((2 : Int) ^ d - 1) * 2 ^ a) = w - getZ w a d * 2 ^ a := by
    rw [andNot_sub, and_shifted w a d h]
    rw [and_shifted w a d h]; exact hp.2
  have e2 : bits .and .i64 ((v % 2 ^ d) * 2 ^ a) (((2 : Int) ^ d - 1) * 2 ^ a) = (v % 2 ^ d) * 2 ^ a := by
    rw [and_shifted _ a d h]
    congr 1
    unfold getZ
    rw [Int.mul_ediv_cancel _ (by have := two_pow_pos' a; omega), Int.emod_emod_of_dvd _ (Int.dvd_refl _)]
  have hd : BitVec.ofInt 64 (w - getZ w a d * 2 ^ a) &&& BitVec.ofInt 64 ((v % 2 ^ d) * 2 ^ a) = 0 := by
    have h1 : BitVec.ofInt 64 (w - getZ w a d * 2 ^ a) = BitVec.ofInt 64 w &&& ~~~ BitVec.ofInt 64 (((2 : Int) ^ d - 1) * 2 ^ a) := by
      rw [← e1, andNot_bv, BitVec.ofInt_toInt]
    have h2 : BitVec.ofInt 64 ((v % 2 ^ d) * 2 ^ a) = BitVec.ofInt 64 ((v % 2 ^ d) * 2 ^ a) &&& BitVec.ofInt 64 (((2 : Int) ^ d - 1) * 2 ^ a) := by
      rw [← ofInt_and, e2]
    rw [h1, h2]
    ext i hi
    simp only [BitVec.getElem_and, BitVec.getElem_not]
    cases (BitVec.ofInt 64 (((2 : Int) ^ d - 1) * 2 ^ a))[i] <;> simp
  rw [e1, or_add hd hp.1]
  rfl

/-- What is above the field, and what is below it, is as it was. -/
theorem putZ_div (w : Int) (a d : Nat) (v : Int) (b : Nat) (h : a + d ≤ b) : putZ w a d v / 2 ^ b = w / 2 ^ b := by
  have hb := low_bd (a := a) (emod_bd v d).1 (emod_bd v d).2 (emod_bd w a).1 (emod_bd w a).2
  have e : putZ w a d v / 2 ^ (a + d) = w / 2 ^ (a + d) := by
    rw [putZ_eq, Int.add_assoc, Int.add_comm, Int.add_mul_ediv_right _ _ (by have := two_pow_pos' (a + d); omega), Int.ediv_eq_zero_of_lt hb.1 hb.2]
    omega
  rw [show b = a + d + (b - (a + d)) by omega, ediv_pow_add, e, ← ediv_pow_add]
theorem pow_dvd {a b : Nat} (h : a ≤ b) : (2 : Int) ^ a ∣ 2 ^ b := ⟨2 ^ (b - a), by rw [← Int.pow_add, show a + (b - a) = b by omega]⟩
theorem mul_pow_emod (x : Int) {a b : Nat} (h : a ≤ b) : (x * 2 ^ b) % 2 ^ a = 0 :=
  Int.emod_eq_zero_of_dvd (Int.dvd_trans (pow_dvd h) (Int.dvd_mul_left _ _))
theorem putZ_mod (w : Int) (a d : Nat) (v : Int) (b : Nat) (h : b ≤ a) : putZ w a d v % 2 ^ b = w % 2 ^ b := by
  have : w = w % 2 ^ a + (w / 2 ^ a) * 2 ^ a := by have := Int.mul_ediv_add_emod w (2 ^ a); rw [Int.mul_comm]; omega
  rw [putZ_eq]
  rw [Int.add_emod, Int.add_emod (w / 2 ^ (a + d) * 2 ^ (a + d)), mul_pow_emod _ (by omega), mul_pow_emod _ h]
  conv => rhs; rw [this, Int.add_emod, mul_pow_emod _ h]
  simp
theorem getZ_eq_mod (w : Int) (a d : Nat) : getZ w a d = w % 2 ^ (a + d) / 2 ^ a := by
  have h := split3 w a d
  have hb := low_bd (a := a) (getZ_nonneg w a d) (getZ_lt w a d) (emod_bd w a).1 (emod_bd w a).2
  have e : w % 2 ^ (a + d) = getZ w a d * 2 ^ a + w % 2 ^ a := by
    conv => lhs; rw [h, Int.add_assoc, Int.add_comm, Int.add_mul_emod_self_right]
    exact Int.emod_eq_of_lt hb.1 hb.2
  rw [e, Int.add_comm, Int.add_mul_ediv_right _ _ (by have := two_pow_pos' a; omega), Int.ediv_eq_zero_of_lt (emod_bd w a).1 (emod_bd w a).2]
  omega
theorem get_put (w : Int) (a d : Nat) (v : Int) : getZ (putZ w a d v) a d = v % 2 ^ d := by
  have hv := emod_bd v d
  have hw := emod_bd w a
  have hp : (2 : Int) ^ a ≠ 0 := by have := two_pow_pos' a; omega
  unfold getZ
  rw [putZ_eq, Int.add_comm, Int.pow_add, Int.mul_comm (2 ^ a) (2 ^ d), ← Int.mul_assoc, ← Int.add_mul, Int.add_mul_ediv_right _ _ hp, Int.ediv_eq_zero_of_lt hw.1 hw.2, Int.zero_add, Int.add_comm, Int.add_mul_emod_self_right, Int.emod_emod_of_dvd _ (Int.dvd_refl _)]
theorem get_put_far (w : Int) (a d : Nat) (v : Int) (b e : Nat) (h : a + d ≤ b ∨ b + e ≤ a) : getZ (putZ w a d v) b e = getZ w b e := by
  rcases h with h | h
  · unfold getZ; rw [putZ_div w a d v b h]
  · rw [getZ_eq_mod, getZ_eq_mod w, putZ_mod w a d v _ h]
theorem put_comm (w : Int) (a d : Nat) (v : Int) (b e : Nat) (u : Int) (h : a + d ≤ b ∨ b + e ≤ a) : putZ (putZ w a d v) b e u = putZ (putZ w b e u) a d v := by
  have h1 := get_put_far w a d v b e h
  have h2 := get_put_far w b e u a d (by omega)
  have x1 : putZ (putZ w a d v) b e u = putZ w a d v - getZ w b e * 2 ^ b + (u % 2 ^ e) * 2 ^ b := by rw [← h1]; rfl
  have x2 : putZ (putZ w b e u) a d v = putZ w b e u - getZ w a d * 2 ^ a + (v % 2 ^ d) * 2 ^ a := by rw [← h2]; rfl
  rw [x1, x2]
  unfold putZ
  omega
theorem put_put (w : Int) (a d : Nat) (v u : Int) : putZ (putZ w a d v) a d u = putZ w a d u := by
  have := get_put w a d v
  have x : putZ (putZ w a d v) a d u = putZ w a d v - (v % 2 ^ d) * 2 ^ a + (u % 2 ^ d) * 2 ^ a := by rw [← this]; rfl
  rw [x]
  unfold putZ
  omega
theorem put_get (w : Int) (a d : Nat) : putZ w a d (getZ w a d) = w := by
  unfold putZ
  rw [show getZ w a d % 2 ^ d = getZ w a d from Int.emod_eq_of_lt (getZ_nonneg _ _ _) (getZ_lt _ _ _)]
  omega
theorem put_same {w : Int} {a d : Nat} {v u : Int} (h : v % 2 ^ d = u % 2 ^ d) : putZ w a d v = putZ w a d u := by unfold putZ; rw [h]

/-! ### One bit at a time -/
def bitZ (w : Int) (i : Nat) : Int := (w / 2 ^ i) % 2
theorem bitZ_01 (w : Int) (i : Nat) : bitZ w i = 0 ∨ bitZ w i = 1 := by unfold bitZ; omega
theorem getZ_succ (w : Int) (a d : Nat) : getZ w a (d + 1) = 2 * getZ w (a + 1) d + bitZ w a := by
  unfold getZ bitZ
  rw [ediv_pow_add w a 1, show (2 : Int) ^ 1 = 2 from rfl]
  generalize w / 2 ^ a = x
  have h1 := Int.mul_ediv_add_emod x 2
  have h2 := Int.mul_ediv_add_emod (x / 2) (2 ^ d)
  have hb := emod_bd (x / 2) d
  rw [Int.pow_succ]
  have e : x = (2 * (x / 2 % 2 ^ d) + x % 2) + (x / 2 / 2 ^ d) * (2 ^ d * 2) := by
    have : (x / 2 / 2 ^ d) * (2 ^ d * 2) = 2 * (2 ^ d * (x / 2 / 2 ^ d)) := by
      rw [Int.mul_comm (x / 2 / 2 ^ d), Int.mul_comm (2 ^ d) 2, Int.mul_assoc]
    rw [this]
    omega
  conv => lhs; rw [e, Int.add_mul_emod_self_right]
  exact Int.emod_eq_of_lt (by omega) (by omega)
theorem getZ_snoc (w : Int) (a d : Nat) : getZ w a (d + 1) = getZ w a d + bitZ w (a + d) * 2 ^ d := by
  unfold getZ bitZ
  rw [ediv_pow_add]
  generalize w / 2 ^ a = x
  have h2 := Int.mul_ediv_add_emod x (2 ^ d)
  have h1 := Int.mul_ediv_add_emod (x / 2 ^ d) 2
  have hb := emod_bd x d
  have hp := two_pow_pos' d
  rw [Int.pow_succ]
  have e : x = (x % 2 ^ d + (x / 2 ^ d % 2) * 2 ^ d) + (x / 2 ^ d / 2) * (2 ^ d * 2) := by
    have q1 : (x / 2 ^ d / 2) * (2 ^ d * 2) = (2 * (x / 2 ^ d / 2)) * 2 ^ d := by
      rw [Int.mul_comm (2 ^ d) 2, ← Int.mul_assoc, Int.mul_comm 2]
    rw [q1, Int.add_assoc, ← Int.add_mul, show x / 2 ^ d % 2 + 2 * (x / 2 ^ d / 2) = x / 2 ^ d by omega, Int.mul_comm]
    omega
  have h01 : x / 2 ^ d % 2 = 0 ∨ x / 2 ^ d % 2 = 1 := by omega
  conv => lhs; rw [e, Int.add_mul_emod_self_right]
  apply Int.emod_eq_of_lt
  · rcases h01 with h | h <;> rw [h] <;> omega
  · rcases h01 with h | h <;> rw [h] <;> omega
theorem emod_snoc (v : Int) (d : Nat) : v % 2 ^ (d + 1) = v % 2 ^ d + bitZ v d * 2 ^ d := by
  have := getZ_snoc v 0 d
  simpa [getZ] using this
theorem getZ_zero (w : Int) (a : Nat) : getZ w a 0 = 0 := by simp [getZ]
theorem putZ_zero (w : Int) (a : Nat) (v : Int) : putZ w a 0 v = w := by simp [putZ, getZ]
theorem putZ_snoc (w : Int) (a d : Nat) (v : Int) : putZ w a (d + 1) v = putZ w a d v + (bitZ v d - bitZ w (a + d)) * 2 ^ (a + d) := by
  unfold putZ
  rw [getZ_snoc, emod_snoc, Int.add_mul, Int.add_mul, Int.sub_mul, Int.pow_add, Int.mul_assoc, Int.mul_assoc, Int.mul_comm (2 ^ d) (2 ^ a)]
  omega
theorem bitZ_put (w : Int) (a d : Nat) (v : Int) : bitZ (putZ w a d v) (a + d) = bitZ w (a + d) := by
  unfold bitZ; rw [putZ_div _ _ _ _ _ (Nat.le_refl _)]
theorem getZ_neg1 (a d : Nat) : getZ (-1) a d = 2 ^ d - 1 := by
  unfold getZ
  have h1 : (-1 : Int) / 2 ^ a = -1 := by
    have := two_pow_pos' a
    rw [Int.ediv_eq_iff_of_pos this]
    omega
  have hp := two_pow_pos' d
  rw [h1, show (-1 : Int) = (2 ^ d - 1) + (-1) * 2 ^ d by omega, Int.add_mul_emod_self_right]
  exact Int.emod_eq_of_lt (by omega) (by omega)

/-- One bit turned. -/
theorem xor_bit (w : Int) (hw : I64 w) (k : Nat) (h : k ≤ 61) : bits .xor .i64 w ((2 : Int) ^ k) = if bitZ w k = 0 then w + 2 ^ k else w - 2 ^ k := by
  have hs := and_shifted w k 1 (by omega)
  have e1 : ((2 : Int) ^ 1 - 1) * 2 ^ k = 2 ^ k := by omega
  rw [e1] at hs
  have hg : getZ w k 1 = bitZ w k := by simp [getZ, bitZ]
  rw [hg] at hs
  have hp0 := putZ_I64 hw k 1 (by omega) 0
  have hp1 := putZ_I64 hw k 1 (by omega) 1
  unfold putZ at hp0 hp1
  rw [hg] at hp0 hp1
  simp only [show (0 : Int) % 2 ^ 1 = 0 from rfl, show (1 : Int) % 2 ^ 1 = 1 from rfl] at hp0 hp1
  have hx : BitVec.ofInt 64 w ^^^ BitVec.ofInt 64 (2 ^ k) = (BitVec.ofInt 64 w &&& ~~~ BitVec.ofInt 64 (2 ^ k)) ||| (BitVec.ofInt 64 (2 ^ k) &&& ~~~ (BitVec.ofInt 64 w &&& BitVec.ofInt 64 (2 ^ k))) := by
    ext i hi
    simp only [BitVec.getElem_xor, BitVec.getElem_or, BitVec.getElem_and, BitVec.getElem_not]
    cases (BitVec.ofInt 64 w)[i] <;> cases (BitVec.ofInt 64 (2 ^ k))[i] <;> rfl
  have hand : BitVec.ofInt 64 w &&& BitVec.ofInt 64 (2 ^ k) = BitVec.ofInt 64 (bitZ w k * 2 ^ k) := by rw [← ofInt_and, hs]
  rcases bitZ_01 w k with hb | hb
  · rw [if_pos hb]
    rw [hb] at hs hp1 hand
    have h0 : BitVec.ofInt 64 w &&& BitVec.ofInt 64 (2 ^ k) = 0 := by rw [hand]; simp
    rw [xor_bv, hx, h0, bv_andNot, h0]
    have : I64 (w + 2 ^ k) := by have := hp1.1; rw [show w + (2 : Int) ^ k = w - 0 * 2 ^ k + 1 * 2 ^ k by omega]; exact this
    rw [show BitVec.ofInt 64 w - 0 = BitVec.ofInt 64 w by simp, show BitVec.ofInt 64 ((2 : Int) ^ k) &&& ~~~ 0 = BitVec.ofInt 64 (2 ^ k) from BitVec.and_allOnes, ← or_bv]
    exact or_add h0 this
  · rw [if_neg (by omega)]
    rw [hb] at hs hp0 hand
    rw [show (1 : Int) * 2 ^ k = 2 ^ k by omega] at hand
    have : I64 (w - 2 ^ k) := by have := hp0.1; rw [show w - (2 : Int) ^ k = w - 1 * 2 ^ k + 0 * 2 ^ k by omega]; exact this
    rw [xor_bv, hx, hand, bv_andNot, hand, show BitVec.ofInt 64 ((2 : Int) ^ k) &&& ~~~ BitVec.ofInt 64 ((2 : Int) ^ k) = 0 by simp, ← ofInt_sub]
    rw [show BitVec.ofInt 64 (w - 2 ^ k) ||| 0 = BitVec.ofInt 64 (w - 2 ^ k) by simp, toInt_ofInt this]
end Go.Fld
