import Derived.Test.YtljgocfmmdpdfaaFieldE
namespace Go.Proofs.Ytljgocfmmdpdfaa
open Go.RowKit Go.Fld
set_option linter.unusedVariables false
attribute [local go_sem ↓] Go.wp_at_zero Go.wp_at_succ

/-- The reference's 'right' of a field: the same, since At = 62 leaves no room. -/
theorem refRight_any (a d : Int) (w : World) :
    Calls Try.prog 12 #[.agg #[.int .i64 a, .int .i64 d]] w fun e w' => e = .returned (.bool (rightB a d)) ∧ Below w.heap.size w w' := by
  by_cases h : 0 ≤ a ∧ a ≤ 61 ∧ 1 ≤ d ∧ d ≤ 62
  · obtain ⟨h0, h1, h2, h3⟩ := h
    go_enter Try.func12, Try.ntmps12
    go_wp2
    go_ret
    refine ⟨ret_bool ?_, (Below.refl _ _).alloc (Nat.le_refl _) _⟩
    rw [rightB, decide_eq_decide]; omega
  · have hr : rightB a d = false := by rw [rightB_f]; omega
    have HR := Lib.hid hr
    clear hr
    go_enter Try.func12, Try.ntmps12
    go_wp2
    all_goals go_ret
    all_goals refine ⟨ret_bool ?_, (Below.refl _ _).alloc (Nat.le_refl _) _⟩
    all_goals rw [HR.out]
    all_goals first | rfl | (rw [decide_eq_false_iff_not]; omega)

theorem bit_any (x i : Int) (h0 : 0 ≤ i) (h1 : i ≤ 63) (w : World) :
    Calls Try.prog 27 #[.int .i64 x, .int .i64 i] w fun e w' => e = .returned (.int .i64 (bitZ x i.toNat)) ∧ w = w' := by
  go_enter Try.func27, Try.ntmps27
  go_wp2
  go_ret
  refine ⟨ret_int ?_, rfl⟩
  have hp := two_pow_pos' i.toNat
  have hm : IntKind.u64.wrap x = x % 18446744073709551616 := IntKind.wrap_u64 x
  have hb : 0 ≤ x % 18446744073709551616 ∧ x % 18446744073709551616 < 18446744073709551616 := ⟨by omega, by omega⟩
  have hd0 : 0 ≤ x % 18446744073709551616 / 2 ^ i.toNat := Int.ediv_nonneg hb.1 (by omega)
  have hd1 : x % 18446744073709551616 / 2 ^ i.toNat ≤ x % 18446744073709551616 := Int.ediv_le_self _ hb.1
  rw [hm, and_one_u64 _ hd0 (by omega)]
  have hg := getZ_mod x i.toNat 1 (by omega)
  unfold getZ at hg
  unfold bitZ
  simp only [show (2 : Int) ^ 1 = 2 from rfl] at hg
  rw [hg]
  exact IntWalk.wrap64_in _ (by omega)

set_option maxHeartbeats 400000 in
theorem refGet_any (x a d : Int) (hr : rightB a d = true) (w : World) :
    Calls Try.prog 17 #[.int .i64 x, .agg #[.int .i64 a, .int .i64 d]] w fun e w' => e = .returned (.int .i64 (getZ x a.toNat d.toNat)) ∧ Below w.heap.size w w' := by
  have h := rightB_t.1 hr
  obtain ⟨h0, h1, h2, h3⟩ := h
  have HR := Lib.hid hr
  clear hr
  go_enter Try.func17, Try.ntmps17
  go_wp2
  go_loop [5, 6] (fun n i => ∃ (k : Int) (g : Int), -1 ≤ k ∧ k < d ∧ i = .int .i64 k ∧ n = .int .i64 g ∧ g = getZ x (a + k + 1).toNat (d - 1 - k).toNat ∧ 0 ≤ g ∧ (0 ≤ k → g ≤ 2305843009213693951))
    (fun _ i => (intOf i + 1).toNat)
  case atStart => exact ⟨d - 1, 0, by omega, by omega, rfl, rfl, by rw [show (d - 1 - (d - 1)).toNat = 0 by omega, getZ_zero], by omega, by omega⟩
  case round =>
    obtain ⟨k, g, hk, hkd, rfl, rfl, hg, hg0, hg1⟩ := hrel
    have HG := Lib.hid hg
    clear hg
    by_cases hlt : 0 ≤ k
    · have hgu := hg1 hlt
      have hb01 := bitZ_01 x (a + k).toNat
      clear hg1
      obtain ⟨q, hq⟩ : ∃ q, q = bitZ x (a + k).toNat := ⟨_, rfl⟩
      rw [← hq] at hb01
      have hq0 : 0 ≤ q := by omega
      have hq1 : q ≤ 1 := by omega
      have HQ := Lib.hid hq
      clear hq hb01
      go_wp2_with (go_at_call 27; refine (bit_any _ _ (by omega) (by omega) _).mono ?_; rintro e w' ⟨rfl, rfl⟩; rw [← HQ.out])
      refine ⟨⟨k - 1, 2 * g + q, by omega, by omega, rfl, rfl, ?_, by omega, ?_⟩, by simp [intOf]; omega⟩
      · rw [HG.out, HQ.out]
        have := getZ_succ x (a + k).toNat (d - 1 - k).toNat
        rw [show (a + (k - 1) + 1).toNat = (a + k).toNat by omega, show (d - 1 - (k - 1)).toNat = (d - 1 - k).toNat + 1 by omega, this]
        congr 2
        congr 1
        omega
      · intro hk0
        have e : 2 * g + q = getZ x (a + k).toNat ((d - 1 - k).toNat + 1) := by
          rw [HG.out, HQ.out, getZ_succ, show (a + k + 1).toNat = (a + k).toNat + 1 by omega]
        have h5 := getZ_lt x (a + k).toNat ((d - 1 - k).toNat + 1)
        have h6 : (2 : Int) ^ ((d - 1 - k).toNat + 1) ≤ 2 ^ 61 := pow_le (by omega)
        rw [← e] at h5
        have h7 : (2 : Int) ^ 61 = 2305843009213693952 := rfl
        omega
    · obtain rfl : k = -1 := by omega
      go_wp2
      go_ret
      exact ⟨ret_int (by rw [HG.out]; congr 1 <;> omega), (Below.refl _ _).alloc (Nat.le_refl _) _⟩
theorem refMax_any (a d : Int) (hr : rightB a d = true) (w : World) :
    Calls Try.prog 15 #[.agg #[.int .i64 a, .int .i64 d]] w fun e w' => e = .returned (.int .i64 (2 ^ d.toNat - 1)) ∧ Below w.heap.size w w' := by
  go_enter Try.func15, Try.ntmps15
  go_wp2_with (go_at_call 17; refine (refGet_any _ _ _ hr _).mono ?_; rintro e w1 ⟨rfl, hb⟩)
  go_ret
  exact ⟨ret_int (getZ_neg1 _ _), ((Below.refl _ _).alloc (Nat.le_refl _) _).trans (hb.mono (by simp))⟩

set_option maxHeartbeats 400000 in
theorem refPut_any (x a d v : Int) (hx : I64 x) (hr : rightB a d = true) (w : World) :
    Calls Try.prog 19 #[.int .i64 x, .agg #[.int .i64 a, .int .i64 d], .int .i64 v] w fun e w' => e = .returned (.int .i64 (putZ x a.toNat d.toNat v)) ∧ Below w.heap.size w w' := by
  have h := rightB_t.1 hr
  obtain ⟨h0, h1, h2, h3⟩ := h
  have HR := Lib.hid hr
  have HX := Lib.hid hx
  clear hr hx
  go_enter Try.func19, Try.ntmps19
  go_wp2
  go_loop [0, 7] (fun y i => ∃ (k : Nat), (k : Int) ≤ d ∧ i = .int .i64 k ∧ y = .int .i64 (putZ x a.toNat k v))
    (fun _ i => (d - intOf i).toNat)
  case atStart => exact ⟨0, by omega, rfl, by rw [putZ_zero]⟩
  case round =>
    obtain ⟨k, hk, rfl, rfl⟩ := hrel
    by_cases hlt : (k : Int) < d
    · have hI := (putZ_I64 HX.out a.toNat k (by omega) v).1
      have hs := putZ_snoc x a.toNat k v
      have hbp := bitZ_put x a.toNat k v
      have hxb := xor_bit (putZ x a.toNat k v) hI (a.toNat + k) (by omega)
      rw [hbp] at hxb
      have hpb := pow_bd (a.toNat + k) (by omega)
      obtain ⟨y, hy⟩ : ∃ y, y = putZ x a.toNat k v := ⟨_, rfl⟩
      rw [← hy] at hs hxb hbp
      have HS := Lib.hid hs
      have HXB := Lib.hid hxb
      have HBP := Lib.hid hbp
      have hb1 := bitZ_01 x (a.toNat + k)
      have hb2 := bitZ_01 v k
      have HB1 := Lib.hid hb1
      have HB2 := Lib.hid hb2
      have hsh : (a + (k : Int)).toNat = a.toNat + k := by omega
      have HSH := Lib.hid hsh
      rw [← hy]
      clear hs hxb hbp hy hI hb1 hb2 hsh
      by_cases hbit : bitZ x (a.toNat + k) = bitZ v k
      · have hbb : (bitZ x (a.toNat + k) != bitZ v k) = false := by simp [hbit]
        have HBIT := Lib.hid hbit
        clear hbit
        go_wp2_with (go_at_call 27; refine (bit_any _ _ (by omega) (by omega) _).mono ?_; rintro e w' ⟨rfl, rfl⟩; (try rw [HSH.out, HBP.out]); (try rw [Int.toNat_natCast]))
        refine ⟨⟨k + 1, by omega, by go_num, ?_⟩, by simp [intOf]; omega⟩
        rw [HS.out, HBIT.out]
        go_num
      · have hbb : (bitZ x (a.toNat + k) != bitZ v k) = true := by simp [hbit]
        have HBIT := Lib.hid hbit
        clear hbit
        go_wp2_with (go_at_call 27; refine (bit_any _ _ (by omega) (by omega) _).mono ?_; rintro e w' ⟨rfl, rfl⟩; (try rw [HSH.out, HBP.out]); (try rw [Int.toNat_natCast]))
        refine ⟨⟨k + 1, by omega, by go_num, ?_⟩, by simp [intOf]; omega⟩
        rw [HS.out, HSH.out, IntWalk.wrap64_in _ (by omega), HXB.out]
        congr 1
        have h1 := HB1.out
        have h2 := HB2.out
        have h3 := HBIT.out
        rcases h1 with h1 | h1
        · rw [if_pos h1]
          have : bitZ v k = 1 := by omega
          rw [this, h1]; omega
        · rw [if_neg (by omega)]
          have : bitZ v k = 0 := by omega
          rw [this, h1]; omega
    · obtain rfl : (k : Int) = d := by omega
      go_wp2
      go_ret
      exact ⟨ret_int rfl, (Below.refl _ _).alloc (Nat.le_refl _) _⟩

set_option maxHeartbeats 400000 in
theorem ints_any (A A' : Option Addr) (cap cap' : Nat) (xs ys : List Int) (hlen : xs.length ≤ 1000) (w : World) (hX : RowAt encI 1 w w.heap.size A xs) (hY : RowAt encI 1 w w.heap.size A' ys) :
    Calls Try.prog 24 #[.slice A xs.length cap, .slice A' ys.length cap'] w fun e w' => e = .returned (.bool (decide (xs = ys))) ∧ Below w.heap.size w w' := by
  by_cases hl : xs.length = ys.length
  case neg =>
    have hl' : (((xs.length : Nat) : Int) != ((ys.length : Nat) : Int)) = true := by simp; omega
    have hz : decide (xs = ys) = false := by simp; rintro rfl; exact hl rfl
    have HZ := Lib.hid hz
    clear hz
    go_enter Try.func24, Try.ntmps24
    go_wp2
    go_ret
    exact ⟨ret_bool HZ.out.symm, Below.refl _ _⟩
  case pos =>
    have hl' : (((xs.length : Nat) : Int) != ((ys.length : Nat) : Int)) = false := by simp; omega
    have hle : xs.length ≤ ys.length := by omega
    have HL := Lib.hid hl
    clear hl
    go_enter Try.func24, Try.ntmps24
    go_wp2
    go_loopw [5] (fun i wr => ∃ k : Nat, k ≤ xs.length ∧ i = .int .i64 k ∧ xs.take k = ys.take k ∧ ∃ n, wr = w.drewN n)
      (fun i _ => xs.length - (intOf i).toNat)
    case atStart => exact ⟨0, Nat.zero_le _, rfl, rfl, 0, rfl⟩
    case round =>
      obtain ⟨k, hk, rfl, ht, n, rfl⟩ := hrel
      have HT := Lib.hid ht
      clear ht
      by_cases hlt : k < xs.length
      · have hlt' : k < ys.length := by omega
        obtain ⟨b, off, rfl, hbl, hc⟩ := intAt hX hlt
        obtain ⟨b2, off2, rfl, hbl2, hc2⟩ := intAt hY hlt'
        obtain ⟨p, hp⟩ : ∃ p, p = xs[k] := ⟨_, rfl⟩
        obtain ⟨q, hq⟩ : ∃ q, q = ys[k] := ⟨_, rfl⟩
        rw [← hp] at hc
        rw [← hq] at hc2
        have HP := Lib.hid hp
        have HQ := Lib.hid hq
        clear hp hq
        have hi1 : (k : Int) < (xs.length : Int) := by omega
        have hi2 : (k : Int) < (ys.length : Int) := by omega
        by_cases hpq : p = q
        · have hb : (p != q) = false := by simp [hpq]
          have HPQ := Lib.hid hpq
          clear hpq
          go_wp2
          go_quiet (fail)
          go_wp2
          go_roundw
          case rel => exact ⟨k + 1, by omega, by go_num, by rw [List.take_succ_eq_append_getElem hlt, List.take_succ_eq_append_getElem hlt', HT.out, ← HP.out, ← HQ.out, HPQ.out], _, rfl⟩
          case measure => simp [intOf]; omega
        · have hb : (p != q) = true := by simp [hpq]
          have hne : decide (xs = ys) = false := by
            rw [decide_eq_false_iff_not]
            intro he
            apply hpq
            rw [HP.out, HQ.out]
            simp only [he]
          have HNE := Lib.hid hne
          clear hpq hne
          go_wp2
          go_quiet (fail)
          go_wp2
          go_ret
          exact ⟨ret_bool HNE.out.symm, below_drewN (below_drewN (Below.refl _ _) _) _⟩
      · obtain rfl : k = xs.length := by omega
        go_wp2
        go_ret
        refine ⟨ret_bool ?_, below_drewN (Below.refl _ _) _⟩
        have := HT.out
        rw [List.take_length, HL.out, List.take_length] at this
        simp [this]
end Go.Proofs.Ytljgocfmmdpdfaa
