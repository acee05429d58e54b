import Derived.Test.YtljgocfmmdpdfaaTurn
namespace Go.Proofs.Ytljgocfmmdpdfaa
open Go.RowKit Go.Fld
set_option linter.unusedVariables false
attribute [local go_sem ↓] Go.wp_at_zero Go.wp_at_succ

theorem own_grown {w w' : World} {base : Nat} {e : TypeId} {size : Nat} {v : Value} {n : Nat} {xs : List Value} {row : Option Nat} (h : w.ownsRow base e size v n xs) (hg : w.grownBy w' row) (hne : ∀ g, v.ownBlock = some g → some g ≠ row) : w'.ownsRow base e size v n xs := by
  refine ⟨h.1, ?_⟩
  rcases h.2 with h2 | ⟨g, cap, cur, rfl, hb, hh, r⟩
  · exact .inl h2
  · exact .inr ⟨g, cap, cur, rfl, hb, by rw [hg.block g (Array.getElem?_eq_some_iff.1 hh).1 (hne g rfl)]; exact hh, r⟩
theorem own_ne {w : World} {base base' : Nat} {e e' : TypeId} {size size' : Nat} {v v' : Value} {n n' : Nat} {xs xs' : List Value} (h : w.ownsRow base e size v n xs) (h' : w.ownsRow base' e' size' v' n' xs') (hne : e ≠ e') : ∀ g, v.ownBlock = some g → some g ≠ v'.ownBlock := by
  rintro g hg hg'
  rcases h.2 with ⟨rfl, _⟩ | ⟨b, cap, cur, rfl, _, hh, _⟩
  · simp [Value.ownBlock] at hg
  rcases h'.2 with ⟨rfl, _⟩ | ⟨b', cap', cur', rfl, _, hh', _⟩
  · simp [Value.ownBlock] at hg'
  simp [Value.ownBlock] at hg hg'
  subst hg hg'
  rw [hh] at hh'
  injection hh' with hh'
  injection hh' with _ ht
  exact hne ht
theorem own_from {w : World} {base : Nat} {e : TypeId} {size : Nat} {v : Value} {n : Nat} {xs : List Value} (h : w.ownsRow base e size v n xs) : ∀ k, v.ownBlock = some k → base ≤ k := by
  intro k hk
  rcases h.2 with ⟨rfl, _⟩ | ⟨b, cap, cur, rfl, hb, _⟩
  · simp [Value.ownBlock] at hk
  · simp [Value.ownBlock] at hk; omega

set_option maxHeartbeats 4000000 in
theorem turns_walk (A : Option Addr) (cap : Nat) (fs : List (Int × Int)) (hcap : fs.length ≤ cap) (hgf : ∀ f ∈ fs, I64 f.1 ∧ I64 f.2) (w : World) (hR : RowAt encF 2 w w.heap.size A fs) (A' : Option Addr) (cap' : Nat) (vs : List Int) (hcap' : vs.length ≤ cap') (hgv : ∀ x ∈ vs, I64 x) (hV : RowAt encI 1 w w.heap.size A' vs) (n : Nat) (hn : n ≤ 255) :
    Calls Try.prog 8 #[.slice A fs.length cap, .slice A' vs.length cap', .int .u8 n] w fun e w' => e = .returned (.bool true) ∧ Below w.heap.size w w' := by
  have hB0 := Below.refl w.heap.size w
  by_cases hbig : 20 < fs.length ∨ vs.length ≠ fs.length
  · have hb2 : 20 < fs.length ∨ ((vs.length : Int) != (fs.length : Int)) = true := by
      rcases hbig with h | h
      · exact .inl h
      · right; simp; omega
    clear hbig
    rcases hb2 with hb3 | hb3
    · go_enter Try.func8, Try.ntmps8
      go_wp2_with fail
      refine (awake_any _).mono ?_
      rintro e w1 ⟨rfl, hb⟩
      have hB1 := hB0.trans (hb.mono hB0.size)
      clear hb
      go_wp2_with fail
      go_ret
      exact ⟨rfl, hB1⟩
    · go_enter Try.func8, Try.ntmps8
      go_wp2_with fail
      refine (awake_any _).mono ?_
      rintro e w1 ⟨rfl, hb⟩
      have hB1 := hB0.trans (hb.mono hB0.size)
      clear hb
      go_wp2_with fail
      all_goals first | (exfalso; omega) | (go_ret; exact ⟨rfl, hB1⟩)
  · have hl1 : fs.length ≤ 20 := by omega
    have hl2 : vs.length = fs.length := by omega
    have hl3 : decide ((20 : Int) < (fs.length : Int)) = false := by simp; omega
    have hl4 : ((vs.length : Int) != (fs.length : Int)) = false := by simp [hl2]
    clear hbig
    obtain ⟨i0, hi, hz0, hz1, hz2⟩ := info_parts Try.info3
    obtain ⟨j0, hj, hy0, hy1, hy2⟩ := info_parts Try.info23
    have hle : vs.length ≤ fs.length := by omega
    have hge : fs.length ≤ vs.length := by omega
    have HL := Lib.hid hl2
    clear hl2
    go_enter Try.func8, Try.ntmps8
    go_wp2_with fail
    refine (awake_any _).mono ?_
    rintro e w1 ⟨rfl, hb⟩
    have hB1 := hB0.trans (hb.mono hB0.size)
    clear hb
    go_wp2_with fail
    go_loopw [8, 9, 10] (fun mv uv i wr => ∃ k : Nat, k ≤ fs.length ∧ i = .int .i64 k ∧ wr.ownsRow w.heap.size 23 2 mv k ((turnTo fs (n % fs.length) k).flatMap encF) ∧ wr.ownsRow w.heap.size 3 1 uv k ((turnTo vs (n % vs.length) k).flatMap encI) ∧ Below w.heap.size w wr)
      (fun _ _ i _ => fs.length - (intOf i).toNat)
    case atStart => exact ⟨0, Nat.zero_le _, rfl, by simpa [turnTo] using World.ownsRow_nil _ _ _ _, by simpa [turnTo] using World.ownsRow_nil _ _ _ _, hB1⟩
    case round =>
      obtain ⟨k, hk, rfl, ho1, ho2, hB⟩ := hrel
      have hsz := hB.size
      by_cases hlt : k < fs.length
      · obtain ⟨hj1, ht1⟩ := turn_at fs n k hlt
        obtain ⟨hj2, ht2⟩ := turn_at vs n k (by omega)
        have hjj : (k + n) % vs.length = (k + n) % fs.length := by rw [HL.out]
        obtain ⟨b, off, rfl, hbl, hc0, hc1⟩ := fieldAt (hR.below hB) hj1
        obtain ⟨b2, off2, rfl, hbl2, hv⟩ := intAt (hV.below hB) hj2
        obtain ⟨p, hp⟩ : ∃ p, p = fs[(k + n) % fs.length] := ⟨_, rfl⟩
        obtain ⟨u, hu⟩ : ∃ u, u = vs[(k + n) % vs.length] := ⟨_, rfl⟩
        rw [← hp] at hc0 hc1 ht1
        rw [← hu] at hv ht2
        clear hp hu
        rw [hjj] at hv hj2
        obtain ⟨j, hjd⟩ : ∃ j, j = (k + n) % fs.length := ⟨_, rfl⟩
        have hmod : ((k : Int) + (n : Int)) % (fs.length : Int) = (j : Int) := by rw [hjd]; simp
        rw [← hjd] at hc0 hc1 hv hj1 hj2
        have HT1 := Lib.hid ht1
        have HT2 := Lib.hid ht2
        have HO1 := Lib.hid ho1
        have HO2 := Lib.hid ho2
        have hji : (j : Int) < (fs.length : Int) := by omega
        have hji2 : (j : Int) < (vs.length : Int) := by omega
        have hkn : (k : Int) + (n : Int) ≤ 1000 := by omega
        have hpos : (1 : Int) ≤ (fs.length : Int) := by omega
        have hbw : b < wr.heap.size := by omega
        have hbw2 : b2 < wr.heap.size := by omega
        clear ht1 ht2 ho1 ho2 hjj hjd
        go_wp2_with (at_builtin; refine wpList_append_own _ rfl _ _ 30 rfl w.heap.size 23 j0 (.agg #[.int .i64 0, .int .i64 0]) 2 16 Try.underlying30 hj hy0 hy1 hy2 rfl (by decide) _ _ _ rfl (HO1.out.alloc _) ⟨wr.heap.size, 0, none⟩ 1 1 [.int .i64 p.1, .int .i64 p.2] rfl rfl ?c1 ?c2 ?c3 ?c4 ?c5 ?_)
        case c1 => exact cell_two_new _ _ _ _
        case c2 => simp [Value.oneCell']
        case c3 => unfold maxLen; omega
        case c4 => omega
        case c5 => simp; omega
        intro v1 w2 hown1 hg1 _
        have hB2 : Below w.heap.size w w2 := (hB.alloc hsz _).grown hg1 (by simp; omega) (own_from HO1.out)
        have hO2 := own_grown (HO2.out.alloc (.cells #[.int .i64 p.1, .int .i64 p.2] 23)) hg1 (own_ne (HO2.out.alloc (.cells #[.int .i64 p.1, .int .i64 p.2] 23)) (HO1.out.alloc _) (by decide))
        have hsz2 := hB2.size
        obtain ⟨g1, cp1, rfl⟩ := ownsRow_succ hown1
        have hv2 : w2.cell? ⟨b2, off2 + j, none⟩ = some (.int .i64 u) := (hB2.cell (p := ⟨b2, off2 + j, none⟩) hbl2).trans ((hB.cell (p := ⟨b2, off2 + j, none⟩) hbl2).symm.trans hv)
        have hbw3 : b2 < w2.heap.size := by omega
        have HO3 := Lib.hid hown1
        have HO4 := Lib.hid hO2
        clear hown1 hO2 hg1 hc0 hc1 hv hbw hbw2
        go_wp2_with (at_builtin; refine wpList_append_own _ rfl _ _ 31 rfl w.heap.size 3 i0 (.int .i64 0) 1 8 Try.underlying31 hi hz0 hz1 hz2 rfl (by decide) _ _ _ rfl (HO4.out.alloc _) ⟨w2.heap.size, 0, none⟩ 1 1 [.int .i64 u] rfl rfl ?c1 ?c2 ?c3 ?c4 ?c5 ?_)
        case c1 => exact cell_one_new _ _ _
        case c2 => simp [Value.oneCell']
        case c3 => unfold maxLen; omega
        case c4 => omega
        case c5 => simp; omega
        intro v2 w3 hown2 hg2 _
        have hB3 : Below w.heap.size w w3 := (hB2.alloc hsz2 _).grown hg2 (by simp; omega) (own_from HO4.out)
        have hO5 := own_grown (HO3.out.alloc (.cells #[.int .i64 u] 3)) hg2 (own_ne (HO3.out.alloc (.cells #[.int .i64 u] 3)) (HO4.out.alloc _) (by decide))
        obtain ⟨g2, cp2, rfl⟩ := ownsRow_succ hown2
        have HO6 := Lib.hid hown2
        have HO7 := Lib.hid hO5
        clear hown2 hO5 hg2 hv2 hbw3
        go_wp2
        go_roundw
        case rel =>
          refine ⟨k + 1, by omega, by go_num, ?_, ?_, hB3⟩
          · rw [HT1.out, List.flatMap_append]; simpa [encF] using HO7.out
          · rw [HT2.out, List.flatMap_append]; simpa [encI] using HO6.out
        case measure => simp [intOf]; omega
      · obtain rfl : k = fs.length := by omega
        have hlt1 : (turnTo fs (n % fs.length) fs.length).length = fs.length := turnTo_len _ _ _ (Nat.le_refl _)
        have hlt2 : (turnTo vs (n % vs.length) vs.length).length = vs.length := turnTo_len _ _ _ (Nat.le_refl _)
        rw [turnTo_all] at ho1 hlt1
        rw [← HL.out, turnTo_all] at ho2
        rw [turnTo_all] at hlt2
        rw [HL.out] at ho2
        have hpz : packZ (fs.drop (n % fs.length) ++ fs.take (n % fs.length)) (vs.drop (n % fs.length) ++ vs.take (n % fs.length)) = packZ fs vs := packZ_turn fs vs HL.out _
        have hpa : apartB (fs.drop (n % fs.length) ++ fs.take (n % fs.length)) = apartB fs := by
          apply apart_perm
          have := List.perm_append_comm (l₁ := fs.drop (n % fs.length)) (l₂ := fs.take (n % fs.length))
          rw [List.take_append_drop] at this
          exact this
        rw [HL.out] at hlt2
        obtain ⟨ms, hms⟩ : ∃ ms, ms = fs.drop (n % fs.length) ++ fs.take (n % fs.length) := ⟨_, rfl⟩
        obtain ⟨us, hus⟩ : ∃ us, us = vs.drop (n % fs.length) ++ vs.take (n % fs.length) := ⟨_, rfl⟩
        rw [← hms, ← hus] at hpz
        rw [← hms] at hpa hlt1 ho1
        rw [← hus] at hlt2 ho2
        rw [show fs.length = us.length by omega] at ho2
        rw [show fs.length = ms.length by omega] at ho1
        obtain ⟨A3, cp3, rfl, hcp3, hr3⟩ := rowAt_own encF_len ho1
        obtain ⟨A4, cp4, rfl, hcp4, hr4⟩ := rowAt_own encI_len ho2
        have HPZ := Lib.hid hpz
        have HPA := Lib.hid hpa
        have hml : ms.length ≤ 20 := by omega
        clear hpz hpa hms hus hlt1 hlt2 ho1 ho2
        go_wp2_with fail
        refine (pack_any _ _ _ _ fs vs hcap (by omega) hcap' _ ((hR.below hB).more hsz) ((hV.below hB).more hsz)).mono ?_
        rintro e w2 ⟨rfl, hb⟩
        rw [packR_eq]
        have hB2 := hB.trans (hb.mono hsz)
        replace hr3 := (hr3.below hb).more hb.size
        replace hr4 := (hr4.below hb).more hb.size
        clear hb
        go_wp2_with fail
        refine (pack_any _ _ _ _ ms us hcp3 (by omega) hcp4 _ hr3 hr4).mono ?_
        rintro e w3 ⟨rfl, hb⟩
        rw [HPZ.out, packR_eq]
        have hB3 := hB2.trans (hb.mono hB2.size)
        replace hr3 := (hr3.below hb).more hb.size
        clear hb
        go_wp2_with fail
        refine (apart_any _ _ fs hcap (by omega) _ ((hR.below hB3).more hB3.size)).mono ?_
        rintro e w4 ⟨rfl, hb⟩
        have hB4 := hB3.trans (hb.mono hB3.size)
        replace hr3 := (hr3.below hb).more hb.size
        clear hb
        go_wp2_with fail
        refine (apart_any _ _ ms hcp3 (by omega) _ hr3).mono ?_
        rintro e w5 ⟨rfl, hb⟩
        rw [HPA.out]
        have hB5 := hB4.trans (hb.mono hB4.size)
        clear hb
        go_wp2
        go_ret
        exact ⟨rfl, hB5⟩
theorem turns_walk2 (A : Option Addr) (cap : Nat) (fs : List (Int × Int)) (hcap : fs.length ≤ cap) (hgf : ∀ f ∈ fs, I64 f.1 ∧ I64 f.2) (w : World) (hR : RowAt encF 2 w w.heap.size A fs) (A' : Option Addr) (cap' : Nat) (vs : List Int) (hcap' : vs.length ≤ cap') (hgv : ∀ x ∈ vs, I64 x) (hV : RowAt encI 1 w w.heap.size A' vs) (x : Int) (hx : 0 ≤ x ∧ x ≤ 255) :
    Calls Try.prog 8 #[.slice A fs.length cap, .slice A' vs.length cap', .int .u8 x] w fun e w' => e = .returned (.bool true) ∧ Below w.heap.size w w' := by
  obtain ⟨n, rfl⟩ := Int.eq_ofNat_of_zero_le hx.1
  exact turns_walk A cap fs hcap hgf w hR A' cap' vs hcap' hgv hV n (by omega)
end Go.Proofs.Ytljgocfmmdpdfaa
