import Derived.Test.YtljgocfmmdpdfaaFieldLaws
namespace Go.Proofs.Ytljgocfmmdpdfaa
open Go.RowKit Go.Fld
set_option linter.unusedVariables false
attribute [local go_sem ↓] Go.wp_at_zero Go.wp_at_succ

set_option maxHeartbeats 2000000 in
theorem partsL_walk (A : Option Addr) (cap : Nat) (fs : List (Int × Int)) (hcap : fs.length ≤ cap) (hgf : ∀ f ∈ fs, I64 f.1 ∧ I64 f.2) (w : World) (hR : RowAt encF 2 w w.heap.size A fs) (A' : Option Addr) (cap' : Nat) (vs : List Int) (hcap' : vs.length ≤ cap') (hgv : ∀ x ∈ vs, I64 x) (hV : RowAt encI 1 w w.heap.size A' vs) (x : Int) (hx : I64 x) :
    Calls Try.prog 7 #[.slice A fs.length cap, .slice A' vs.length cap', .int .i64 x] w fun e w' => e = .returned (.bool true) ∧ Below w.heap.size w w' := by
  have hB0 := Below.refl w.heap.size w
  by_cases hbig : 20 < fs.length ∨ 20 < vs.length
  · go_enter Try.func7, Try.ntmps7
    go_wp2_with fail
    refine (awake_any _).mono ?_
    rintro e w1 ⟨rfl, hb⟩
    have hB1 := hB0.trans (hb.mono hB0.size)
    clear hb
    go_wp2_with fail
    all_goals first | (exfalso; omega) | (go_ret; exact ⟨rfl, hB1⟩)
  · have hl1 : fs.length ≤ 20 := by omega
    have hl2 : vs.length ≤ 20 := by omega
    have hl3 : decide ((20 : Int) < (fs.length : Int)) = false := by simp; omega
    have hl4 : decide ((20 : Int) < (vs.length : Int)) = false := by simp; omega
    clear hbig
    have hpl := fun z => Nat.le_trans (partsZ_len z fs) hl1
    have HPL := Lib.hid hpl
    clear hpl
    cases hpz : packZ fs vs with
    | some z =>
      have hps := parts_pack hpz
      have hap := (pack_apart hpz).2.1
      have hpr : packR (packZ fs vs) = .tuple #[.int .i64 z, .bool true] := by rw [hpz]; rfl
      obtain ⟨y, hy⟩ := pack_parts hap x
      have hpy := parts_pack hy
      have hy0 := (pack_bd hy).1
      have hpr2 : packR (packZ fs (partsZ x fs)) = .tuple #[.int .i64 y, .bool true] := by rw [hy]; rfl
      have HPS := Lib.hid hps
      have HAP := Lib.hid hap
      have HPR := Lib.hid hpr
      have HPY := Lib.hid hpy
      have HPR2 := Lib.hid hpr2
      clear hpz hps hap hpr hy hpy hpr2
      go_enter Try.func7, Try.ntmps7
      go_wp2_with fail
      refine (awake_any _).mono ?_
      rintro e w1 ⟨rfl, hb⟩
      have hB1 := hB0.trans (hb.mono hB0.size)
      clear hb
      go_wp2_with fail
      refine (pack_any _ _ _ _ _ _ hcap (by omega) hcap' _ ((hR.below hB1).more hB1.size) ((hV.below hB1).more hB1.size)).mono ?_
      rintro e w2 ⟨rfl, hb⟩
      rw [HPR.out]
      have hB2 := hB1.trans (hb.mono hB1.size)
      clear hb
      go_wp2_with fail
      refine (parts_any z _ _ _ hcap (by omega) _ ((hR.below hB2).more hB2.size)).mono ?_
      rintro e w3 ⟨⟨v1, rfl, hs1⟩, hb⟩
      have hB3 := hB2.trans (hb.mono hB2.size)
      rw [HPS.out] at hs1
      clear hb
      obtain ⟨A1, cp1, rfl, hcp1, hrow1⟩ := hs1
      go_wp2_with fail
      refine (ints_any _ _ _ _ vs vs (by omega) _ hrow1 ((hV.below hB3).more hB3.size)).mono ?_
      rintro e w4 ⟨rfl, hb⟩
      rw [show decide (vs = vs) = true by simp]
      have hB4 := hB3.trans (hb.mono hB3.size)
      clear hb
      go_wp2_with fail
      refine (apart_any _ _ _ hcap (by omega) _ ((hR.below hB4).more hB4.size)).mono ?_
      rintro e w5 ⟨rfl, hb⟩
      rw [HAP.out]
      have hB5 := hB4.trans (hb.mono hB4.size)
      clear hb
      go_wp2_with fail
      refine (parts_any x _ _ _ hcap (by omega) _ ((hR.below hB5).more hB5.size)).mono ?_
      rintro e w6 ⟨⟨v2, rfl, hs2⟩, hb⟩
      have hB6 := hB5.trans (hb.mono hB5.size)
      clear hb
      obtain ⟨A2, cp2, rfl, hcp2, hrow2⟩ := hs2
      go_wp2_with fail
      refine (pack_any _ _ _ _ fs (partsZ x fs) hcap (by omega) hcp2 _ ((hR.below hB6).more hB6.size) hrow2).mono ?_
      rintro e w7 ⟨rfl, hb⟩
      rw [HPR2.out]
      have hB7 := hB6.trans (hb.mono hB6.size)
      replace hrow2 := (hrow2.below hb).more hb.size
      clear hb
      go_wp2_with fail
      refine (parts_any y _ _ _ hcap (by omega) _ ((hR.below hB7).more hB7.size)).mono ?_
      rintro e w8 ⟨⟨v3, rfl, hs3⟩, hb⟩
      have hB8 := hB7.trans (hb.mono hB7.size)
      replace hrow2 := (hrow2.below hb).more hb.size
      rw [HPY.out] at hs3
      clear hb
      obtain ⟨A3, cp3, rfl, hcp3, hrow3⟩ := hs3
      go_wp2_with fail
      refine (ints_any _ _ _ _ (partsZ x fs) (partsZ x fs) (Nat.le_trans (HPL.out x) (by omega)) _ hrow3 hrow2).mono ?_
      rintro e w9 ⟨rfl, hb⟩
      rw [show decide (partsZ x fs = partsZ x fs) = true by simp]
      have hB9 := hB8.trans (hb.mono hB8.size)
      clear hb
      go_wp2
      go_ret
      exact ⟨rfl, hB9⟩
    | none =>
      by_cases hap : apartB fs = true
      · have hpr : packR (packZ fs vs) = .tuple #[.int .i64 0, .bool false] := by rw [hpz]; rfl
        obtain ⟨y, hy⟩ := pack_parts hap x
        have hpy := parts_pack hy
        have hy0 := (pack_bd hy).1
        have hpr2 : packR (packZ fs (partsZ x fs)) = .tuple #[.int .i64 y, .bool true] := by rw [hy]; rfl
        have HAP := Lib.hid hap
        have HPR := Lib.hid hpr
        have HPY := Lib.hid hpy
        have HPR2 := Lib.hid hpr2
        clear hpz hap hpr hy hpy hpr2
        go_enter Try.func7, Try.ntmps7
        go_wp2_with fail
        refine (awake_any _).mono ?_
        rintro e w1 ⟨rfl, hb⟩
        have hB1 := hB0.trans (hb.mono hB0.size)
        clear hb
        go_wp2_with fail
        refine (pack_any _ _ _ _ _ _ hcap (by omega) hcap' _ ((hR.below hB1).more hB1.size) ((hV.below hB1).more hB1.size)).mono ?_
        rintro e w2 ⟨rfl, hb⟩
        rw [HPR.out]
        have hB2 := hB1.trans (hb.mono hB1.size)
        clear hb
        go_wp2_with fail
        refine (apart_any _ _ _ hcap (by omega) _ ((hR.below hB2).more hB2.size)).mono ?_
        rintro e w3 ⟨rfl, hb⟩
        rw [HAP.out]
        have hB3 := hB2.trans (hb.mono hB2.size)
        clear hb
        go_wp2_with fail
        refine (parts_any x _ _ _ hcap (by omega) _ ((hR.below hB3).more hB3.size)).mono ?_
        rintro e w4 ⟨⟨v2, rfl, hs2⟩, hb⟩
        have hB4 := hB3.trans (hb.mono hB3.size)
        clear hb
        obtain ⟨A2, cp2, rfl, hcp2, hrow2⟩ := hs2
        go_wp2_with fail
        refine (pack_any _ _ _ _ fs (partsZ x fs) hcap (by omega) hcp2 _ ((hR.below hB4).more hB4.size) hrow2).mono ?_
        rintro e w5 ⟨rfl, hb⟩
        rw [HPR2.out]
        have hB5 := hB4.trans (hb.mono hB4.size)
        replace hrow2 := (hrow2.below hb).more hb.size
        clear hb
        go_wp2_with fail
        refine (parts_any y _ _ _ hcap (by omega) _ ((hR.below hB5).more hB5.size)).mono ?_
        rintro e w6 ⟨⟨v3, rfl, hs3⟩, hb⟩
        have hB6 := hB5.trans (hb.mono hB5.size)
        replace hrow2 := (hrow2.below hb).more hb.size
        rw [HPY.out] at hs3
        clear hb
        obtain ⟨A3, cp3, rfl, hcp3, hrow3⟩ := hs3
        go_wp2_with fail
        refine (ints_any _ _ _ _ (partsZ x fs) (partsZ x fs) (Nat.le_trans (HPL.out x) (by omega)) _ hrow3 hrow2).mono ?_
        rintro e w7 ⟨rfl, hb⟩
        rw [show decide (partsZ x fs = partsZ x fs) = true by simp]
        have hB7 := hB6.trans (hb.mono hB6.size)
        clear hb
        go_wp2
        go_ret
        exact ⟨rfl, hB7⟩
      · have hpr : packR (packZ fs vs) = .tuple #[.int .i64 0, .bool false] := by rw [hpz]; rfl
        have hap' : apartB fs = false := by simpa using hap
        have HAP := Lib.hid hap'
        have HPR := Lib.hid hpr
        clear hpz hap hpr hap'
        go_enter Try.func7, Try.ntmps7
        go_wp2_with fail
        refine (awake_any _).mono ?_
        rintro e w1 ⟨rfl, hb⟩
        have hB1 := hB0.trans (hb.mono hB0.size)
        clear hb
        go_wp2_with fail
        refine (pack_any _ _ _ _ _ _ hcap (by omega) hcap' _ ((hR.below hB1).more hB1.size) ((hV.below hB1).more hB1.size)).mono ?_
        rintro e w2 ⟨rfl, hb⟩
        rw [HPR.out]
        have hB2 := hB1.trans (hb.mono hB1.size)
        clear hb
        go_wp2_with fail
        refine (apart_any _ _ _ hcap (by omega) _ ((hR.below hB2).more hB2.size)).mono ?_
        rintro e w3 ⟨rfl, hb⟩
        rw [HAP.out]
        have hB3 := hB2.trans (hb.mono hB2.size)
        clear hb
        go_wp2_with fail
        go_ret
        exact ⟨rfl, hB3⟩

set_option maxHeartbeats 2000000 in
theorem sum_walk (A : Option Addr) (cap : Nat) (fs : List (Int × Int)) (hcap : fs.length ≤ cap) (hgf : ∀ f ∈ fs, I64 f.1 ∧ I64 f.2) (w : World) (hR : RowAt encF 2 w w.heap.size A fs) (A' : Option Addr) (cap' : Nat) (vs : List Int) (hcap' : vs.length ≤ cap') (hgv : ∀ x ∈ vs, I64 x) (hV : RowAt encI 1 w w.heap.size A' vs) :
    Calls Try.prog 9 #[.slice A fs.length cap, .slice A' vs.length cap'] w fun e w' => e = .returned (.bool true) ∧ Below w.heap.size w w' := by
  have hB0 := Below.refl w.heap.size w
  by_cases hbig : 20 < fs.length
  · go_enter Try.func9, Try.ntmps9
    go_wp2_with fail
    refine (awake_any _).mono ?_
    rintro e w1 ⟨rfl, hb⟩
    have hB1 := hB0.trans (hb.mono hB0.size)
    clear hb
    go_wp2_with fail
    go_ret
    exact ⟨rfl, hB1⟩
  · have hl1 : fs.length ≤ 20 := by omega
    have hl3 : decide ((20 : Int) < (fs.length : Int)) = false := by simp; omega
    clear hbig
    cases hpz : packZ fs vs with
    | none =>
      have hpr : packR (packZ fs vs) = .tuple #[.int .i64 0, .bool false] := by rw [hpz]; rfl
      have HPR := Lib.hid hpr
      clear hpz hpr
      go_enter Try.func9, Try.ntmps9
      go_wp2_with fail
      refine (awake_any _).mono ?_
      rintro e w1 ⟨rfl, hb⟩
      have hB1 := hB0.trans (hb.mono hB0.size)
      clear hb
      go_wp2_with fail
      refine (pack_any _ _ _ _ _ _ hcap (by omega) hcap' _ ((hR.below hB1).more hB1.size) ((hV.below hB1).more hB1.size)).mono ?_
      rintro e w2 ⟨rfl, hb⟩
      rw [HPR.out]
      have hB2 := hB1.trans (hb.mono hB1.size)
      clear hb
      go_wp2_with fail
      go_ret
      exact ⟨rfl, hB2⟩
    | some z =>
      have hpr : packR (packZ fs vs) = .tuple #[.int .i64 z, .bool true] := by rw [hpz]; rfl
      obtain ⟨hlen, hap, hgo⟩ := pack_apart hpz
      have hfar := zip_far (vs := vs) (apart_far hap)
      have h62 := right_62 hap
      have hri : ∀ k (h : k < fs.length), rightB fs[k].1 fs[k].2 = true := fun k h => ((apartB_iff fs).1 hap).1 _ (List.getElem_mem h)
      have HPR := Lib.hid hpr
      have HLEN := Lib.hid hlen
      have HGO := Lib.hid hgo
      have HFAR := Lib.hid hfar
      have H62 := Lib.hid h62
      have HRI := Lib.hid hri
      have hlv : fs.length ≤ vs.length := by omega
      clear hpz hpr hlen hap hgo hfar h62 hri
      go_enter Try.func9, Try.ntmps9
      go_wp2_with fail
      refine (awake_any _).mono ?_
      rintro e w1 ⟨rfl, hb⟩
      have hB1 := hB0.trans (hb.mono hB0.size)
      clear hb
      go_wp2_with fail
      refine (pack_any _ _ _ _ _ _ hcap (by omega) hcap' _ ((hR.below hB1).more hB1.size) ((hV.below hB1).more hB1.size)).mono ?_
      rintro e w2 ⟨rfl, hb⟩
      rw [HPR.out]
      have hB2 := hB1.trans (hb.mono hB1.size)
      clear hb
      go_wp2_with fail
      go_loopw [8, 9] (fun s i wr => ∃ (k : Nat) (q : Int), k ≤ fs.length ∧ i = .int .i64 k ∧ s = .int .i64 q ∧ packGo 0 ((fs.zip vs).take k) = some q ∧ 0 ≤ q ∧ q < 4611686018427387904 ∧ Below w.heap.size w wr)
        (fun _ i _ => fs.length - (intOf i).toNat)
      case atStart => exact ⟨0, 0, Nat.zero_le _, rfl, rfl, by simp [packGo], by omega, by omega, hB2⟩
      case round =>
        obtain ⟨k, q, hk, rfl, rfl, hgo, hq0, hq1, hB⟩ := hrel
        have hsz := hB.size
        by_cases hlt : k < fs.length
        · have hlt2 : k < vs.length := by omega
          obtain ⟨b, off, rfl, hbl, hc0, hc1⟩ := fieldAt (hR.below hB) hlt
          obtain ⟨b2, off2, rfl, hbl2, hv⟩ := intAt (hV.below hB) hlt2
          have hzl : k < (fs.zip vs).length := by simp; omega
          have hnx : (fs.zip vs).take (k + 1) = (fs.zip vs).take k ++ [(fs[k], vs[k])] := by
            rw [List.take_succ_eq_append_getElem hzl, List.getElem_zip]
          have hr := rightB_t.1 (HRI.out k hlt)
          obtain ⟨p, hp⟩ : ∃ p, p = fs[k] := ⟨_, rfl⟩
          obtain ⟨u, hu⟩ : ∃ u, u = vs[k] := ⟨_, rfl⟩
          rw [← hp] at hc0 hr
          rw [← hu] at hv
          rw [← hp, ← hu] at hnx
          -- the next word, and that it is the sum
          have hsplit : packGo 0 ((fs.zip vs).take k ++ [(p, u)]) ≠ none := by
            intro hn
            rw [← hnx] at hn
            have := packGo_append_none (r := (fs.zip vs).drop (k + 1)) hn
            rw [List.take_append_drop, HGO.out] at this
            cases this
          rw [packGo_snoc, hgo] at hsplit
          simp only [Option.bind_some] at hsplit
          have hin : ¬(u < 0 ∨ 2 ^ p.2.toNat - 1 < u) := by
            intro hc; rw [if_pos hc] at hsplit; exact hsplit rfl
          have hgo2 : packGo 0 ((fs.zip vs).take (k + 1)) = some (putZ q p.1.toNat p.2.toNat u) := by
            rw [hnx, packGo_snoc, hgo]
            simp only [Option.bind_some]
            rw [if_neg hin]
          have hg0 : getZ q p.1.toNat p.2.toNat = 0 := by
            have h1 := packGo_far hgo (g := p) (fun r hr' => ?_)
            · rw [show getZ q p.1.toNat p.2.toNat = gz q p from rfl, h1]; exact gz_zero _
            · have h2 := HFAR.out
              rw [← List.take_append_drop (k + 1) (fs.zip vs), hnx] at h2
              rw [List.pairwise_append, List.pairwise_append] at h2
              exact h2.1.2.2 r hr' (p, u) (by simp)
          have hm : u % 2 ^ p.2.toNat = u := Int.emod_eq_of_lt (by omega) (by omega)
          have hput : putZ q p.1.toNat p.2.toNat u = q + u * 2 ^ p.1.toNat := by
            unfold putZ; rw [hg0, hm]; omega
          rw [hput] at hgo2
          have hbd := packGo_bd hgo2 (fun r hr' => H62.out _ (List.of_mem_zip (List.mem_of_mem_take hr')).1) (by omega) (by omega)
          have hfb := field_bd (g := u) (a := p.1.toNat) (d := p.2.toNat) (by omega) (by omega) (by omega)
          obtain ⟨T, hT⟩ : ∃ T, T = u * 2 ^ p.1.toNat := ⟨_, rfl⟩
          rw [← hT] at hbd hgo2 hfb
          have hw : wrap64 T = T := IntWalk.wrap64_in _ (by omega)
          have hwi : IntKind.i64.wrap T = T := IntWalk.i64_in _ (by omega)
          have hwj : IntKind.i64.wrap (q + T) = q + T := IntWalk.i64_in _ (by omega)
          have HT := Lib.hid hT
          have HG2 := Lib.hid hgo2
          have HW := Lib.hid hw
          have HWI := Lib.hid hwi
          have HWJ := Lib.hid hwj
          have ha0 : 0 ≤ p.1 := hr.1
          have ha1 : p.1 ≤ 64 := by omega
          have hi1 : (k : Int) < (fs.length : Int) := by omega
          have hi2 : (k : Int) < (vs.length : Int) := by omega
          clear hT hgo2 hw hwi hwj hput hm hg0 hin hsplit hnx hgo hr hc1 hp hu
          go_wp2
          go_quiet (fail)
          go_wp2
          refine ⟨⟨k + 1, q + T, by omega, by go_num, ?_, HG2.out, hbd.1, hbd.2, below_drewN hB _⟩, by simp [intOf]; omega⟩
          rw [← HT.out, HW.out, IntWalk.wrap64_in _ (by omega)]
        · obtain rfl : k = fs.length := by omega
          have hzq : q = z := by
            rw [List.take_of_length_le (by simp; omega), HGO.out] at hgo
            simpa using hgo.symm
          subst hzq
          go_wp2
          go_ret
          exact ⟨rfl, hB⟩
end Go.Proofs.Ytljgocfmmdpdfaa
