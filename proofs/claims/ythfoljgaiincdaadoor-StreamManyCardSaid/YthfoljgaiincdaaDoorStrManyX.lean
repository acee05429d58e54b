
/- StreamMany: the whole. No condition of its own. -/
import Derived.Test.YthfoljgaiincdaaDoorStrManyW
namespace Go.Proofs.YthfoljgaiincdaaDoor
open Go.RowKit Go.Fld Go.Sx
set_option linter.unusedVariables false
set_option linter.unusedSimpArgs false
abbrev smHu (T : Tu) (S t : Int) (u v : Nat) : List Go.Sx.Blk := smH T S t (memM u v) (bitM u 0) (bitM u 1) (bitM u 2) (bitM u 3) (bitM u 4) (bitM u 5) (bitM u 6) (bitM u 7)
theorem bitX_all : (List.range 256).all (fun u => (List.range 8).all fun k => bitX (u : Int) k == bitM u k) = true := by kernel_rfl
theorem bitX_of {u k : Nat} (hu : u ≤ 255) (hk : k < 8) : bitX (u : Int) k = bitM u k := by
  have := List.all_eq_true.1 (List.all_eq_true.1 bitX_all u (List.mem_range.2 (by omega))) k (List.mem_range.2 hk)
  rwa [beq_iff_eq] at this
theorem u255 {Sn u : Nat} (hS : Sn ≤ 8) (hu : u < 2 ^ Sn) : u ≤ 255 := by
  have : 2 ^ Sn ≤ 2 ^ 8 := Nat.pow_le_pow_right (by decide) hS
  omega
theorem pop_le {Sn u : Nat} (hS : Sn ≤ 8) (hu : u < 2 ^ Sn) : popM u ≤ Sn := by
  by_cases h : low8 u < Sn
  · exact Nat.le_of_lt (openM hS hu h).few
  · exact Nat.le_of_eq (fullM hS hu h)
theorem s1_eta {s : S1} {l' : List Int} {q' : Sq} (h1 : s.l = l') (h2 : s.q = q') : s = ⟨l', s.t, q'⟩ := by
  obtain ⟨l, t, q⟩ := s
  simp only at h1 h2
  subst h1 h2
  rfl
section
variable {w : World} (hT : TT w) (T : Tu) {Sn : Nat} (hS : Sn ≤ 8)
include hT hS
/-- A call, and what is kept of it. -/
theorem sm_P {i : Nat} (hi : i < T.nt) (hx : 0 ≤ T.gi i 0 ∧ T.gi i 0 ≤ 255) {u v : Nat} (hu : u < 2 ^ Sn) (hv : v ≤ 900) (t : Int) :
    ∃ u' v' t', u' < 2 ^ Sn ∧ v' ≤ v + 1 ∧ RunsB Tryd.prog (· < w.heap.size) w 0 1 (cutA 0 smB) (unpack 175 [1, 4, 5, 6, 7, 8, 9, 10] (smV T (popM u : Nat) i) (smHu T Sn t u v)) .normal (unpack 175 [1, 4, 5, 6, 7, 8, 9, 10] (smV T (popM u' : Nat) i) (smHu T Sn t' u' v')) := by
  have h255 := u255 hS hu
  have hv9 : v ≤ 999 := by omega
  have hpop := pop_le hS hu
  have hok : okM 6 (memM u v) = true := rfl
  by_cases h8 : T.gi i 0 ≥ 8
  · by_cases hl : low8 u < Sn
    · -- one is opened
      have H := openM hS hu hl
      have h255' := u255 hS H.lt
      obtain ⟨g1, g2⟩ := s14_ok (K := .op 0 (mcf Sn)) (S := Sn) h255 hv9 h255' rfl (next_open h255 hv9 (by omega) H.low) t
      have hs := s1_eta g1 g2
      rw [show kNum (.op 0 (mcf Sn)) (slM u v) = ((low8 u : Nat) : Int) from lowI_cast u] at hs
      have hask : smAskO Sn t (memM u v) (smS Sn (memM (upM u) (v + 1)) (s14 (.op 0 (mcf Sn)) 6 ⟨memM u v, t, q0M Sn⟩).t (wvM u v) (wvM (upM u) (v + 1)) ((low8 u : Nat) : Int) 0) = true := by
        show (okM 6 (memM u v) && true && Nat.beq 0 0 && sure _) = true
        rw [sure_of hs, hok]; rfl
      have hmany : decide (((popM u : Nat) : Int) < (Sn : Int)) = true := decide_eq_true (by have := H.few; omega)
      have hw : w64 (((popM u : Nat) : Int) + 1) = ((popM (upM u) : Nat) : Int) := by rw [H.pop]; exact w64_succ (by omega)
      generalize (s14 (.op 0 (mcf Sn)) 6 ⟨memM u v, t, q0M Sn⟩).t = t' at hask
      refine ⟨upM u, v + 1, t', H.lt, Nat.le_refl _, ?_⟩
      have hbits := H.bits
      have hwas := H.was
      have hlow := H.low
      generalize hn : low8 u = n at hask hwas hbits hlow
      rcases (show n = 0 ∨ n = 1 ∨ n = 2 ∨ n = 3 ∨ n = 4 ∨ n = 5 ∨ n = 6 ∨ n = 7 by omega) with rfl | rfl | rfl | rfl | rfl | rfl | rfl | rfl
      · skip
        have e0 : bitM (upM u) 0 = true := by rw [hbits 0 (by decide)]; rfl
        have e1 : bitM (upM u) 1 = bitM u 1 := by rw [hbits 1 (by decide)]; rfl
        have e2 : bitM (upM u) 2 = bitM u 2 := by rw [hbits 2 (by decide)]; rfl
        have e3 : bitM (upM u) 3 = bitM u 3 := by rw [hbits 3 (by decide)]; rfl
        have e4 : bitM (upM u) 4 = bitM u 4 := by rw [hbits 4 (by decide)]; rfl
        have e5 : bitM (upM u) 5 = bitM u 5 := by rw [hbits 5 (by decide)]; rfl
        have e6 : bitM (upM u) 6 = bitM u 6 := by rw [hbits 6 (by decide)]; rfl
        have e7 : bitM (upM u) 7 = bitM u 7 := by rw [hbits 7 (by decide)]; rfl
        have hask : smAskO Sn t (memM u v) (smS Sn (memM (upM u) (v + 1)) t' (wvM u v) (wvM (upM u) (v + 1)) 0 0) = true := hask
        have ht := sm_open0 T Sn t (memM u v) (bitM u 0) (bitM u 1) (bitM u 2) (bitM u 3) (bitM u 4) (bitM u 5) (bitM u 6) (bitM u 7) (popM u : Nat) i (memM (upM u) (v + 1)) t' (wvM u v) (wvM (upM u) (v + 1))
        rw [ixT_in hi, Int.toNat_natCast, decide_eq_true h8, cond_true, bt_of hask, hmany, hw] at ht
        have ht := ht.trans (show _ = smGo T Sn t' (memM (upM u) (v + 1)) true (bitM u 1) (bitM u 2) (bitM u 3) (bitM u 4) (bitM u 5) (bitM u 6) (bitM u 7) (popM (upM u) : Nat) i by
          show (bif !(true == true) then _ else bif bitM u 0 then _ else _) = _
          rw [hwas]; rfl)
        show RunsB Tryd.prog (· < w.heap.size) w 0 1 (cutA 0 smB) _ .normal (unpack 175 [1, 4, 5, 6, 7, 8, 9, 10] (smV T (popM (upM u) : Nat) i) (smH T Sn t' (memM (upM u) (v + 1)) (bitM (upM u) 0) (bitM (upM u) 1) (bitM (upM u) 2) (bitM (upM u) 3) (bitM (upM u) 4) (bitM (upM u) 5) (bitM (upM u) 6) (bitM (upM u) 7)))
        rw [e0, e1, e2, e3, e4, e5, e6, e7]
        exact round_runs (smEnvC_ok (oneCo_sound _) _ w hT.lt (bnd_self w) hT) (noLps_ok _) ht (Nat.zero_le _) (show 1 ≤ 5 by decide)
      · skip
        have e0 : bitM (upM u) 0 = bitM u 0 := by rw [hbits 0 (by decide)]; rfl
        have e1 : bitM (upM u) 1 = true := by rw [hbits 1 (by decide)]; rfl
        have e2 : bitM (upM u) 2 = bitM u 2 := by rw [hbits 2 (by decide)]; rfl
        have e3 : bitM (upM u) 3 = bitM u 3 := by rw [hbits 3 (by decide)]; rfl
        have e4 : bitM (upM u) 4 = bitM u 4 := by rw [hbits 4 (by decide)]; rfl
        have e5 : bitM (upM u) 5 = bitM u 5 := by rw [hbits 5 (by decide)]; rfl
        have e6 : bitM (upM u) 6 = bitM u 6 := by rw [hbits 6 (by decide)]; rfl
        have e7 : bitM (upM u) 7 = bitM u 7 := by rw [hbits 7 (by decide)]; rfl
        have hask : smAskO Sn t (memM u v) (smS Sn (memM (upM u) (v + 1)) t' (wvM u v) (wvM (upM u) (v + 1)) 1 0) = true := hask
        have ht := sm_open1 T Sn t (memM u v) (bitM u 0) (bitM u 1) (bitM u 2) (bitM u 3) (bitM u 4) (bitM u 5) (bitM u 6) (bitM u 7) (popM u : Nat) i (memM (upM u) (v + 1)) t' (wvM u v) (wvM (upM u) (v + 1))
        rw [ixT_in hi, Int.toNat_natCast, decide_eq_true h8, cond_true, bt_of hask, hmany, hw] at ht
        have ht := ht.trans (show _ = smGo T Sn t' (memM (upM u) (v + 1)) (bitM u 0) true (bitM u 2) (bitM u 3) (bitM u 4) (bitM u 5) (bitM u 6) (bitM u 7) (popM (upM u) : Nat) i by
          show (bif !(true == true) then _ else bif bitM u 1 then _ else _) = _
          rw [hwas]; rfl)
        show RunsB Tryd.prog (· < w.heap.size) w 0 1 (cutA 0 smB) _ .normal (unpack 175 [1, 4, 5, 6, 7, 8, 9, 10] (smV T (popM (upM u) : Nat) i) (smH T Sn t' (memM (upM u) (v + 1)) (bitM (upM u) 0) (bitM (upM u) 1) (bitM (upM u) 2) (bitM (upM u) 3) (bitM (upM u) 4) (bitM (upM u) 5) (bitM (upM u) 6) (bitM (upM u) 7)))
        rw [e0, e1, e2, e3, e4, e5, e6, e7]
        exact round_runs (smEnvC_ok (oneCo_sound _) _ w hT.lt (bnd_self w) hT) (noLps_ok _) ht (Nat.zero_le _) (show 1 ≤ 5 by decide)
      · skip
        have e0 : bitM (upM u) 0 = bitM u 0 := by rw [hbits 0 (by decide)]; rfl
        have e1 : bitM (upM u) 1 = bitM u 1 := by rw [hbits 1 (by decide)]; rfl
        have e2 : bitM (upM u) 2 = true := by rw [hbits 2 (by decide)]; rfl
        have e3 : bitM (upM u) 3 = bitM u 3 := by rw [hbits 3 (by decide)]; rfl
        have e4 : bitM (upM u) 4 = bitM u 4 := by rw [hbits 4 (by decide)]; rfl
        have e5 : bitM (upM u) 5 = bitM u 5 := by rw [hbits 5 (by decide)]; rfl
        have e6 : bitM (upM u) 6 = bitM u 6 := by rw [hbits 6 (by decide)]; rfl
        have e7 : bitM (upM u) 7 = bitM u 7 := by rw [hbits 7 (by decide)]; rfl
        have hask : smAskO Sn t (memM u v) (smS Sn (memM (upM u) (v + 1)) t' (wvM u v) (wvM (upM u) (v + 1)) 2 0) = true := hask
        have ht := sm_open2 T Sn t (memM u v) (bitM u 0) (bitM u 1) (bitM u 2) (bitM u 3) (bitM u 4) (bitM u 5) (bitM u 6) (bitM u 7) (popM u : Nat) i (memM (upM u) (v + 1)) t' (wvM u v) (wvM (upM u) (v + 1))
        rw [ixT_in hi, Int.toNat_natCast, decide_eq_true h8, cond_true, bt_of hask, hmany, hw] at ht
        have ht := ht.trans (show _ = smGo T Sn t' (memM (upM u) (v + 1)) (bitM u 0) (bitM u 1) true (bitM u 3) (bitM u 4) (bitM u 5) (bitM u 6) (bitM u 7) (popM (upM u) : Nat) i by
          show (bif !(true == true) then _ else bif bitM u 2 then _ else _) = _
          rw [hwas]; rfl)
        show RunsB Tryd.prog (· < w.heap.size) w 0 1 (cutA 0 smB) _ .normal (unpack 175 [1, 4, 5, 6, 7, 8, 9, 10] (smV T (popM (upM u) : Nat) i) (smH T Sn t' (memM (upM u) (v + 1)) (bitM (upM u) 0) (bitM (upM u) 1) (bitM (upM u) 2) (bitM (upM u) 3) (bitM (upM u) 4) (bitM (upM u) 5) (bitM (upM u) 6) (bitM (upM u) 7)))
        rw [e0, e1, e2, e3, e4, e5, e6, e7]
        exact round_runs (smEnvC_ok (oneCo_sound _) _ w hT.lt (bnd_self w) hT) (noLps_ok _) ht (Nat.zero_le _) (show 1 ≤ 5 by decide)
      · skip
        have e0 : bitM (upM u) 0 = bitM u 0 := by rw [hbits 0 (by decide)]; rfl
        have e1 : bitM (upM u) 1 = bitM u 1 := by rw [hbits 1 (by decide)]; rfl
        have e2 : bitM (upM u) 2 = bitM u 2 := by rw [hbits 2 (by decide)]; rfl
        have e3 : bitM (upM u) 3 = true := by rw [hbits 3 (by decide)]; rfl
        have e4 : bitM (upM u) 4 = bitM u 4 := by rw [hbits 4 (by decide)]; rfl
        have e5 : bitM (upM u) 5 = bitM u 5 := by rw [hbits 5 (by decide)]; rfl
        have e6 : bitM (upM u) 6 = bitM u 6 := by rw [hbits 6 (by decide)]; rfl
        have e7 : bitM (upM u) 7 = bitM u 7 := by rw [hbits 7 (by decide)]; rfl
        have hask : smAskO Sn t (memM u v) (smS Sn (memM (upM u) (v + 1)) t' (wvM u v) (wvM (upM u) (v + 1)) 3 0) = true := hask
        have ht := sm_open3 T Sn t (memM u v) (bitM u 0) (bitM u 1) (bitM u 2) (bitM u 3) (bitM u 4) (bitM u 5) (bitM u 6) (bitM u 7) (popM u : Nat) i (memM (upM u) (v + 1)) t' (wvM u v) (wvM (upM u) (v + 1))
        rw [ixT_in hi, Int.toNat_natCast, decide_eq_true h8, cond_true, bt_of hask, hmany, hw] at ht
        have ht := ht.trans (show _ = smGo T Sn t' (memM (upM u) (v + 1)) (bitM u 0) (bitM u 1) (bitM u 2) true (bitM u 4) (bitM u 5) (bitM u 6) (bitM u 7) (popM (upM u) : Nat) i by
          show (bif !(true == true) then _ else bif bitM u 3 then _ else _) = _
          rw [hwas]; rfl)
        show RunsB Tryd.prog (· < w.heap.size) w 0 1 (cutA 0 smB) _ .normal (unpack 175 [1, 4, 5, 6, 7, 8, 9, 10] (smV T (popM (upM u) : Nat) i) (smH T Sn t' (memM (upM u) (v + 1)) (bitM (upM u) 0) (bitM (upM u) 1) (bitM (upM u) 2) (bitM (upM u) 3) (bitM (upM u) 4) (bitM (upM u) 5) (bitM (upM u) 6) (bitM (upM u) 7)))
        rw [e0, e1, e2, e3, e4, e5, e6, e7]
        exact round_runs (smEnvC_ok (oneCo_sound _) _ w hT.lt (bnd_self w) hT) (noLps_ok _) ht (Nat.zero_le _) (show 1 ≤ 5 by decide)
      · skip
        have e0 : bitM (upM u) 0 = bitM u 0 := by rw [hbits 0 (by decide)]; rfl
        have e1 : bitM (upM u) 1 = bitM u 1 := by rw [hbits 1 (by decide)]; rfl
        have e2 : bitM (upM u) 2 = bitM u 2 := by rw [hbits 2 (by decide)]; rfl
        have e3 : bitM (upM u) 3 = bitM u 3 := by rw [hbits 3 (by decide)]; rfl
        have e4 : bitM (upM u) 4 = true := by rw [hbits 4 (by decide)]; rfl
        have e5 : bitM (upM u) 5 = bitM u 5 := by rw [hbits 5 (by decide)]; rfl
        have e6 : bitM (upM u) 6 = bitM u 6 := by rw [hbits 6 (by decide)]; rfl
        have e7 : bitM (upM u) 7 = bitM u 7 := by rw [hbits 7 (by decide)]; rfl
        have hask : smAskO Sn t (memM u v) (smS Sn (memM (upM u) (v + 1)) t' (wvM u v) (wvM (upM u) (v + 1)) 4 0) = true := hask
        have ht := sm_open4 T Sn t (memM u v) (bitM u 0) (bitM u 1) (bitM u 2) (bitM u 3) (bitM u 4) (bitM u 5) (bitM u 6) (bitM u 7) (popM u : Nat) i (memM (upM u) (v + 1)) t' (wvM u v) (wvM (upM u) (v + 1))
        rw [ixT_in hi, Int.toNat_natCast, decide_eq_true h8, cond_true, bt_of hask, hmany, hw] at ht
        have ht := ht.trans (show _ = smGo T Sn t' (memM (upM u) (v + 1)) (bitM u 0) (bitM u 1) (bitM u 2) (bitM u 3) true (bitM u 5) (bitM u 6) (bitM u 7) (popM (upM u) : Nat) i by
          show (bif !(true == true) then _ else bif bitM u 4 then _ else _) = _
          rw [hwas]; rfl)
        show RunsB Tryd.prog (· < w.heap.size) w 0 1 (cutA 0 smB) _ .normal (unpack 175 [1, 4, 5, 6, 7, 8, 9, 10] (smV T (popM (upM u) : Nat) i) (smH T Sn t' (memM (upM u) (v + 1)) (bitM (upM u) 0) (bitM (upM u) 1) (bitM (upM u) 2) (bitM (upM u) 3) (bitM (upM u) 4) (bitM (upM u) 5) (bitM (upM u) 6) (bitM (upM u) 7)))
        rw [e0, e1, e2, e3, e4, e5, e6, e7]
        exact round_runs (smEnvC_ok (oneCo_sound _) _ w hT.lt (bnd_self w) hT) (noLps_ok _) ht (Nat.zero_le _) (show 1 ≤ 5 by decide)
      · skip
        have e0 : bitM (upM u) 0 = bitM u 0 := by rw [hbits 0 (by decide)]; rfl
        have e1 : bitM (upM u) 1 = bitM u 1 := by rw [hbits 1 (by decide)]; rfl
        have e2 : bitM (upM u) 2 = bitM u 2 := by rw [hbits 2 (by decide)]; rfl
        have e3 : bitM (upM u) 3 = bitM u 3 := by rw [hbits 3 (by decide)]; rfl
        have e4 : bitM (upM u) 4 = bitM u 4 := by rw [hbits 4 (by decide)]; rfl
        have e5 : bitM (upM u) 5 = true := by rw [hbits 5 (by decide)]; rfl
        have e6 : bitM (upM u) 6 = bitM u 6 := by rw [hbits 6 (by decide)]; rfl
        have e7 : bitM (upM u) 7 = bitM u 7 := by rw [hbits 7 (by decide)]; rfl
        have hask : smAskO Sn t (memM u v) (smS Sn (memM (upM u) (v + 1)) t' (wvM u v) (wvM (upM u) (v + 1)) 5 0) = true := hask
        have ht := sm_open5 T Sn t (memM u v) (bitM u 0) (bitM u 1) (bitM u 2) (bitM u 3) (bitM u 4) (bitM u 5) (bitM u 6) (bitM u 7) (popM u : Nat) i (memM (upM u) (v + 1)) t' (wvM u v) (wvM (upM u) (v + 1))
        rw [ixT_in hi, Int.toNat_natCast, decide_eq_true h8, cond_true, bt_of hask, hmany, hw] at ht
        have ht := ht.trans (show _ = smGo T Sn t' (memM (upM u) (v + 1)) (bitM u 0) (bitM u 1) (bitM u 2) (bitM u 3) (bitM u 4) true (bitM u 6) (bitM u 7) (popM (upM u) : Nat) i by
          show (bif !(true == true) then _ else bif bitM u 5 then _ else _) = _
          rw [hwas]; rfl)
        show RunsB Tryd.prog (· < w.heap.size) w 0 1 (cutA 0 smB) _ .normal (unpack 175 [1, 4, 5, 6, 7, 8, 9, 10] (smV T (popM (upM u) : Nat) i) (smH T Sn t' (memM (upM u) (v + 1)) (bitM (upM u) 0) (bitM (upM u) 1) (bitM (upM u) 2) (bitM (upM u) 3) (bitM (upM u) 4) (bitM (upM u) 5) (bitM (upM u) 6) (bitM (upM u) 7)))
        rw [e0, e1, e2, e3, e4, e5, e6, e7]
        exact round_runs (smEnvC_ok (oneCo_sound _) _ w hT.lt (bnd_self w) hT) (noLps_ok _) ht (Nat.zero_le _) (show 1 ≤ 5 by decide)
      · skip
        have e0 : bitM (upM u) 0 = bitM u 0 := by rw [hbits 0 (by decide)]; rfl
        have e1 : bitM (upM u) 1 = bitM u 1 := by rw [hbits 1 (by decide)]; rfl
        have e2 : bitM (upM u) 2 = bitM u 2 := by rw [hbits 2 (by decide)]; rfl
        have e3 : bitM (upM u) 3 = bitM u 3 := by rw [hbits 3 (by decide)]; rfl
        have e4 : bitM (upM u) 4 = bitM u 4 := by rw [hbits 4 (by decide)]; rfl
        have e5 : bitM (upM u) 5 = bitM u 5 := by rw [hbits 5 (by decide)]; rfl
        have e6 : bitM (upM u) 6 = true := by rw [hbits 6 (by decide)]; rfl
        have e7 : bitM (upM u) 7 = bitM u 7 := by rw [hbits 7 (by decide)]; rfl
        have hask : smAskO Sn t (memM u v) (smS Sn (memM (upM u) (v + 1)) t' (wvM u v) (wvM (upM u) (v + 1)) 6 0) = true := hask
        have ht := sm_open6 T Sn t (memM u v) (bitM u 0) (bitM u 1) (bitM u 2) (bitM u 3) (bitM u 4) (bitM u 5) (bitM u 6) (bitM u 7) (popM u : Nat) i (memM (upM u) (v + 1)) t' (wvM u v) (wvM (upM u) (v + 1))
        rw [ixT_in hi, Int.toNat_natCast, decide_eq_true h8, cond_true, bt_of hask, hmany, hw] at ht
        have ht := ht.trans (show _ = smGo T Sn t' (memM (upM u) (v + 1)) (bitM u 0) (bitM u 1) (bitM u 2) (bitM u 3) (bitM u 4) (bitM u 5) true (bitM u 7) (popM (upM u) : Nat) i by
          show (bif !(true == true) then _ else bif bitM u 6 then _ else _) = _
          rw [hwas]; rfl)
        show RunsB Tryd.prog (· < w.heap.size) w 0 1 (cutA 0 smB) _ .normal (unpack 175 [1, 4, 5, 6, 7, 8, 9, 10] (smV T (popM (upM u) : Nat) i) (smH T Sn t' (memM (upM u) (v + 1)) (bitM (upM u) 0) (bitM (upM u) 1) (bitM (upM u) 2) (bitM (upM u) 3) (bitM (upM u) 4) (bitM (upM u) 5) (bitM (upM u) 6) (bitM (upM u) 7)))
        rw [e0, e1, e2, e3, e4, e5, e6, e7]
        exact round_runs (smEnvC_ok (oneCo_sound _) _ w hT.lt (bnd_self w) hT) (noLps_ok _) ht (Nat.zero_le _) (show 1 ≤ 5 by decide)
      · skip
        have e0 : bitM (upM u) 0 = bitM u 0 := by rw [hbits 0 (by decide)]; rfl
        have e1 : bitM (upM u) 1 = bitM u 1 := by rw [hbits 1 (by decide)]; rfl
        have e2 : bitM (upM u) 2 = bitM u 2 := by rw [hbits 2 (by decide)]; rfl
        have e3 : bitM (upM u) 3 = bitM u 3 := by rw [hbits 3 (by decide)]; rfl
        have e4 : bitM (upM u) 4 = bitM u 4 := by rw [hbits 4 (by decide)]; rfl
        have e5 : bitM (upM u) 5 = bitM u 5 := by rw [hbits 5 (by decide)]; rfl
        have e6 : bitM (upM u) 6 = bitM u 6 := by rw [hbits 6 (by decide)]; rfl
        have e7 : bitM (upM u) 7 = true := by rw [hbits 7 (by decide)]; rfl
        have hask : smAskO Sn t (memM u v) (smS Sn (memM (upM u) (v + 1)) t' (wvM u v) (wvM (upM u) (v + 1)) 7 0) = true := hask
        have ht := sm_open7 T Sn t (memM u v) (bitM u 0) (bitM u 1) (bitM u 2) (bitM u 3) (bitM u 4) (bitM u 5) (bitM u 6) (bitM u 7) (popM u : Nat) i (memM (upM u) (v + 1)) t' (wvM u v) (wvM (upM u) (v + 1))
        rw [ixT_in hi, Int.toNat_natCast, decide_eq_true h8, cond_true, bt_of hask, hmany, hw] at ht
        have ht := ht.trans (show _ = smGo T Sn t' (memM (upM u) (v + 1)) (bitM u 0) (bitM u 1) (bitM u 2) (bitM u 3) (bitM u 4) (bitM u 5) (bitM u 6) true (popM (upM u) : Nat) i by
          show (bif !(true == true) then _ else bif bitM u 7 then _ else _) = _
          rw [hwas]; rfl)
        show RunsB Tryd.prog (· < w.heap.size) w 0 1 (cutA 0 smB) _ .normal (unpack 175 [1, 4, 5, 6, 7, 8, 9, 10] (smV T (popM (upM u) : Nat) i) (smH T Sn t' (memM (upM u) (v + 1)) (bitM (upM u) 0) (bitM (upM u) 1) (bitM (upM u) 2) (bitM (upM u) 3) (bitM (upM u) 4) (bitM (upM u) 5) (bitM (upM u) 6) (bitM (upM u) 7)))
        rw [e0, e1, e2, e3, e4, e5, e6, e7]
        exact round_runs (smEnvC_ok (oneCo_sound _) _ w hT.lt (bnd_self w) hT) (noLps_ok _) ht (Nat.zero_le _) (show 1 ≤ 5 by decide)

    · -- it is full
      have hf := fullM hS hu hl
      obtain ⟨g1, g2⟩ := s14_no (K := .op 0 (mcf Sn)) (S := Sn) h255 hv9 rfl (next_full h255 hv9 (by omega)) t
      have hs := s1_eta g1 g2
      rw [show kErr (.op 0 (mcf Sn)) = 10 from rfl] at hs
      have hask : smAskO Sn t (memM u v) (smS Sn (memM u v) (s14 (.op 0 (mcf Sn)) 6 ⟨memM u v, t, q0M Sn⟩).t (wvM u v) 0 0 10) = true := by
        show (okM 6 (memM u v) && true && Nat.beq 0 0 && sure _) = true
        rw [sure_of hs, hok]; rfl
      generalize (s14 (.op 0 (mcf Sn)) 6 ⟨memM u v, t, q0M Sn⟩).t = t' at hask
      refine ⟨u, v, t', hu, Nat.le_succ _, ?_⟩
      have ht := sm_full T Sn t (memM u v) (bitM u 0) (bitM u 1) (bitM u 2) (bitM u 3) (bitM u 4) (bitM u 5) (bitM u 6) (bitM u 7) (popM u : Nat) i (memM u v) t' (wvM u v) 0
      rw [ixT_in hi, Int.toNat_natCast, decide_eq_true h8, cond_true, bt_of hask, decide_eq_false (show ¬ ((popM u : Nat) : Int) < (Sn : Int) by omega)] at ht
      exact round_runs (smEnvC_ok (oneCo_sound _) _ w hT.lt (bnd_self w) hT) (noLps_ok _) ht (Nat.zero_le _) (show 1 ≤ 5 by decide)
  · obtain ⟨n, hn8, hn⟩ : ∃ n : Nat, n < 8 ∧ T.gi i 0 = (n : Int) := ⟨(T.gi i 0).toNat, by omega, by omega⟩
    have hwn : w64 ((n : Nat) : Int) = (n : Int) := w64_in ⟨by omega, by omega⟩
    cases hb : bitM u n with
    | true =>
      have H := shutM hS hu hn8 hb
      have h255' := u255 hS H.lt
      obtain ⟨g1, g2⟩ := s14_ok (K := .sh 0 (n : Int)) (S := Sn) h255 hv9 h255' rfl (next_shut h255 hv9 hn8 hb H.le) t
      have hs := s1_eta g1 g2
      rw [show kNum (.sh 0 (n : Int)) (slM u v) = (n : Int) from rfl] at hs
      have hask : smAskS Sn t (memM u v) (n : Int) (smS Sn (memM (dnM u n) (v + 1)) (s14 (.sh 0 (n : Int)) 6 ⟨memM u v, t, q0M Sn⟩).t (wvM u v) (wvM (dnM u n) (v + 1)) (n : Int) 0) = true := by
        show (okM 6 (memM u v) && true && Nat.beq 0 0 && sure _) = true
        rw [hwn, sure_of hs, hok]; rfl
      have hw : w64 (((popM u : Nat) : Int) - 1) = ((popM (dnM u n) : Nat) : Int) := by
        have := H.pop
        rw [w64_in ⟨by omega, by omega⟩]; omega
      generalize (s14 (.sh 0 (n : Int)) 6 ⟨memM u v, t, q0M Sn⟩).t = t' at hask
      refine ⟨dnM u n, v + 1, t', H.lt, Nat.le_refl _, ?_⟩
      have hbits := H.bits
      generalize hd : dnM u n = d at hask hbits hw
      rcases (show n = 0 ∨ n = 1 ∨ n = 2 ∨ n = 3 ∨ n = 4 ∨ n = 5 ∨ n = 6 ∨ n = 7 by omega) with rfl | rfl | rfl | rfl | rfl | rfl | rfl | rfl
      · skip
        have e0 : bitM d 0 = false := by rw [hbits 0 (by decide)]; rfl
        have e1 : bitM d 1 = bitM u 1 := by rw [hbits 1 (by decide)]; rfl
        have e2 : bitM d 2 = bitM u 2 := by rw [hbits 2 (by decide)]; rfl
        have e3 : bitM d 3 = bitM u 3 := by rw [hbits 3 (by decide)]; rfl
        have e4 : bitM d 4 = bitM u 4 := by rw [hbits 4 (by decide)]; rfl
        have e5 : bitM d 5 = bitM u 5 := by rw [hbits 5 (by decide)]; rfl
        have e6 : bitM d 6 = bitM u 6 := by rw [hbits 6 (by decide)]; rfl
        have e7 : bitM d 7 = bitM u 7 := by rw [hbits 7 (by decide)]; rfl
        have ht := sm_shut T Sn t (memM u v) (bitM u 0) (bitM u 1) (bitM u 2) (bitM u 3) (bitM u 4) (bitM u 5) (bitM u 6) (bitM u 7) (popM u : Nat) i (memM d (v + 1)) t' (wvM u v) (wvM d (v + 1)) ((0 : Nat) : Int)
        rw [Int.toNat_natCast, hn, ixT_in hi, ixT_in hi, ixT_in hi, decide_eq_false (by omega), cond_false, bt_of hask] at ht
        have ht := ht.trans (show _ = smGo T Sn t' (memM d (v + 1)) false (bitM u 1) (bitM u 2) (bitM u 3) (bitM u 4) (bitM u 5) (bitM u 6) (bitM u 7) (popM d : Nat) i by
          show (bif !(true == bitM u 0) then _ else ixT (i : Int) T.nt _) = _
          rw [hb, ixT_in hi, ixT_in hi, hwn, hw, bne_self_eq_false]
          rfl)
        show RunsB Tryd.prog (· < w.heap.size) w 0 1 (cutA 0 smB) _ .normal (unpack 175 [1, 4, 5, 6, 7, 8, 9, 10] (smV T (popM d : Nat) i) (smH T Sn t' (memM d (v + 1)) (bitM d 0) (bitM d 1) (bitM d 2) (bitM d 3) (bitM d 4) (bitM d 5) (bitM d 6) (bitM d 7)))
        rw [e0, e1, e2, e3, e4, e5, e6, e7]
        exact round_runs (smEnvC_ok (oneCs_sound _) _ w hT.lt (bnd_self w) hT) (noLps_ok _) ht (Nat.zero_le _) (show 1 ≤ 5 by decide)
      · skip
        have e0 : bitM d 0 = bitM u 0 := by rw [hbits 0 (by decide)]; rfl
        have e1 : bitM d 1 = false := by rw [hbits 1 (by decide)]; rfl
        have e2 : bitM d 2 = bitM u 2 := by rw [hbits 2 (by decide)]; rfl
        have e3 : bitM d 3 = bitM u 3 := by rw [hbits 3 (by decide)]; rfl
        have e4 : bitM d 4 = bitM u 4 := by rw [hbits 4 (by decide)]; rfl
        have e5 : bitM d 5 = bitM u 5 := by rw [hbits 5 (by decide)]; rfl
        have e6 : bitM d 6 = bitM u 6 := by rw [hbits 6 (by decide)]; rfl
        have e7 : bitM d 7 = bitM u 7 := by rw [hbits 7 (by decide)]; rfl
        have ht := sm_shut T Sn t (memM u v) (bitM u 0) (bitM u 1) (bitM u 2) (bitM u 3) (bitM u 4) (bitM u 5) (bitM u 6) (bitM u 7) (popM u : Nat) i (memM d (v + 1)) t' (wvM u v) (wvM d (v + 1)) ((1 : Nat) : Int)
        rw [Int.toNat_natCast, hn, ixT_in hi, ixT_in hi, ixT_in hi, decide_eq_false (by omega), cond_false, bt_of hask] at ht
        have ht := ht.trans (show _ = smGo T Sn t' (memM d (v + 1)) (bitM u 0) false (bitM u 2) (bitM u 3) (bitM u 4) (bitM u 5) (bitM u 6) (bitM u 7) (popM d : Nat) i by
          show (bif !(true == bitM u 1) then _ else ixT (i : Int) T.nt _) = _
          rw [hb, ixT_in hi, ixT_in hi, hwn, hw, bne_self_eq_false]
          rfl)
        show RunsB Tryd.prog (· < w.heap.size) w 0 1 (cutA 0 smB) _ .normal (unpack 175 [1, 4, 5, 6, 7, 8, 9, 10] (smV T (popM d : Nat) i) (smH T Sn t' (memM d (v + 1)) (bitM d 0) (bitM d 1) (bitM d 2) (bitM d 3) (bitM d 4) (bitM d 5) (bitM d 6) (bitM d 7)))
        rw [e0, e1, e2, e3, e4, e5, e6, e7]
        exact round_runs (smEnvC_ok (oneCs_sound _) _ w hT.lt (bnd_self w) hT) (noLps_ok _) ht (Nat.zero_le _) (show 1 ≤ 5 by decide)
      · skip
        have e0 : bitM d 0 = bitM u 0 := by rw [hbits 0 (by decide)]; rfl
        have e1 : bitM d 1 = bitM u 1 := by rw [hbits 1 (by decide)]; rfl
        have e2 : bitM d 2 = false := by rw [hbits 2 (by decide)]; rfl
        have e3 : bitM d 3 = bitM u 3 := by rw [hbits 3 (by decide)]; rfl
        have e4 : bitM d 4 = bitM u 4 := by rw [hbits 4 (by decide)]; rfl
        have e5 : bitM d 5 = bitM u 5 := by rw [hbits 5 (by decide)]; rfl
        have e6 : bitM d 6 = bitM u 6 := by rw [hbits 6 (by decide)]; rfl
        have e7 : bitM d 7 = bitM u 7 := by rw [hbits 7 (by decide)]; rfl
        have ht := sm_shut T Sn t (memM u v) (bitM u 0) (bitM u 1) (bitM u 2) (bitM u 3) (bitM u 4) (bitM u 5) (bitM u 6) (bitM u 7) (popM u : Nat) i (memM d (v + 1)) t' (wvM u v) (wvM d (v + 1)) ((2 : Nat) : Int)
        rw [Int.toNat_natCast, hn, ixT_in hi, ixT_in hi, ixT_in hi, decide_eq_false (by omega), cond_false, bt_of hask] at ht
        have ht := ht.trans (show _ = smGo T Sn t' (memM d (v + 1)) (bitM u 0) (bitM u 1) false (bitM u 3) (bitM u 4) (bitM u 5) (bitM u 6) (bitM u 7) (popM d : Nat) i by
          show (bif !(true == bitM u 2) then _ else ixT (i : Int) T.nt _) = _
          rw [hb, ixT_in hi, ixT_in hi, hwn, hw, bne_self_eq_false]
          rfl)
        show RunsB Tryd.prog (· < w.heap.size) w 0 1 (cutA 0 smB) _ .normal (unpack 175 [1, 4, 5, 6, 7, 8, 9, 10] (smV T (popM d : Nat) i) (smH T Sn t' (memM d (v + 1)) (bitM d 0) (bitM d 1) (bitM d 2) (bitM d 3) (bitM d 4) (bitM d 5) (bitM d 6) (bitM d 7)))
        rw [e0, e1, e2, e3, e4, e5, e6, e7]
        exact round_runs (smEnvC_ok (oneCs_sound _) _ w hT.lt (bnd_self w) hT) (noLps_ok _) ht (Nat.zero_le _) (show 1 ≤ 5 by decide)
      · skip
        have e0 : bitM d 0 = bitM u 0 := by rw [hbits 0 (by decide)]; rfl
        have e1 : bitM d 1 = bitM u 1 := by rw [hbits 1 (by decide)]; rfl
        have e2 : bitM d 2 = bitM u 2 := by rw [hbits 2 (by decide)]; rfl
        have e3 : bitM d 3 = false := by rw [hbits 3 (by decide)]; rfl
        have e4 : bitM d 4 = bitM u 4 := by rw [hbits 4 (by decide)]; rfl
        have e5 : bitM d 5 = bitM u 5 := by rw [hbits 5 (by decide)]; rfl
        have e6 : bitM d 6 = bitM u 6 := by rw [hbits 6 (by decide)]; rfl
        have e7 : bitM d 7 = bitM u 7 := by rw [hbits 7 (by decide)]; rfl
        have ht := sm_shut T Sn t (memM u v) (bitM u 0) (bitM u 1) (bitM u 2) (bitM u 3) (bitM u 4) (bitM u 5) (bitM u 6) (bitM u 7) (popM u : Nat) i (memM d (v + 1)) t' (wvM u v) (wvM d (v + 1)) ((3 : Nat) : Int)
        rw [Int.toNat_natCast, hn, ixT_in hi, ixT_in hi, ixT_in hi, decide_eq_false (by omega), cond_false, bt_of hask] at ht
        have ht := ht.trans (show _ = smGo T Sn t' (memM d (v + 1)) (bitM u 0) (bitM u 1) (bitM u 2) false (bitM u 4) (bitM u 5) (bitM u 6) (bitM u 7) (popM d : Nat) i by
          show (bif !(true == bitM u 3) then _ else ixT (i : Int) T.nt _) = _
          rw [hb, ixT_in hi, ixT_in hi, hwn, hw, bne_self_eq_false]
          rfl)
        show RunsB Tryd.prog (· < w.heap.size) w 0 1 (cutA 0 smB) _ .normal (unpack 175 [1, 4, 5, 6, 7, 8, 9, 10] (smV T (popM d : Nat) i) (smH T Sn t' (memM d (v + 1)) (bitM d 0) (bitM d 1) (bitM d 2) (bitM d 3) (bitM d 4) (bitM d 5) (bitM d 6) (bitM d 7)))
        rw [e0, e1, e2, e3, e4, e5, e6, e7]
        exact round_runs (smEnvC_ok (oneCs_sound _) _ w hT.lt (bnd_self w) hT) (noLps_ok _) ht (Nat.zero_le _) (show 1 ≤ 5 by decide)
      · skip
        have e0 : bitM d 0 = bitM u 0 := by rw [hbits 0 (by decide)]; rfl
        have e1 : bitM d 1 = bitM u 1 := by rw [hbits 1 (by decide)]; rfl
        have e2 : bitM d 2 = bitM u 2 := by rw [hbits 2 (by decide)]; rfl
        have e3 : bitM d 3 = bitM u 3 := by rw [hbits 3 (by decide)]; rfl
        have e4 : bitM d 4 = false := by rw [hbits 4 (by decide)]; rfl
        have e5 : bitM d 5 = bitM u 5 := by rw [hbits 5 (by decide)]; rfl
        have e6 : bitM d 6 = bitM u 6 := by rw [hbits 6 (by decide)]; rfl
        have e7 : bitM d 7 = bitM u 7 := by rw [hbits 7 (by decide)]; rfl
        have ht := sm_shut T Sn t (memM u v) (bitM u 0) (bitM u 1) (bitM u 2) (bitM u 3) (bitM u 4) (bitM u 5) (bitM u 6) (bitM u 7) (popM u : Nat) i (memM d (v + 1)) t' (wvM u v) (wvM d (v + 1)) ((4 : Nat) : Int)
        rw [Int.toNat_natCast, hn, ixT_in hi, ixT_in hi, ixT_in hi, decide_eq_false (by omega), cond_false, bt_of hask] at ht
        have ht := ht.trans (show _ = smGo T Sn t' (memM d (v + 1)) (bitM u 0) (bitM u 1) (bitM u 2) (bitM u 3) false (bitM u 5) (bitM u 6) (bitM u 7) (popM d : Nat) i by
          show (bif !(true == bitM u 4) then _ else ixT (i : Int) T.nt _) = _
          rw [hb, ixT_in hi, ixT_in hi, hwn, hw, bne_self_eq_false]
          rfl)
        show RunsB Tryd.prog (· < w.heap.size) w 0 1 (cutA 0 smB) _ .normal (unpack 175 [1, 4, 5, 6, 7, 8, 9, 10] (smV T (popM d : Nat) i) (smH T Sn t' (memM d (v + 1)) (bitM d 0) (bitM d 1) (bitM d 2) (bitM d 3) (bitM d 4) (bitM d 5) (bitM d 6) (bitM d 7)))
        rw [e0, e1, e2, e3, e4, e5, e6, e7]
        exact round_runs (smEnvC_ok (oneCs_sound _) _ w hT.lt (bnd_self w) hT) (noLps_ok _) ht (Nat.zero_le _) (show 1 ≤ 5 by decide)
      · skip
        have e0 : bitM d 0 = bitM u 0 := by rw [hbits 0 (by decide)]; rfl
        have e1 : bitM d 1 = bitM u 1 := by rw [hbits 1 (by decide)]; rfl
        have e2 : bitM d 2 = bitM u 2 := by rw [hbits 2 (by decide)]; rfl
        have e3 : bitM d 3 = bitM u 3 := by rw [hbits 3 (by decide)]; rfl
        have e4 : bitM d 4 = bitM u 4 := by rw [hbits 4 (by decide)]; rfl
        have e5 : bitM d 5 = false := by rw [hbits 5 (by decide)]; rfl
        have e6 : bitM d 6 = bitM u 6 := by rw [hbits 6 (by decide)]; rfl
        have e7 : bitM d 7 = bitM u 7 := by rw [hbits 7 (by decide)]; rfl
        have ht := sm_shut T Sn t (memM u v) (bitM u 0) (bitM u 1) (bitM u 2) (bitM u 3) (bitM u 4) (bitM u 5) (bitM u 6) (bitM u 7) (popM u : Nat) i (memM d (v + 1)) t' (wvM u v) (wvM d (v + 1)) ((5 : Nat) : Int)
        rw [Int.toNat_natCast, hn, ixT_in hi, ixT_in hi, ixT_in hi, decide_eq_false (by omega), cond_false, bt_of hask] at ht
        have ht := ht.trans (show _ = smGo T Sn t' (memM d (v + 1)) (bitM u 0) (bitM u 1) (bitM u 2) (bitM u 3) (bitM u 4) false (bitM u 6) (bitM u 7) (popM d : Nat) i by
          show (bif !(true == bitM u 5) then _ else ixT (i : Int) T.nt _) = _
          rw [hb, ixT_in hi, ixT_in hi, hwn, hw, bne_self_eq_false]
          rfl)
        show RunsB Tryd.prog (· < w.heap.size) w 0 1 (cutA 0 smB) _ .normal (unpack 175 [1, 4, 5, 6, 7, 8, 9, 10] (smV T (popM d : Nat) i) (smH T Sn t' (memM d (v + 1)) (bitM d 0) (bitM d 1) (bitM d 2) (bitM d 3) (bitM d 4) (bitM d 5) (bitM d 6) (bitM d 7)))
        rw [e0, e1, e2, e3, e4, e5, e6, e7]
        exact round_runs (smEnvC_ok (oneCs_sound _) _ w hT.lt (bnd_self w) hT) (noLps_ok _) ht (Nat.zero_le _) (show 1 ≤ 5 by decide)
      · skip
        have e0 : bitM d 0 = bitM u 0 := by rw [hbits 0 (by decide)]; rfl
        have e1 : bitM d 1 = bitM u 1 := by rw [hbits 1 (by decide)]; rfl
        have e2 : bitM d 2 = bitM u 2 := by rw [hbits 2 (by decide)]; rfl
        have e3 : bitM d 3 = bitM u 3 := by rw [hbits 3 (by decide)]; rfl
        have e4 : bitM d 4 = bitM u 4 := by rw [hbits 4 (by decide)]; rfl
        have e5 : bitM d 5 = bitM u 5 := by rw [hbits 5 (by decide)]; rfl
        have e6 : bitM d 6 = false := by rw [hbits 6 (by decide)]; rfl
        have e7 : bitM d 7 = bitM u 7 := by rw [hbits 7 (by decide)]; rfl
        have ht := sm_shut T Sn t (memM u v) (bitM u 0) (bitM u 1) (bitM u 2) (bitM u 3) (bitM u 4) (bitM u 5) (bitM u 6) (bitM u 7) (popM u : Nat) i (memM d (v + 1)) t' (wvM u v) (wvM d (v + 1)) ((6 : Nat) : Int)
        rw [Int.toNat_natCast, hn, ixT_in hi, ixT_in hi, ixT_in hi, decide_eq_false (by omega), cond_false, bt_of hask] at ht
        have ht := ht.trans (show _ = smGo T Sn t' (memM d (v + 1)) (bitM u 0) (bitM u 1) (bitM u 2) (bitM u 3) (bitM u 4) (bitM u 5) false (bitM u 7) (popM d : Nat) i by
          show (bif !(true == bitM u 6) then _ else ixT (i : Int) T.nt _) = _
          rw [hb, ixT_in hi, ixT_in hi, hwn, hw, bne_self_eq_false]
          rfl)
        show RunsB Tryd.prog (· < w.heap.size) w 0 1 (cutA 0 smB) _ .normal (unpack 175 [1, 4, 5, 6, 7, 8, 9, 10] (smV T (popM d : Nat) i) (smH T Sn t' (memM d (v + 1)) (bitM d 0) (bitM d 1) (bitM d 2) (bitM d 3) (bitM d 4) (bitM d 5) (bitM d 6) (bitM d 7)))
        rw [e0, e1, e2, e3, e4, e5, e6, e7]
        exact round_runs (smEnvC_ok (oneCs_sound _) _ w hT.lt (bnd_self w) hT) (noLps_ok _) ht (Nat.zero_le _) (show 1 ≤ 5 by decide)
      · skip
        have e0 : bitM d 0 = bitM u 0 := by rw [hbits 0 (by decide)]; rfl
        have e1 : bitM d 1 = bitM u 1 := by rw [hbits 1 (by decide)]; rfl
        have e2 : bitM d 2 = bitM u 2 := by rw [hbits 2 (by decide)]; rfl
        have e3 : bitM d 3 = bitM u 3 := by rw [hbits 3 (by decide)]; rfl
        have e4 : bitM d 4 = bitM u 4 := by rw [hbits 4 (by decide)]; rfl
        have e5 : bitM d 5 = bitM u 5 := by rw [hbits 5 (by decide)]; rfl
        have e6 : bitM d 6 = bitM u 6 := by rw [hbits 6 (by decide)]; rfl
        have e7 : bitM d 7 = false := by rw [hbits 7 (by decide)]; rfl
        have ht := sm_shut T Sn t (memM u v) (bitM u 0) (bitM u 1) (bitM u 2) (bitM u 3) (bitM u 4) (bitM u 5) (bitM u 6) (bitM u 7) (popM u : Nat) i (memM d (v + 1)) t' (wvM u v) (wvM d (v + 1)) ((7 : Nat) : Int)
        rw [Int.toNat_natCast, hn, ixT_in hi, ixT_in hi, ixT_in hi, decide_eq_false (by omega), cond_false, bt_of hask] at ht
        have ht := ht.trans (show _ = smGo T Sn t' (memM d (v + 1)) (bitM u 0) (bitM u 1) (bitM u 2) (bitM u 3) (bitM u 4) (bitM u 5) (bitM u 6) false (popM d : Nat) i by
          show (bif !(true == bitM u 7) then _ else ixT (i : Int) T.nt _) = _
          rw [hb, ixT_in hi, ixT_in hi, hwn, hw, bne_self_eq_false]
          rfl)
        show RunsB Tryd.prog (· < w.heap.size) w 0 1 (cutA 0 smB) _ .normal (unpack 175 [1, 4, 5, 6, 7, 8, 9, 10] (smV T (popM d : Nat) i) (smH T Sn t' (memM d (v + 1)) (bitM d 0) (bitM d 1) (bitM d 2) (bitM d 3) (bitM d 4) (bitM d 5) (bitM d 6) (bitM d 7)))
        rw [e0, e1, e2, e3, e4, e5, e6, e7]
        exact round_runs (smEnvC_ok (oneCs_sound _) _ w hT.lt (bnd_self w) hT) (noLps_ok _) ht (Nat.zero_le _) (show 1 ≤ 5 by decide)

    | false =>
      obtain ⟨g1, g2⟩ := s14_no (K := .sh 0 (n : Int)) (S := Sn) h255 hv9 rfl (next_none h255 hv9 hb) t
      have hs := s1_eta g1 g2
      rw [show kErr (.sh 0 (n : Int)) = 11 from rfl] at hs
      have hask : smAskS Sn t (memM u v) (n : Int) (smS Sn (memM u v) (s14 (.sh 0 (n : Int)) 6 ⟨memM u v, t, q0M Sn⟩).t (wvM u v) 0 0 11) = true := by
        show (okM 6 (memM u v) && true && Nat.beq 0 0 && sure _) = true
        rw [hwn, sure_of hs, hok]; rfl
      generalize (s14 (.sh 0 (n : Int)) 6 ⟨memM u v, t, q0M Sn⟩).t = t' at hask
      refine ⟨u, v, t', hu, Nat.le_succ _, ?_⟩
      have ht := sm_none T Sn t (memM u v) (bitM u 0) (bitM u 1) (bitM u 2) (bitM u 3) (bitM u 4) (bitM u 5) (bitM u 6) (bitM u 7) (popM u : Nat) i (memM u v) t' (wvM u v) 0
      rw [ixT_in hi, ixT_in hi, ixT_in hi, Int.toNat_natCast, hn, decide_eq_false (by omega), cond_false, bt_of hask] at ht
      have hE := smEnvC_ok (oneCs_sound (smS Sn (memM u v) t' (wvM u v) 0 0 11)) _ w hT.lt (bnd_self w) hT
      rcases (show n = 0 ∨ n = 1 ∨ n = 2 ∨ n = 3 ∨ n = 4 ∨ n = 5 ∨ n = 6 ∨ n = 7 by omega) with rfl | rfl | rfl | rfl | rfl | rfl | rfl | rfl
      · skip
        have ht := ht.trans (show _ = smGo T Sn t' (memM u v) (bitM u 0) (bitM u 1) (bitM u 2) (bitM u 3) (bitM u 4) (bitM u 5) (bitM u 6) (bitM u 7) (popM u : Nat) i by
          show (bif !(false == bitM u 0) then _ else _) = _
          rw [hb]; rfl)
        exact round_runs hE (noLps_ok _) ht (Nat.zero_le _) (show 1 ≤ 5 by decide)
      · skip
        have ht := ht.trans (show _ = smGo T Sn t' (memM u v) (bitM u 0) (bitM u 1) (bitM u 2) (bitM u 3) (bitM u 4) (bitM u 5) (bitM u 6) (bitM u 7) (popM u : Nat) i by
          show (bif !(false == bitM u 1) then _ else _) = _
          rw [hb]; rfl)
        exact round_runs hE (noLps_ok _) ht (Nat.zero_le _) (show 1 ≤ 5 by decide)
      · skip
        have ht := ht.trans (show _ = smGo T Sn t' (memM u v) (bitM u 0) (bitM u 1) (bitM u 2) (bitM u 3) (bitM u 4) (bitM u 5) (bitM u 6) (bitM u 7) (popM u : Nat) i by
          show (bif !(false == bitM u 2) then _ else _) = _
          rw [hb]; rfl)
        exact round_runs hE (noLps_ok _) ht (Nat.zero_le _) (show 1 ≤ 5 by decide)
      · skip
        have ht := ht.trans (show _ = smGo T Sn t' (memM u v) (bitM u 0) (bitM u 1) (bitM u 2) (bitM u 3) (bitM u 4) (bitM u 5) (bitM u 6) (bitM u 7) (popM u : Nat) i by
          show (bif !(false == bitM u 3) then _ else _) = _
          rw [hb]; rfl)
        exact round_runs hE (noLps_ok _) ht (Nat.zero_le _) (show 1 ≤ 5 by decide)
      · skip
        have ht := ht.trans (show _ = smGo T Sn t' (memM u v) (bitM u 0) (bitM u 1) (bitM u 2) (bitM u 3) (bitM u 4) (bitM u 5) (bitM u 6) (bitM u 7) (popM u : Nat) i by
          show (bif !(false == bitM u 4) then _ else _) = _
          rw [hb]; rfl)
        exact round_runs hE (noLps_ok _) ht (Nat.zero_le _) (show 1 ≤ 5 by decide)
      · skip
        have ht := ht.trans (show _ = smGo T Sn t' (memM u v) (bitM u 0) (bitM u 1) (bitM u 2) (bitM u 3) (bitM u 4) (bitM u 5) (bitM u 6) (bitM u 7) (popM u : Nat) i by
          show (bif !(false == bitM u 5) then _ else _) = _
          rw [hb]; rfl)
        exact round_runs hE (noLps_ok _) ht (Nat.zero_le _) (show 1 ≤ 5 by decide)
      · skip
        have ht := ht.trans (show _ = smGo T Sn t' (memM u v) (bitM u 0) (bitM u 1) (bitM u 2) (bitM u 3) (bitM u 4) (bitM u 5) (bitM u 6) (bitM u 7) (popM u : Nat) i by
          show (bif !(false == bitM u 6) then _ else _) = _
          rw [hb]; rfl)
        exact round_runs hE (noLps_ok _) ht (Nat.zero_le _) (show 1 ≤ 5 by decide)
      · skip
        have ht := ht.trans (show _ = smGo T Sn t' (memM u v) (bitM u 0) (bitM u 1) (bitM u 2) (bitM u 3) (bitM u 4) (bitM u 5) (bitM u 6) (bitM u 7) (popM u : Nat) i by
          show (bif !(false == bitM u 7) then _ else _) = _
          rw [hb]; rfl)
        exact round_runs hE (noLps_ok _) ht (Nat.zero_le _) (show 1 ≤ 5 by decide)

theorem sm_R {i : Nat} {u v : Nat} (hu : u < 2 ^ Sn) (hv : v ≤ 1000) (t : Int) (many : Int) :
    RunsB Tryd.prog (· < w.heap.size) w 0 1 (cutZ 0 smB) (unpack 175 [1, 4, 5, 6, 7, 8, 9, 10] (smV T many i) (smHu T Sn t u v)) .normal (unpack 175 [1, 4, 5, 6, 7, 8, 9, 10] (smV T many i) (smHu T Sn t u v)) := by
  have hE := smEnv_ok _ w hT.lt (bnd_self w) hT
  have h255 := u255 hS hu
  have ht := sm_rest T Sn t (memM u v) (bitM u 0) (bitM u 1) (bitM u 2) (bitM u 3) (bitM u 4) (bitM u 5) (bitM u 6) (bitM u 7) many i
  have hsl : (slD (mcf Sn) (memM u v) 0).str = (u : Int) := by
    unfold slD
    rw [show (memM u v).getD (cellC (mcf Sn) ((0 : Nat) : Int)).toNat 0 = wvM u v from rfl, wvM_decA h255 hv]; rfl
  have hrc : rightC (mcf Sn) = true := rightC_iff.2 (by constructor <;> (unfold mcf; simp only; omega))
  rw [bt_of (show okM 6 (memM u v) = true from rfl), bt_of (show (rightC (mcf Sn) && okM 6 (memM u v) && Nat.beq 6 6) = true by rw [hrc]; rfl), hsl, bitX_of h255 (show 0 < 8 by decide), bitX_of h255 (show 1 < 8 by decide), bitX_of h255 (show 2 < 8 by decide), bitX_of h255 (show 3 < 8 by decide), bitX_of h255 (show 4 < 8 by decide), bitX_of h255 (show 5 < 8 by decide), bitX_of h255 (show 6 < 8 by decide), bitX_of h255 (show 7 < 8 by decide)] at ht
  simp only [beq_self_eq_true, Bool.not_true, cond_false] at ht
  exact round_runs hE (noLps_ok _) ht (Nat.zero_le _) (show 1 ≤ 5 by decide)
theorem sm_round {i : Nat} (hi : i < T.nt) (hi2 : i ≤ 40) (hx : 0 ≤ T.gi i 0 ∧ T.gi i 0 ≤ 255) {u v : Nat} (hu : u < 2 ^ Sn) (hv : v ≤ i) (t : Int) :
    ∃ u' v' t', u' < 2 ^ Sn ∧ v' ≤ i + 1 ∧ RunsB Tryd.prog (· < w.heap.size) w 0 1 smRound (unpack 175 [1, 4, 5, 6, 7, 8, 9, 10] (smV T (popM u : Nat) i) (smHu T Sn t u v)) .normal (unpack 175 [1, 4, 5, 6, 7, 8, 9, 10] (smV T (popM u' : Nat) ((i + 1 : Nat) : Int)) (smHu T Sn t' u' v')) := by
  have hE := smEnv_ok _ w hT.lt (bnd_self w) hT
  obtain ⟨u', v', t', h1, h2, hp⟩ := sm_P hT T hS hi hx hu (show v ≤ 900 by omega) t
  have hA := sm_treeA T Sn t (memM u v) (bitM u 0) (bitM u 1) (bitM u 2) (bitM u 3) (bitM u 4) (bitM u 5) (bitM u 6) (bitM u 7) (popM u : Nat) i
  rw [decide_eq_true (by omega), cond_true] at hA
  have rA := round_runs hE (noLps_ok _) hA (Nat.zero_le _) (show 1 ≤ 5 by decide)
  have rR := sm_R hT T hS (i := i) h1 (show v' ≤ 1000 by omega) t' (popM u' : Nat)
  have hZ := sm_treeZ T Sn t' (memM u' v') (bitM u' 0) (bitM u' 1) (bitM u' 2) (bitM u' 3) (bitM u' 4) (bitM u' 5) (bitM u' 6) (bitM u' 7) (popM u' : Nat) i
  rw [w64_succ (by omega)] at hZ
  have rZ := round_runs hE (noLps_ok _) hZ (Nat.zero_le _) (show 1 ≤ 5 by decide)
  refine ⟨u', v', t', h1, by omega, ?_⟩
  rw [sm_shape]
  exact rA.seq (((hp.seq rR).block_out (by simp)).seq rZ)
theorem sm_rounds (hn : T.nt ≤ 40) (hx : ∀ i, i < T.nt → 0 ≤ T.gi i 0 ∧ T.gi i 0 ≤ 255) : ∀ (m i u v : Nat) (t : Int), i + m = T.nt → u < 2 ^ Sn → v ≤ i →
    ∃ u' v' t', u' < 2 ^ Sn ∧ LoopRunsB Tryd.prog (· < w.heap.size) w 0 1 smRound (unpack 175 [1, 4, 5, 6, 7, 8, 9, 10] (smV T (popM u : Nat) i) (smHu T Sn t u v)) (.exit 0) (unpack 175 [1, 4, 5, 6, 7, 8, 9, 10] (smV T (popM u' : Nat) T.nt) (smHu T Sn t' u' v'))
  | 0, i, u, v, t, hi, hu, hv => by
    obtain rfl : i = T.nt := by omega
    have hE := smEnv_ok _ w hT.lt (bnd_self w) hT
    have hA := sm_treeA T Sn t (memM u v) (bitM u 0) (bitM u 1) (bitM u 2) (bitM u 3) (bitM u 4) (bitM u 5) (bitM u 6) (bitM u 7) (popM u : Nat) T.nt
    rw [decide_eq_false (by omega), cond_false] at hA
    have rA := round_runs hE (noLps_ok _) hA (Nat.zero_le _) (show 1 ≤ 5 by decide)
    refine ⟨u, v, t, hu, LoopRunsB.exit ?_ (by simp)⟩
    rw [sm_shape]
    exact rA.seq_out (by simp)
  | m + 1, i, u, v, t, hi, hu, hv => by
    obtain ⟨u1, v1, t1, h1, h2, hr⟩ := sm_round hT T hS (by omega) (by omega) (hx i (by omega)) hu hv t
    obtain ⟨u2, v2, t2, h3, h4⟩ := sm_rounds hn hx m (i + 1) u1 v1 t1 (by omega) h1 (by omega)
    exact ⟨u2, v2, t2, h3, LoopRunsB.step hr h4⟩
end
/-! ### The whole -/
abbrev smP (T : Tu) : List Value := [.slice (some ⟨0, 0, some 2⟩) T.nt T.ct, .bool false, .bool true, sP 1, sP 2, .slice (some ⟨3, 0, none⟩) 8 8, .int .i64 0]
abbrev smP0 (T : Tu) : List Value := [.slice (some ⟨0, 0, some 2⟩) T.nt T.ct, .bool true, .bool true, undef, undef, undef, undef]
theorem sm_cut : cutOK 7 smBody = true := by kernel_rfl
theorem sm_pre (T : Tu) (st : Int) :
    (roundV lwEnv 60 noLps 175 [1, 4, 5, 6, 7, 8, 9] 1 (cutA 7 smBody) ⟨[.int .u8 st, .slice (some ⟨0, 0, some 2⟩) T.nt T.ct] ++ List.replicate (175 - 2) undef, [T.row]⟩).get =
    bif decide ((T.nt : Int) > 40) then some (.ret, smP0 T, [T.row]) else bt (rightC (mcf (w64 (st.tmod 9)))) (some (.normal, smP T, smH T (w64 (st.tmod 9)) 6 (memM 0 0) false false false false false false false false)) := by kernel_rfl
noncomputable def smTail : Code := cutZ 7 smBody
theorem sm_shapeT : smTail = .seq (.seq (cutA 0 (cutA 0 smTail)) (.block 0 (blkAt 0 smBody))) (cutZ 0 smTail) := by kernel_rfl
theorem sm_first (T : Tu) (S t : Int) (l : List Int) (b0 b1 b2 b3 b4 b5 b6 b7 : Bool) : (roundV smEnv 60 noLps 175 [1, 4, 5, 6, 7, 8, 9, 10] 1 (cutA 0 (cutA 0 smTail)) (unpack 175 [1, 4, 5, 6, 7, 8, 9] (smP T) (smH T S t l b0 b1 b2 b3 b4 b5 b6 b7))).get = some (.normal, smV T 0 0, smH T S t l b0 b1 b2 b3 b4 b5 b6 b7) := by kernel_rfl
theorem sm_norm (T : Tu) (S t : Int) (l : List Int) (b0 b1 b2 b3 b4 b5 b6 b7 : Bool) (many i : Int) : (normV 175 [4, 5, 6, 9] 1 (unpack 175 [1, 4, 5, 6, 7, 8, 9, 10] (smV T many i) (smH T S t l b0 b1 b2 b3 b4 b5 b6 b7))).get = some ([.bool false, .bool true, sP 1, .int .i64 many], [T.row, cB (mcf S)]) := by kernel_rfl
theorem sm_last (T : Tu) (S many : Int) : (roundV smEnv 60 noLps 175 [4] 1 (cutZ 0 smTail) (unpack 175 [4, 5, 6, 9] [.bool false, .bool true, sP 1, .int .i64 many] [T.row, cB (mcf S)])).get = some (.ret, [.bool (decide (many ≤ S))], [T.row]) := by kernel_rfl
theorem sm_res (H : List Go.Sx.Blk) : (resultsM Tryd.prog Tryd.f8 (unpack 175 [4] [.bool true] H)).get = some (.bool true) := by kernel_rfl
theorem sm_res0 (T : Tu) (H : List Go.Sx.Blk) : (resultsM Tryd.prog Tryd.f8 (unpack 175 [1, 4, 5, 6, 7, 8, 9] (smP0 T) H)).get = some (.bool true) := by kernel_rfl
theorem sm_go (w : World) (hT : TT w) (st : Int) (hst : 0 ≤ st ∧ st ≤ 255) (nt ct : Nat) (gi : Nat → Nat → Int) (gb : Nat → Nat → Bool) (hgi : ∀ i, i < nt → 0 ≤ gi i 0 ∧ gi i 0 ≤ 255) {σ : Nat → Option Pl} (hr : HR (· < w.heap.size) w 0 σ [(⟨nt, ct, gi, gb⟩ : Tu).row] w)
    {args' : Array Value} (hv : VRA σ [.int .u8 st, .slice (some ⟨0, 0, some 2⟩) nt ct].toArray args') : Calls Tryd.prog 8 args' w fun e w' => e = .returned (.bool true) ∧ Below w.heap.size w w' := by
  obtain ⟨T, hTT⟩ : ∃ T : Tu, T = ⟨nt, ct, gi, gb⟩ := ⟨_, rfl⟩
  obtain rfl : nt = T.nt := by rw [hTT]
  obtain rfl : ct = T.ct := by rw [hTT]
  have hgi : ∀ i, i < T.nt → 0 ≤ T.gi i 0 ∧ T.gi i 0 ≤ 255 := fun i hi => by rw [hTT]; exact hgi i hi
  rw [← hTT] at hr
  have hE := smEnv_ok _ w hT.lt (bnd_self w) hT
  have hA := lwEnv_ok _ w hT.lt (bnd_self w) hT
  have hf : smEnv.P.funcs[8]? = some Tryd.f8 := Tryd.func8
  have hb : Tryd.f8.body = some smBody := by kernel_rfl
  have hn : Tryd.f8.ntmps = 175 := by kernel_rfl
  have hp := sm_pre T st
  by_cases hl : T.nt ≤ 40
  case neg =>
    rw [decide_eq_true (by omega), cond_true] at hp
    have hq := (cut_runs hA (Nat.zero_le _) sm_cut (show 1 ≤ 1 by decide) hp).2 (by simp)
    exact body_start (E := smEnv) rfl hf hb (by rw [hn]; exact hq) (.inr rfl) (sm_res0 T _) rfl hr hv
  obtain ⟨Sn, hS, hSe⟩ : ∃ Sn : Nat, Sn ≤ 8 ∧ w64 (st.tmod 9) = (Sn : Int) := by
    rw [Int.tmod_eq_emod_of_nonneg hst.1]
    have g1 := Int.emod_nonneg st (show (9 : Int) ≠ 0 by omega)
    have g2 := Int.emod_lt_of_pos st (show (0 : Int) < 9 by omega)
    rw [w64_in ⟨by omega, by omega⟩]
    exact ⟨(st % 9).toNat, by omega, by omega⟩
  have hrc : rightC (mcf Sn) = true := rightC_iff.2 (by constructor <;> (unfold mcf; simp only; omega))
  rw [decide_eq_false (by omega), cond_false, hSe, bt_of hrc] at hp
  have h0 := (cut_runs hA (Nat.zero_le _) sm_cut (show 1 ≤ 1 by decide) hp).1 rfl
  obtain ⟨u', v', t', hu', hloop⟩ := sm_rounds hT T hS hl hgi T.nt 0 0 0 6 (Nat.zero_add _) (Nat.pow_pos (by decide)) (Nat.le_refl _)
  have h1 := round_runs hE (noLps_ok _) (sm_first T Sn 6 (memM 0 0) false false false false false false false false) (Nat.zero_le _) (show 1 ≤ 5 by decide)
  have h2 := hloop.runs.block_exit.norm (sm_norm T Sn t' (memM u' v') (bitM u' 0) (bitM u' 1) (bitM u' 2) (bitM u' 3) (bitM u' 4) (bitM u' 5) (bitM u' 6) (bitM u' 7) (popM u' : Nat) T.nt) (Nat.zero_le _)
  have h3 := sm_last T Sn (popM u' : Nat)
  rw [decide_eq_true (show ((popM u' : Nat) : Int) ≤ (Sn : Int) by have := pop_le hS hu'; omega)] at h3
  have h3 := round_runs hE (noLps_ok _) h3 (Nat.zero_le _) (show 1 ≤ 2 by decide)
  have hall : RunsB Tryd.prog (· < w.heap.size) w 0 1 smTail (unpack 175 [1, 4, 5, 6, 7, 8, 9] (smP T) (smH T Sn 6 (memM 0 0) false false false false false false false false)) .ret (unpack 175 [4] [.bool true] [T.row]) := by
    rw [sm_shapeT]
    rw [← sm_loop] at h2
    exact (h1.seq h2).seq h3
  exact body_start (E := smEnv) rfl hf hb (by rw [hn]; exact h0 _ _ hall) (.inr rfl) (sm_res _) rfl hr hv
theorem sm_walk (w : World) (hT : TT w) (x0 : Int) (b0 : 0 ≤ x0 ∧ x0 ≤ 255) {B1 : Option Addr} {m1 q1 : Nat} {S1 : Go.Sx.Rows} (k1 : S1.ks = [.it .u8]) (r1 : ArgRow w B1 m1 q1 1 S1) :
    Calls Tryd.prog 8 #[.int .u8 x0, .slice B1 m1 q1] w fun e w' => e = .returned (.bool true) ∧ Below w.heap.size w w' := by
  have hw1 : ∀ i, i < m1 → 0 ≤ S1.gi i 0 ∧ S1.gi i 0 ≤ 255 := fun i hi => U8_of_wf (r1.wf i 0 .u8 hi (by decide) (by rw [k1]; rfl))
  obtain ⟨ks1, S1gi, S1gb⟩ := S1
  simp only at k1
  subst k1
  let L : List ArgE := [(B1, m1, q1, 1, ⟨[.it .u8], S1gi, S1gb⟩)]
  let σ : Nat → Option Pl := fun k => (L[k]?).bind fun e : ArgE => plOf e.1 e.2.1 e.2.2.2.1
  have hL : ∀ e ∈ L, ArgRow w e.1 e.2.1 e.2.2.1 e.2.2.2.1 e.2.2.2.2 := by
    intro e he
    simp only [L, List.mem_cons, List.not_mem_nil, or_false] at he
    rcases he with rfl
    · exact r1
  have hr : HR (· < w.heap.size) w 0 σ ((L.map fun e : ArgE => (e.2.2.2.1, e.2.1, e.2.2.2.2)).map fun e => .rows false false e.1 e.2.1 e.2.2) w := args_hr _ (plOfs_some L hL)
  refine sm_go w hT x0 b0 m1 q1 S1gi S1gb hw1 hr (VRA.of_list ?_)
  exact .cons (.int _ _) (.cons (VR.argRow (σ := σ) (k := 0) r1 rfl _) .nil)
end Go.Proofs.YthfoljgaiincdaaDoor
