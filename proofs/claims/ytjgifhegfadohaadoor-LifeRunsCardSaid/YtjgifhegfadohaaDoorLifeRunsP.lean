/- LifeRuns: whatever the input its run answers true. No condition of its own. -/
import Derived.Test.YtjgifhegfadohaaDoorLifeRunsT
namespace Go.Proofs.YtjgifhegfadohaaDoor
open Go.RowKit Go.Fld Go.Sx
set_option linter.unusedVariables false
set_option linter.unusedSimpArgs false
theorem cnt_all : (List.range 256).all (fun c : Nat => (List.range 9).all fun k : Nat => decide ((2 : Int) ^ k ≤ c) || (decide (cntS c ≤ k) && (decide ((k : Int) ≤ lowI c) || decide ((c : Int) + 2 ^ (lowI c).toNat < 2 ^ k)))) = true := by kernel_rfl
theorem cnt_at {c k : Int} (h0 : 0 ≤ c) (h1 : c ≤ 255) (k0 : 0 ≤ k) (k8 : k ≤ 8) (h : c < 2 ^ k.toNat) : cntS c ≤ k ∧ (lowI c < k → c + 2 ^ (lowI c).toNat < 2 ^ k.toNat) := by
  have q := List.all_eq_true.1 (List.all_eq_true.1 cnt_all c.toNat (List.mem_range.2 (by omega))) k.toNat (List.mem_range.2 (by omega))
  rw [show ((c.toNat : Nat) : Int) = c by omega, show ((k.toNat : Nat) : Int) = k by omega] at q
  simp only [Bool.or_eq_true, Bool.and_eq_true, decide_eq_true_eq] at q
  rcases q with q | ⟨q1, q2⟩
  · omega
  · refine ⟨q1, fun hl => ?_⟩
    rcases q2 with q2 | q2
    · omega
    · exact q2
theorem cnt_zero : cntS 0 = 0 := by kernel_rfl
theorem row_more {s r : Slt} {d o m k : Int} (F : Facts s) (h : rowS s d o m = some r) (k0 : 0 ≤ k) (k8 : k ≤ 8) (hs : s.str < 2 ^ k.toNat) (hm : d = 14 → m = k) :
    r.str < 2 ^ k.toNat ∧ ((r.st = 3 ∧ s.st ≠ 3) ∧ r.gen = (s.gen + 1) % 4096 ∨ ¬ (r.st = 3 ∧ s.st ≠ 3) ∧ r.gen = s.gen) := by
  have hc := row_cases h
  clear h
  have h14 := (cnt_at F.str.1 F.str.2 k0 k8 hs).2
  have hp : (0 : Int) < 2 ^ k.toNat := Int.pow_pos (by decide)
  obtain ⟨F1, F2, F3, F4, F5, F6, F7, F8, F9, F10, F11, F12, F13⟩ := F
  generalize (2 : Int) ^ k.toNat = q at hs hp h14 ⊢
  rcases hc with ⟨hd, h⟩ | ⟨hd, h⟩ | ⟨hd, h⟩ | ⟨hd, h⟩ | ⟨hd, h⟩ | ⟨hd, h⟩ | ⟨hd, h⟩ | ⟨hd, h⟩ | ⟨hd, h⟩ | ⟨hd, h⟩ | ⟨hd, h⟩ | ⟨hd, h⟩ | ⟨hd, h⟩ | ⟨hd, h⟩ | ⟨hd, h⟩ | ⟨hd, h⟩ | ⟨hd, h⟩ | ⟨hd, h⟩
  · simp only [row0, plainS, leasedS] at h
    split at h
    · rename_i z; cases h; refine ⟨by simp only; omega, ?_⟩; first | exact .inl ⟨⟨rfl, by omega⟩, rfl⟩ | exact .inr ⟨fun hh => by have h1 := hh.1; have h2 := hh.2; try simp only at h1; omega, rfl⟩
    · cases h
  · simp only [row1, plainS, leasedS] at h
    split at h
    · rename_i z; cases h; refine ⟨by simp only; omega, ?_⟩; first | exact .inl ⟨⟨rfl, by omega⟩, rfl⟩ | exact .inr ⟨fun hh => by have h1 := hh.1; have h2 := hh.2; try simp only at h1; omega, rfl⟩
    · cases h
  · simp only [row2, plainS, leasedS] at h
    split at h
    · rename_i z; cases h; refine ⟨by simp only; omega, ?_⟩; first | exact .inl ⟨⟨rfl, by omega⟩, rfl⟩ | exact .inr ⟨fun hh => by have h1 := hh.1; have h2 := hh.2; try simp only at h1; omega, rfl⟩
    · cases h
  · simp only [row3, plainS, leasedS] at h
    split at h
    · rename_i z; cases h; refine ⟨by simp only; omega, ?_⟩; first | exact .inl ⟨⟨rfl, by omega⟩, rfl⟩ | exact .inr ⟨fun hh => by have h1 := hh.1; have h2 := hh.2; try simp only at h1; omega, rfl⟩
    · cases h
  · simp only [row4, plainS, leasedS] at h
    split at h
    · rename_i z; cases h; refine ⟨by simp only; omega, ?_⟩; first | exact .inl ⟨⟨rfl, by omega⟩, rfl⟩ | exact .inr ⟨fun hh => by have h1 := hh.1; have h2 := hh.2; try simp only at h1; omega, rfl⟩
    · cases h
  · simp only [row5, plainS, leasedS] at h
    split at h
    · rename_i z; cases h; refine ⟨by simp only; omega, ?_⟩; first | exact .inl ⟨⟨rfl, by omega⟩, rfl⟩ | exact .inr ⟨fun hh => by have h1 := hh.1; have h2 := hh.2; try simp only at h1; omega, rfl⟩
    · cases h
  · simp only [row6, plainS, leasedS] at h
    split at h
    · rename_i z; cases h; refine ⟨by simp only; omega, ?_⟩; first | exact .inl ⟨⟨rfl, by omega⟩, rfl⟩ | exact .inr ⟨fun hh => by have h1 := hh.1; have h2 := hh.2; try simp only at h1; omega, rfl⟩
    · cases h
  · simp only [row7, plainS, leasedS] at h
    split at h
    · rename_i z; cases h; refine ⟨by simp only; omega, ?_⟩; first | exact .inl ⟨⟨rfl, by omega⟩, rfl⟩ | exact .inr ⟨fun hh => by have h1 := hh.1; have h2 := hh.2; try simp only at h1; omega, rfl⟩
    · cases h
  · simp only [row8, plainS, leasedS] at h
    split at h
    · rename_i z; cases h; refine ⟨by simp only; omega, ?_⟩; first | exact .inl ⟨⟨rfl, by omega⟩, rfl⟩ | exact .inr ⟨fun hh => by have h1 := hh.1; have h2 := hh.2; try simp only at h1; omega, rfl⟩
    · cases h
  · simp only [row9, plainS, leasedS] at h
    split at h
    · rename_i z; cases h; refine ⟨by simp only; omega, ?_⟩; first | exact .inl ⟨⟨rfl, by omega⟩, rfl⟩ | exact .inr ⟨fun hh => by have h1 := hh.1; have h2 := hh.2; try simp only at h1; omega, rfl⟩
    · cases h
  · simp only [row10, plainS, leasedS] at h
    split at h
    · rename_i z; cases h; refine ⟨by simp only; omega, ?_⟩; first | exact .inl ⟨⟨rfl, by omega⟩, rfl⟩ | exact .inr ⟨fun hh => by have h1 := hh.1; have h2 := hh.2; try simp only at h1; omega, rfl⟩
    · cases h
  · simp only [row11, plainS, leasedS] at h
    split at h
    · rename_i z; cases h; refine ⟨by simp only; omega, ?_⟩; first | exact .inl ⟨⟨rfl, by omega⟩, rfl⟩ | exact .inr ⟨fun hh => by have h1 := hh.1; have h2 := hh.2; try simp only at h1; omega, rfl⟩
    · cases h
  · simp only [row12, plainS, leasedS] at h
    split at h
    · rename_i z; cases h; refine ⟨by simp only; omega, ?_⟩; first | exact .inl ⟨⟨rfl, by omega⟩, rfl⟩ | exact .inr ⟨fun hh => by have h1 := hh.1; have h2 := hh.2; try simp only at h1; omega, rfl⟩
    · cases h
  · simp only [row13, plainS, leasedS] at h
    split at h
    · rename_i z; cases h; refine ⟨by simp only; omega, ?_⟩; first | exact .inl ⟨⟨rfl, by omega⟩, rfl⟩ | exact .inr ⟨fun hh => by have h1 := hh.1; have h2 := hh.2; try simp only at h1; omega, rfl⟩
    · cases h
  · simp only [row14] at h
    split at h
    · rename_i z
      cases h
      have := h14 (by rw [← hm hd]; exact z.2.2.2.1)
      refine ⟨by simp only; omega, ?_⟩; first | exact .inl ⟨⟨rfl, by omega⟩, rfl⟩ | exact .inr ⟨fun hh => by have h1 := hh.1; have h2 := hh.2; try simp only at h1; omega, rfl⟩
    · cases h
  · simp only [row15] at h
    split at h
    · have hpp : (0 : Int) < 2 ^ m.toNat := Int.pow_pos (by decide)
      rename_i z
      cases h
      refine ⟨by simp only; omega, ?_⟩; first | exact .inl ⟨⟨rfl, by omega⟩, rfl⟩ | exact .inr ⟨fun hh => by have h1 := hh.1; have h2 := hh.2; try simp only at h1; omega, rfl⟩
    · cases h
  · simp only [row16, plainS, leasedS] at h
    split at h
    · rename_i z; cases h; refine ⟨by simp only; omega, ?_⟩; first | exact .inl ⟨⟨rfl, by omega⟩, rfl⟩ | exact .inr ⟨fun hh => by have h1 := hh.1; have h2 := hh.2; try simp only at h1; omega, rfl⟩
    · split at h
      · rename_i z; cases h; refine ⟨by simp only; omega, ?_⟩; first | exact .inl ⟨⟨rfl, by omega⟩, rfl⟩ | exact .inr ⟨fun hh => by have h1 := hh.1; have h2 := hh.2; try simp only at h1; omega, rfl⟩
      · cases h
  · simp only [row17, plainS, leasedS] at h
    split at h
    · rename_i z; cases h; refine ⟨by simp only; omega, ?_⟩; first | exact .inl ⟨⟨rfl, by omega⟩, rfl⟩ | exact .inr ⟨fun hh => by have h1 := hh.1; have h2 := hh.2; try simp only at h1; omega, rfl⟩
    · cases h
/-- What holds ahead of each round. -/
structure Inv (n : Nat) (s : Slt) (k ls i : Int) : Prop where
  F : Facts s
  gen : s.gen = ls
  lss : 0 ≤ ls ∧ ls ≤ i
  ii : i ≤ n
  nn : n ≤ 60
  kk : 0 ≤ k ∧ k ≤ 8
  str : s.str < 2 ^ k.toNat
theorem gd_in {α : Type} {i : Int} {n : Nat} (h0 : 0 ≤ i) (h1 : i < n) (K : Option α) : gd i n K = K := by
  unfold gd
  have e1 : inRange i n = true := by simp [inRange]; omega
  have e2 : Nat.blt (0 + i.toNat) n = true := by simp; omega
  rw [e1, e2]; rfl
theorem runsQ_ok {n cap : Nat} {g : Nat → Nat → Int} {s t : Slt} {k ls i : Int} (F : Facts t) (hg : t.gen = ls) (k0 : 0 ≤ k) (k8 : k ≤ 8) (ht : t.str < 2 ^ k.toNat) : runsQ n cap g s t k ls i = some (.normal, runsS n cap g t k ls (IntKind.i64.wrap (i + 1))) := by
  have hc := (cnt_at F.str.1 F.str.2 k0 k8 ht).1
  unfold runsQ
  have e1 : (t.gen != ls) = false := by simp [hg]
  have e2 : decide (cntS t.str > k) = false := decide_eq_false (by omega)
  rw [e1, e2, right_facts.2 F]
  by_cases h3 : t.st = 3
  · have e3 : (t.st != 3) = false := by simp [h3]
    rw [e3]
    cases decide (cntS t.str > 0) <;> rfl
  · have hz : t.str = 0 := by rcases F.str3 with h | h <;> first | exact h | exact absurd h h3
    rw [hz, cnt_zero]
    rfl
theorem runsA_ok {n cap : Nat} {g : Nat → Nat → Int} {s : Slt} {k ls i d o m : Int} (H : Inv n s k ls i) (hi : i < n) (hm : d = 14 → m = k) :
    ∃ s' ls', runsA n cap g s k ls i d o m = some (.normal, runsS n cap g s' k ls' (i + 1)) ∧ Inv n s' k ls' (i + 1) := by
  have hl := H.lss
  have hn := H.nn
  have hw : IntKind.i64.wrap (i + 1) = i + 1 := wrap_small (by omega) (by omega)
  unfold runsA
  rw [gd_in (by omega) hi, gd_in (by omega) hi, hw]
  cases hI : I s d o m with
  | false => exact ⟨s, ls, rfl, ⟨H.F, H.gen, by omega, by omega, H.nn, H.kk, H.str⟩⟩
  | true =>
    obtain ⟨r, hr, F, o0, o1, hn', ht⟩ := I_some hI
    obtain ⟨m1, m2⟩ := row_more F hr H.kk.1 H.kk.2 H.str hm
    have hv := F.ver
    have hF := row_facts F o0 o1 hr ((s.ver + 1) % 32768) (by omega) (by omega)
    have hgen := H.gen
    rw [ht]
    have hw2 : IntKind.i64.wrap (ls + 1) = ls + 1 := wrap_small (by omega) (by omega)
    rw [hw2]
    rcases m2 with ⟨⟨c1, c2⟩, hg⟩ | ⟨hc, hg⟩
    · have e1 : (r.st == 3) = true := by simpa using c1
      have e2 : (s.st != 3) = true := by simpa using c2
      refine ⟨{ r with ver := (s.ver + 1) % 32768 }, ls + 1, ?_, ⟨hF, ?_, by omega, by omega, H.nn, H.kk, m1⟩⟩
      · simp only [e1, e2, cond_true, Bool.not_true, cond_false]
        rw [runsQ_ok hF (by simp only; omega) H.kk.1 H.kk.2 m1, hw]
      · simp only; omega
    · refine ⟨{ r with ver := (s.ver + 1) % 32768 }, ls, ?_, ⟨hF, ?_, by omega, by omega, H.nn, H.kk, m1⟩⟩
      · have hq := runsQ_ok (n := n) (cap := cap) (g := g) (s := s) (t := { r with ver := (s.ver + 1) % 32768 }) (i := i) (ls := ls) hF (by simp only; omega) H.kk.1 H.kk.2 m1
        rw [hw] at hq
        by_cases c1 : r.st = 3
        · have c2 : s.st = 3 := by
            by_cases c2 : s.st = 3
            · exact c2
            · exact absurd ⟨c1, c2⟩ hc
          have e1 : (r.st == 3) = true := by simpa using c1
          have e2 : (s.st != 3) = false := by simp [c2]
          simp only [e1, e2, cond_true, Bool.not_true, cond_false]
          exact hq
        · have e1 : (r.st == 3) = false := by simpa using c1
          simp only [e1, Bool.not_true, cond_false]
          exact hq
      · simp only; omega
theorem round_ok {n cap : Nat} {g : Nat → Nat → Int} {s : Slt} {k ls i : Int} (H : Inv n s k ls i) (hi : i < n) :
    ∃ s' ls', (roundM lawEnv 60 runsRound runsMask 2 (runsS n cap g s k ls i)).get = some (.normal, runsS n cap g s' k ls' (i + 1)) ∧ Inv n s' k ls' (i + 1) := by
  have hl := H.lss
  have ht := runs_tree n cap g s k ls i
  rw [decide_eq_true hi, gd_in (by omega) hi, gd_in (by omega) hi] at ht
  simp only [cond_true] at ht
  cases hd : (g (0 + i.toNat) 0 == 14) with
  | true =>
    obtain ⟨s', ls', h1, h2⟩ := runsA_ok (cap := cap) (g := g) (o := g (0 + i.toNat) 1) (d := g (0 + i.toNat) 0) (m := k) H hi (fun _ => rfl)
    rw [hd] at ht
    exact ⟨s', ls', ht.trans h1, h2⟩
  | false =>
    obtain ⟨s', ls', h1, h2⟩ := runsA_ok (cap := cap) (g := g) (o := g (0 + i.toNat) 1) (d := g (0 + i.toNat) 0) (m := g (0 + i.toNat) 2) H hi (fun h => by rw [h] at hd; cases hd)
    rw [hd] at ht
    exact ⟨s', ls', ht.trans h1, h2⟩
theorem runs_rows (n cap : Nat) (g : Nat → Nat → Int) (s : Slt) (k ls i : Int) : RowsPlain (runsS n cap g s k ls i).lh := by
  intro q o wr wd m h hq i j
  match q, hq with
  | 0, hq => simp [runsS, runsLh] at hq; obtain ⟨_, _, _, _, rfl⟩ := hq; rfl
  | 1, hq => simp [runsS, runsLh] at hq
  | q + 2, hq => simp [runsS, runsLh] at hq
theorem loop_ok {N : Nat} {w0 : World} (hT : Tab w0) (hN : 0 < N) {n cap : Nat} {g : Nat → Nat → Int} {k : Int} : ∀ (d : Nat) (s : Slt) (ls i : Int), (d : Int) = n - i → Inv n s k ls i →
    ∃ s' ls', LoopRuns Tryd.prog N w0 0 runsRound (runsS n cap g s k ls i) (.exit 0) (runsS n cap g s' k ls' n)
  | 0, s, ls, i, hd, H => by
    obtain rfl : i = n := by omega
    refine ⟨s, ls, LoopRuns.exit (round_runs (lawEnv_ok hT hN) (fuel := 60) (mask := runsMask) (m := 2) ?_ (Nat.le_refl 2) (Nat.zero_le _) (runs_rows _ _ _ _ _ _ _)) (by simp)⟩
    have ht := runs_tree n cap g s k ls n
    rw [decide_eq_false (by omega)] at ht
    exact ht
  | d + 1, s, ls, i, hd, H => by
    obtain ⟨s1, ls1, h1, H1⟩ := round_ok (cap := cap) (g := g) H (by omega)
    obtain ⟨s', ls', hl⟩ := loop_ok hT hN d s1 ls1 (i + 1) (by omega) H1
    exact ⟨s', ls', LoopRuns.step (round_runs (lawEnv_ok hT hN) h1 (Nat.le_refl 2) (Nat.zero_le _) (runs_rows _ _ _ _ _ _ _)) hl⟩
end Go.Proofs.YtjgifhegfadohaaDoor
