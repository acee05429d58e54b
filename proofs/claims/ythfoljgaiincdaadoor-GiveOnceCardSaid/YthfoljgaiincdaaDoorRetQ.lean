
/- retire alone: its steps, and of two that race the one that wins. No condition of its own. -/
import Derived.Test.YthfoljgaiincdaaDoorRetA
import Derived.Test.YthfoljgaiincdaaDoorWords
namespace Go.Proofs.YthfoljgaiincdaaDoor
open Go.RowKit Go.Fld Go.Sx
set_option linter.unusedVariables false
set_option linter.unusedSimpArgs false
/-! ### The program's step, by where it is -/
theorem rstep_swap {n : Nat} {l : List Int} {q : Rq} (h : q.f = fSwap) : rstep n l q = bif rHit n l q then ⟨q.cell, (rNext q).getD 0, q.ep, fLook, true, q.dn⟩ else rEnd q := by unfold rstep; rw [h]; rfl
theorem rstep_look {n : Nat} {l : List Int} {q : Rq} (h : q.f = fLook) : rstep n l q = ⟨q.cell, q.word, ldS n l 2, fAge, q.sw, q.dn⟩ := by unfold rstep; rw [h]; rfl
theorem rstep_age {n : Nat} {l : List Int} {q : Rq} (h : q.f = fAge) : rstep n l q = ⟨q.cell, q.word, q.ep, fGoOn, q.sw, q.dn⟩ := by unfold rstep; rw [h]; rfl
theorem rstep_go {n : Nat} {l : List Int} {q : Rq} (h : q.f = fGoOn) : rstep n l q = rEnd q := by unfold rstep; rw [h]; rfl
theorem rstep_end {n : Nat} {l : List Int} {q : Rq} (h : q.f = fEnd) : rstep n l q = rEnd q := by unfold rstep; rw [h]; rfl
theorem rmem_swap {n : Nat} {l : List Int} {q : Rq} (h : q.f = fSwap) : rmem n l q = bif (rNext q).isSome then casS n l q.cell q.word ((rNext q).getD 0) else l := by unfold rmem; rw [h]; rfl
theorem rmem_look {n : Nat} {l : List Int} {q : Rq} (h : q.f = fLook) : rmem n l q = l := by unfold rmem; rw [h]; rfl
theorem rmem_age {n : Nat} {l : List Int} {q : Rq} (h : q.f = fAge) : rmem n l q = bif (rAged q).isSome then casS n l q.cell q.word ((rAged q).getD 0) else l := by unfold rmem; rw [h]; rfl
theorem rmem_go {n : Nat} {l : List Int} {q : Rq} (h : q.f = fGoOn) : rmem n l q = addS n l 2 1 := by unfold rmem; rw [h]; rfl
theorem rmem_end {n : Nat} {l : List Int} {q : Rq} (h : q.f = fEnd) : rmem n l q = l := by unfold rmem; rw [h]; rfl
theorem rtch_swap {n : Nat} {q : Rq} {t : Int} (h : q.f = fSwap) : rtch n q t = bif (rNext q).isSome then tcS n q.cell t else t := by unfold rtch; rw [h]; rfl
theorem rtch_look {n : Nat} {q : Rq} {t : Int} (h : q.f = fLook) : rtch n q t = tcS n 2 t := by unfold rtch; rw [h]; rfl
theorem rtch_age {n : Nat} {q : Rq} {t : Int} (h : q.f = fAge) : rtch n q t = bif (rAged q).isSome then tcS n q.cell t else t := by unfold rtch; rw [h]; rfl
theorem rtch_go {n : Nat} {q : Rq} {t : Int} (h : q.f = fGoOn) : rtch n q t = tcS n 2 t := by unfold rtch; rw [h]; rfl
theorem rtch_end {n : Nat} {q : Rq} {t : Int} (h : q.f = fEnd) : rtch n q t = t := by unfold rtch; rw [h]; rfl
theorem rret_swap {n : Nat} {l : List Int} {q : Rq} (h : q.f = fSwap) : rret n l q = !rHit n l q := by unfold rret; rw [h]; rfl
theorem rret_look {n : Nat} {l : List Int} {q : Rq} (h : q.f = fLook) : rret n l q = false := by unfold rret; rw [h]; rfl
theorem rret_age {n : Nat} {l : List Int} {q : Rq} (h : q.f = fAge) : rret n l q = false := by unfold rret; rw [h]; rfl
theorem rret_go {n : Nat} {l : List Int} {q : Rq} (h : q.f = fGoOn) : rret n l q = true := by unfold rret; rw [h]; rfl
theorem rret_end {n : Nat} {l : List Int} {q : Rq} (h : q.f = fEnd) : rret n l q = true := by unfold rret; rw [h]; rfl
theorem rOK_of {f : Nat} (h : f = fSwap ∨ f = fLook ∨ f = fAge ∨ f = fGoOn ∨ f = fEnd) : rOK f = true := by
  rcases h with rfl | rfl | rfl | rfl | rfl <;> rfl
theorem rstep_f (n : Nat) (l : List Int) (q : Rq) : rOK (rstep n l q).f = true := by
  unfold rstep
  cases Nat.beq q.f fSwap with
  | true => simp only [cond_true]; cases rHit n l q <;> rfl
  | false =>
    cases Nat.beq q.f fLook with
    | true => rfl
    | false => cases Nat.beq q.f fAge <;> rfl
theorem rmem_length (n : Nat) (l : List Int) (q : Rq) : (rmem n l q).length = l.length := by
  unfold rmem
  cases Nat.beq q.f fSwap with
  | true => simp only [cond_true]; cases (rNext q).isSome; rfl; exact casS_length _ _ _ _ _
  | false =>
    cases Nat.beq q.f fLook with
    | true => rfl
    | false =>
      cases Nat.beq q.f fAge with
      | true => simp only [cond_true, cond_false]; cases (rAged q).isSome; rfl; exact casS_length _ _ _ _ _
      | false =>
        cases Nat.beq q.f fGoOn with
        | true => exact addS_length _ _ _ _
        | false => rfl
theorem okM_r (n : Nat) (l : List Int) (q : Rq) : okM n (rmem n l q) = okM n l := by unfold okM; rw [rmem_length]
/-! ### Words behind a step -/
theorem optI {o : Option Slt} : I64i ((o.bind encS).getD 0) := by
  cases o with
  | none => exact ⟨by decide, by decide⟩
  | some s => exact encS_I
theorem aft_I (d : Int → Option Slt) (w k own more : Int) : I64i ((aftS d w k own more).getD 0) := optI
theorem aft_dec {w : Int} (h : I64i w) (k own more : Int) : aftS decA w k own more = aftS decS w k own more := by unfold aftS; rw [decA_eq w h]
theorem AllI.cas {l : List Int} (h : AllI l) (n : Nat) (i a : Int) {v : Int} (hv : I64i v) : AllI (casS n l i a v) := by
  unfold casS
  split
  · exact h.st _ _ hv
  · exact h
theorem AllI.add {l : List Int} (h : AllI l) (n : Nat) (i d : Int) : AllI (addS n l i d) := h.st _ _ (w64_I _)
theorem AllI.rmem {l : List Int} (h : AllI l) (n : Nat) (q : Rq) : AllI (rmem n l q) := by
  unfold Go.Proofs.YthfoljgaiincdaaDoor.rmem
  cases Nat.beq q.f fSwap with
  | true => simp only [cond_true]; cases (rNext q).isSome; exact h; exact h.cas _ _ _ (aft_I _ _ _ _ _)
  | false =>
    cases Nat.beq q.f fLook with
    | true => exact h
    | false =>
      cases Nat.beq q.f fAge with
      | true => simp only [cond_true, cond_false]; cases (rAged q).isSome; exact h; exact h.cas _ _ _ (aft_I _ _ _ _ _)
      | false =>
        cases Nat.beq q.f fGoOn with
        | true => exact h.add _ _ _
        | false => exact h
/-! ### How far one is -/
def rk (f : Nat) : Nat := bif Nat.beq f fSwap then 0 else bif Nat.beq f fLook then 1 else bif Nat.beq f fAge then 2 else bif Nat.beq f fGoOn then 3 else 4
theorem rk_step (n : Nat) (l : List Int) {q : Rq} (h : rOK q.f = true) : min 4 (rk q.f + 1) ≤ rk (rstep n l q).f := by
  rcases rOK_cases h with e | e | e | e | e
  · rw [rstep_swap e, e]
    cases rHit n l q
    · show min 4 (rk fSwap + 1) ≤ rk fEnd; decide
    · show min 4 (rk fSwap + 1) ≤ rk fLook; decide
  · rw [rstep_look e, e]; show min 4 (rk fLook + 1) ≤ rk fAge; decide
  · rw [rstep_age e, e]; show min 4 (rk fAge + 1) ≤ rk fGoOn; decide
  · rw [rstep_go e, e]; show min 4 (rk fGoOn + 1) ≤ rk fEnd; decide
  · rw [rstep_end e, e]; show min 4 (rk fEnd + 1) ≤ rk fEnd; decide
theorem rk_end {f : Nat} (h : rOK f = true) (hk : 4 ≤ rk f) : f = fEnd := by
  rcases rOK_cases h with e | e | e | e | e
  · subst e; exact absurd hk (by decide)
  · subst e; exact absurd hk (by decide)
  · subst e; exact absurd hk (by decide)
  · subst e; exact absurd hk (by decide)
  · exact e
/-! ### A cell -/
structure CellAt (N : Nat) (l : List Int) (c : Int) (n : Nat) : Prop where
  hc : c = (n : Int)
  hN : N = l.length
  lt : n < N
theorem CellAt.in_ {N : Nat} {l : List Int} {c : Int} {n : Nat} (h : CellAt N l c n) : inR N c = true := by
  unfold inR
  rw [h.hc, decide_eq_true (by omega), decide_eq_true (by have := h.lt; omega)]; rfl
theorem CellAt.ld {N : Nat} {l : List Int} {c : Int} {n : Nat} (h : CellAt N l c n) : ldS N l c = l.getD n 0 := by
  unfold ldS
  rw [if_pos h.in_, h.hc, Int.toNat_natCast]
theorem CellAt.st {N : Nat} {l : List Int} {c : Int} {n : Nat} (h : CellAt N l c n) (v : Int) : stS N l c v = l.set n v := by
  unfold stS
  rw [if_pos h.in_, h.hc, Int.toNat_natCast]
theorem CellAt.cas_yes {N : Nat} {l : List Int} {c : Int} {n : Nat} (h : CellAt N l c n) {a : Int} (ha : l.getD n 0 = a) (v : Int) : casB N l c a = true ∧ casS N l c a v = l.set n v := by
  have e : casB N l c a = true := by unfold casB; rw [h.in_, h.ld, ha, beq_self_eq_true]; rfl
  unfold casS
  rw [if_pos e, h.st]
  exact ⟨e, rfl⟩
theorem CellAt.cas_no {N : Nat} {l : List Int} {c : Int} {n : Nat} (h : CellAt N l c n) {a : Int} (ha : l.getD n 0 ≠ a) (v : Int) : casB N l c a = false ∧ casS N l c a v = l := by
  have e : casB N l c a = false := by
    unfold casB
    rw [h.in_, h.ld]
    have : (l.getD n 0 == a) = false := beq_eq_false_iff_ne.2 ha
    rw [this]; rfl
  unfold casS
  rw [if_neg (by rw [e]; simp)]
  exact ⟨e, rfl⟩
theorem CellAt.set {N : Nat} {l : List Int} {c : Int} {n : Nat} (h : CellAt N l c n) (m : Nat) (v : Int) : CellAt N (l.set m v) c n := ⟨h.hc, by rw [List.length_set]; exact h.hN, h.lt⟩
theorem getD_set_eq {l : List Int} {n : Nat} (h : n < l.length) (v : Int) : (l.set n v).getD n 0 = v := by rw [getD_set, if_pos ⟨rfl, h⟩]
theorem getD_set_ne {l : List Int} {m n : Nat} (h : m ≠ n) (v : Int) : (l.set m v).getD n 0 = l.getD n 0 := by rw [getD_set, if_neg (fun hh => h hh.1)]
/-! ### One wins -/
structure Race where
  N : Nat
  l0 : List Int
  c : Int
  n : Nat
  w0 : Int
  w1 : Int
  w2 : Int
  e : Int
structure Race.OK (R : Race) : Prop where
  at_ : CellAt R.N R.l0 R.c R.n
  n2 : R.n ≠ 2
  l2 : 2 < R.N
  w0 : R.l0.getD R.n 0 = R.w0
  e : R.l0.getD 2 0 = R.e
  e0 : 0 ≤ R.e ∧ R.e ≤ 255
  a1 : aftS decS R.w0 11 0 4095 = some R.w1
  a2 : aftS decS R.w1 17 0 R.e = some R.w2
  n1 : R.w1 ≠ R.w0
  n3 : R.w2 ≠ R.w0
def Race.l1 (R : Race) : List Int := R.l0.set R.n R.w1
def Race.l2 (R : Race) : List Int := R.l0.set R.n R.w2
def Race.l3 (R : Race) : List Int := (R.l0.set R.n R.w2).set 2 (R.e + 1)
structure Fresh (R : Race) (q : Rq) : Prop where
  cell : q.cell = R.c
  wd : q.word = R.w0
  f : q.f = fSwap
  sw : q.sw = false
structure Lose (R : Race) (q : Rq) : Prop where
  cell : q.cell = R.c
  wd : q.word = R.w0
  sw : q.sw = false
  f : q.f = fSwap ∨ q.f = fEnd ∧ q.dn = true
structure Win (R : Race) (q : Rq) (l : List Int) : Prop where
  cell : q.cell = R.c
  sw : q.sw = true
  ph : (q.f = fLook ∧ q.word = R.w1 ∧ l = R.l1) ∨ (q.f = fAge ∧ q.word = R.w1 ∧ q.ep = R.e ∧ l = R.l1) ∨ (q.f = fGoOn ∧ l = R.l2) ∨ (q.f = fEnd ∧ q.dn = true ∧ l = R.l3)
theorem Fresh.lose {R : Race} {q : Rq} (h : Fresh R q) : Lose R q := ⟨h.cell, h.wd, h.sw, .inl h.f⟩
theorem win_first {R : Race} (hR : R.OK) {q : Rq} (h : Fresh R q) : Win R (rstep R.N R.l0 q) (rmem R.N R.l0 q) := by
  have hn : rNext q = some R.w1 := by unfold rNext; rw [h.wd]; exact hR.a1
  obtain ⟨g1, g2⟩ := hR.at_.cas_yes hR.w0 R.w1
  have hh : rHit R.N R.l0 q = true := by unfold rHit; rw [hn, h.cell, h.wd, g1]; rfl
  rw [rstep_swap h.f, rmem_swap h.f, hh, hn, h.wd, h.cell]
  exact ⟨rfl, rfl, .inl ⟨rfl, rfl, g2⟩⟩
theorem CellAt.lt' {N : Nat} {l : List Int} {c : Int} {n : Nat} (h : CellAt N l c n) : n < l.length := by have := h.hN; have := h.lt; omega
theorem win_ne {R : Race} (hR : R.OK) {q : Rq} {l : List Int} (h : Win R q l) : CellAt R.N l R.c R.n ∧ l.getD R.n 0 ≠ R.w0 := by
  have h1 : CellAt R.N R.l1 R.c R.n ∧ R.l1.getD R.n 0 ≠ R.w0 := ⟨hR.at_.set _ _, by unfold Race.l1; rw [getD_set_eq hR.at_.lt']; exact hR.n1⟩
  have h2 : CellAt R.N R.l2 R.c R.n ∧ R.l2.getD R.n 0 ≠ R.w0 := ⟨hR.at_.set _ _, by unfold Race.l2; rw [getD_set_eq hR.at_.lt']; exact hR.n3⟩
  have h3 : CellAt R.N R.l3 R.c R.n ∧ R.l3.getD R.n 0 ≠ R.w0 := ⟨(hR.at_.set _ _).set _ _, by unfold Race.l3; rw [getD_set_ne (Ne.symm hR.n2), getD_set_eq hR.at_.lt']; exact hR.n3⟩
  rcases h.ph with ⟨_, _, rfl⟩ | ⟨_, _, _, rfl⟩ | ⟨_, rfl⟩ | ⟨_, _, rfl⟩
  · exact h1
  · exact h1
  · exact h2
  · exact h3
theorem lose_step {R : Race} {q : Rq} (h : Lose R q) {l : List Int} (hc : CellAt R.N l R.c R.n) (hl : l.getD R.n 0 ≠ R.w0) : rmem R.N l q = l ∧ Lose R (rstep R.N l q) := by
  rcases h.f with e | ⟨e, _⟩
  · have hh : rHit R.N l q = false := by
      unfold rHit
      rw [h.cell, h.wd, (hc.cas_no hl 0).1]
      cases (rNext q).isSome <;> rfl
    rw [rmem_swap e, rstep_swap e, hh, h.cell, h.wd, (hc.cas_no hl _).2]
    refine ⟨by cases (rNext q).isSome <;> rfl, h.cell, h.wd, h.sw, .inr ⟨rfl, rfl⟩⟩
  · rw [rmem_end e, rstep_end e]
    exact ⟨rfl, h.cell, h.wd, h.sw, .inr ⟨rfl, rfl⟩⟩
theorem two_at {R : Race} (hR : R.OK) {l : List Int} (h : l.length = R.l0.length) : CellAt R.N l 2 2 := ⟨rfl, by rw [h]; exact hR.at_.hN, hR.l2⟩
theorem win_step {R : Race} (hR : R.OK) {q : Rq} {l : List Int} (h : Win R q l) : Win R (rstep R.N l q) (rmem R.N l q) := by
  obtain ⟨hc, _⟩ := win_ne hR h
  rcases h.ph with ⟨e, hw, rfl⟩ | ⟨e, hw, he, rfl⟩ | ⟨e, rfl⟩ | ⟨e, _, rfl⟩
  · have h2 := (two_at hR (l := R.l1) (by unfold Race.l1; rw [List.length_set])).ld
    have h3 : R.l1.getD 2 0 = R.e := by unfold Race.l1; rw [getD_set_ne hR.n2]; exact hR.e
    rw [rstep_look e, rmem_look e, h2, h3]
    exact ⟨h.cell, h.sw, .inr (.inl ⟨rfl, hw, rfl, rfl⟩)⟩
  · have ha : rAged q = some R.w2 := by unfold rAged; rw [hw, he]; exact hR.a2
    have h1 : R.l1.getD R.n 0 = R.w1 := by unfold Race.l1; exact getD_set_eq hR.at_.lt' _
    have h2 : R.l1.set R.n R.w2 = R.l2 := by unfold Race.l1 Race.l2; rw [List.set_set]
    rw [rstep_age e, rmem_age e, ha, hw, h.cell]
    exact ⟨rfl, h.sw, .inr (.inr (.inl ⟨rfl, ((hc.cas_yes h1 R.w2).2).trans h2⟩))⟩
  · have h2 := two_at hR (l := R.l2) (by unfold Race.l2; rw [List.length_set])
    have h3 : R.l2.getD 2 0 = R.e := by unfold Race.l2; rw [getD_set_ne hR.n2]; exact hR.e
    rw [rstep_go e, rmem_go e]
    refine ⟨h.cell, h.sw, .inr (.inr (.inr ⟨rfl, rfl, ?_⟩))⟩
    unfold addS
    have := hR.e0
    rw [h2.st, h2.ld, h3, show IntKind.i64.wrap (R.e + 1) = R.e + 1 from w64_in ⟨by omega, by omega⟩]; rfl
  · rw [rstep_end e, rmem_end e]
    exact ⟨h.cell, h.sw, .inr (.inr (.inr ⟨rfl, rfl, rfl⟩))⟩
theorem win_end {R : Race} {q : Rq} {l : List Int} (h : Win R q l) (hf : q.f = fEnd) : q.dn = true ∧ l = R.l3 := by
  rcases h.ph with ⟨e, _⟩ | ⟨e, _⟩ | ⟨e, _⟩ | ⟨_, h1, h2⟩
  · rw [hf] at e; exact absurd e (by decide)
  · rw [hf] at e; exact absurd e (by decide)
  · rw [hf] at e; exact absurd e (by decide)
  · exact ⟨h1, h2⟩
theorem lose_end {R : Race} {q : Rq} (h : Lose R q) (hf : q.f = fEnd) : q.dn = true := by
  rcases h.f with e | ⟨_, h1⟩
  · rw [hf] at e; exact absurd e (by decide)
  · exact h1
end Go.Proofs.YthfoljgaiincdaaDoor
