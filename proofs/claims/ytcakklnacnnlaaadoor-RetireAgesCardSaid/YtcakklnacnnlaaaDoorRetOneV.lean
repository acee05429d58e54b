/- RetireOne: its plain law: of two that race. No condition of its own. -/
import Derived.Test.YtcakklnacnnlaaaDoorRetOneW
import Derived.Test.YtcakklnacnnlaaaDoorWords
namespace Go.Proofs.YtcakklnacnnlaaaDoor
open Go.RowKit Go.Fld Go.Sx
set_option linter.unusedVariables false
set_option linter.unusedSimpArgs false
/-! ### How far one is -/
def rk (f : Nat) : Nat := bif Nat.beq f fSwap then 0 else bif Nat.beq f fLook then 1 else bif Nat.beq f fAge then 2 else bif Nat.beq f fGoOn then 3 else 4
theorem rk_step (n : Nat) (l : List Int) {q : Rq} (h : rOK q.f = true) : min 4 (rk q.f + 1) ≤ rk (rstep n l q).f := by
  rcases rOK_cases h with e | e | e | e | e
  · rw [rstep_swap e, e]
    cases rHit n l q
    · show min 4 (rk fSwap + 1) ≤ rk fEnd; decide
    · show min 4 (rk fSwap + 1) ≤ rk fLook; decide
  · rw [rstep_look e, e]; show min 4 (rk fLook + 1) ≤ rk fAge; decide
  · rw [rstep_age e, e]; show min 4 (rk fAge + 1) ≤ rk fGoOn; decide
  · rw [rstep_go e, e]; show min 4 (rk fGoOn + 1) ≤ rk fEnd; decide
  · rw [rstep_end e, e]; show min 4 (rk fEnd + 1) ≤ rk fEnd; decide
theorem rk_end {f : Nat} (h : rOK f = true) (hk : 4 ≤ rk f) : f = fEnd := by
  rcases rOK_cases h with e | e | e | e | e
  · subst e; exact absurd hk (by decide)
  · subst e; exact absurd hk (by decide)
  · subst e; exact absurd hk (by decide)
  · subst e; exact absurd hk (by decide)
  · exact e
theorem both_rk {N : Nat} {s : R1s} (h : R1ok N s) : ∀ k, min 4 k ≤ rk (r1Both N s k).x.f ∧ min 4 k ≤ rk (r1Both N s k).y.f
  | 0 => ⟨by omega, by omega⟩
  | k + 1 => by
    obtain ⟨h1, h2⟩ := both_rk h k
    have hk := h.both k
    have g1 : min 4 (rk (r1Both N s k).x.f + 1) ≤ rk (r1Both N s (k + 1)).x.f := rk_step N (r1Both N s k).l hk.x
    have g2 : min 4 (rk (r1Both N s k).y.f + 1) ≤ rk (r1Both N s (k + 1)).y.f := rk_step N (r1X N (r1Both N s k)).l hk.y
    omega
theorem both_end {N : Nat} {s : R1s} (h : R1ok N s) : (r1Both N s 4).x.f = fEnd ∧ (r1Both N s 4).y.f = fEnd := by
  have hk := h.both 4
  have := both_rk h 4
  exact ⟨rk_end hk.x (by omega), rk_end hk.y (by omega)⟩
/-- What holds at the start, and behind each step, holds in the end. -/
theorem race_all {N : Nat} {T : Tv} {s : R1s} {P : R1s → Prop} (h0 : P s) (hx : ∀ s, P s → P (r1X N s)) (hy : ∀ s, P s → P (r1Y N s)) : P (r1Both N (r1Iter N T s T.nt) 4) := by
  have h1 : ∀ i, P (r1Iter N T s i) := fun i => by
    induction i with
    | zero => exact h0
    | succ i ih =>
      show P (r1Turn N T i (r1Iter N T s i))
      unfold r1Turn
      cases T.tb i 0
      · exact hy _ ih
      · exact hx _ ih
  have h2 : ∀ k, P (r1Both N (r1Iter N T s T.nt) k) := fun k => by
    induction k with
    | zero => exact h1 _
    | succ k ih => exact hy _ (hx _ ih)
  exact h2 4
/-! ### A cell -/
structure CellAt (N : Nat) (l : List Int) (c : Int) (n : Nat) : Prop where
  hc : c = (n : Int)
  hN : N = l.length
  lt : n < N
theorem CellAt.in_ {N : Nat} {l : List Int} {c : Int} {n : Nat} (h : CellAt N l c n) : inR N c = true := by
  unfold inR
  rw [h.hc, decide_eq_true (by omega), decide_eq_true (by have := h.lt; omega)]; rfl
theorem CellAt.ld {N : Nat} {l : List Int} {c : Int} {n : Nat} (h : CellAt N l c n) : ldS N l c = l.getD n 0 := by
  unfold ldS
  rw [if_pos h.in_, h.hc, Int.toNat_natCast]
theorem CellAt.st {N : Nat} {l : List Int} {c : Int} {n : Nat} (h : CellAt N l c n) (v : Int) : stS N l c v = l.set n v := by
  unfold stS
  rw [if_pos h.in_, h.hc, Int.toNat_natCast]
theorem CellAt.cas_yes {N : Nat} {l : List Int} {c : Int} {n : Nat} (h : CellAt N l c n) {a : Int} (ha : l.getD n 0 = a) (v : Int) : casB N l c a = true ∧ casS N l c a v = l.set n v := by
  have e : casB N l c a = true := by unfold casB; rw [h.in_, h.ld, ha, beq_self_eq_true]; rfl
  unfold casS
  rw [if_pos e, h.st]
  exact ⟨e, rfl⟩
theorem CellAt.cas_no {N : Nat} {l : List Int} {c : Int} {n : Nat} (h : CellAt N l c n) {a : Int} (ha : l.getD n 0 ≠ a) (v : Int) : casB N l c a = false ∧ casS N l c a v = l := by
  have e : casB N l c a = false := by
    unfold casB
    rw [h.in_, h.ld]
    have : (l.getD n 0 == a) = false := beq_eq_false_iff_ne.2 ha
    rw [this]; rfl
  unfold casS
  rw [if_neg (by rw [e]; simp)]
  exact ⟨e, rfl⟩
theorem CellAt.set {N : Nat} {l : List Int} {c : Int} {n : Nat} (h : CellAt N l c n) (m : Nat) (v : Int) : CellAt N (l.set m v) c n := ⟨h.hc, by rw [List.length_set]; exact h.hN, h.lt⟩
theorem getD_set_eq {l : List Int} {n : Nat} (h : n < l.length) (v : Int) : (l.set n v).getD n 0 = v := by rw [getD_set, if_pos ⟨rfl, h⟩]
theorem getD_set_ne {l : List Int} {m n : Nat} (h : m ≠ n) (v : Int) : (l.set m v).getD n 0 = l.getD n 0 := by rw [getD_set, if_neg (fun hh => h hh.1)]
/-! ### Nothing to retire -/
structure Idle0 (w0 : Int) (q : Rq) : Prop where
  wd : q.word = w0
  sw : q.sw = false
  f : q.f = fSwap ∨ q.f = fEnd ∧ q.dn = true
theorem idle_end {w0 : Int} {q : Rq} (h : Idle0 w0 q) : Idle0 w0 (rEnd q) := ⟨h.wd, h.sw, .inr ⟨rfl, rfl⟩⟩
theorem idle_step {w0 : Int} (hw : aftS decS w0 11 0 4095 = none) (N : Nat) (l : List Int) {q : Rq} (h : Idle0 w0 q) : rmem N l q = l ∧ Idle0 w0 (rstep N l q) := by
  rcases h.f with e | ⟨e, _⟩
  · have hn : rNext q = none := by unfold rNext; rw [h.wd]; exact hw
    have hh : rHit N l q = false := by unfold rHit; rw [hn]; rfl
    rw [rmem_swap e, rstep_swap e, hn, hh]
    exact ⟨rfl, idle_end h⟩
  · rw [rmem_end e, rstep_end e]
    exact ⟨rfl, idle_end h⟩
/-! ### One wins -/
structure Race where
  N : Nat
  l0 : List Int
  c : Int
  n : Nat
  w0 : Int
  w1 : Int
  w2 : Int
  e : Int
structure Race.OK (R : Race) : Prop where
  at_ : CellAt R.N R.l0 R.c R.n
  n2 : R.n ≠ 2
  l2 : 2 < R.N
  w0 : R.l0.getD R.n 0 = R.w0
  e : R.l0.getD 2 0 = R.e
  e0 : 0 ≤ R.e ∧ R.e ≤ 255
  a1 : aftS decS R.w0 11 0 4095 = some R.w1
  a2 : aftS decS R.w1 17 0 R.e = some R.w2
  n1 : R.w1 ≠ R.w0
  n3 : R.w2 ≠ R.w0
def Race.l1 (R : Race) : List Int := R.l0.set R.n R.w1
def Race.l2 (R : Race) : List Int := R.l0.set R.n R.w2
def Race.l3 (R : Race) : List Int := (R.l0.set R.n R.w2).set 2 (R.e + 1)
structure Fresh (R : Race) (q : Rq) : Prop where
  cell : q.cell = R.c
  wd : q.word = R.w0
  f : q.f = fSwap
  sw : q.sw = false
structure Lose (R : Race) (q : Rq) : Prop where
  cell : q.cell = R.c
  wd : q.word = R.w0
  sw : q.sw = false
  f : q.f = fSwap ∨ q.f = fEnd ∧ q.dn = true
structure Win (R : Race) (q : Rq) (l : List Int) : Prop where
  cell : q.cell = R.c
  sw : q.sw = true
  ph : (q.f = fLook ∧ q.word = R.w1 ∧ l = R.l1) ∨ (q.f = fAge ∧ q.word = R.w1 ∧ q.ep = R.e ∧ l = R.l1) ∨ (q.f = fGoOn ∧ l = R.l2) ∨ (q.f = fEnd ∧ q.dn = true ∧ l = R.l3)
theorem Fresh.lose {R : Race} {q : Rq} (h : Fresh R q) : Lose R q := ⟨h.cell, h.wd, h.sw, .inl h.f⟩
theorem win_first {R : Race} (hR : R.OK) {q : Rq} (h : Fresh R q) : Win R (rstep R.N R.l0 q) (rmem R.N R.l0 q) := by
  have hn : rNext q = some R.w1 := by unfold rNext; rw [h.wd]; exact hR.a1
  obtain ⟨g1, g2⟩ := hR.at_.cas_yes hR.w0 R.w1
  have hh : rHit R.N R.l0 q = true := by unfold rHit; rw [hn, h.cell, h.wd, g1]; rfl
  rw [rstep_swap h.f, rmem_swap h.f, hh, hn, h.wd, h.cell]
  exact ⟨rfl, rfl, .inl ⟨rfl, rfl, g2⟩⟩
theorem CellAt.lt' {N : Nat} {l : List Int} {c : Int} {n : Nat} (h : CellAt N l c n) : n < l.length := by have := h.hN; have := h.lt; omega
theorem win_ne {R : Race} (hR : R.OK) {q : Rq} {l : List Int} (h : Win R q l) : CellAt R.N l R.c R.n ∧ l.getD R.n 0 ≠ R.w0 := by
  have h1 : CellAt R.N R.l1 R.c R.n ∧ R.l1.getD R.n 0 ≠ R.w0 := ⟨hR.at_.set _ _, by unfold Race.l1; rw [getD_set_eq hR.at_.lt']; exact hR.n1⟩
  have h2 : CellAt R.N R.l2 R.c R.n ∧ R.l2.getD R.n 0 ≠ R.w0 := ⟨hR.at_.set _ _, by unfold Race.l2; rw [getD_set_eq hR.at_.lt']; exact hR.n3⟩
  have h3 : CellAt R.N R.l3 R.c R.n ∧ R.l3.getD R.n 0 ≠ R.w0 := ⟨(hR.at_.set _ _).set _ _, by unfold Race.l3; rw [getD_set_ne (Ne.symm hR.n2), getD_set_eq hR.at_.lt']; exact hR.n3⟩
  rcases h.ph with ⟨_, _, rfl⟩ | ⟨_, _, _, rfl⟩ | ⟨_, rfl⟩ | ⟨_, _, rfl⟩
  · exact h1
  · exact h1
  · exact h2
  · exact h3
theorem lose_step {R : Race} {q : Rq} (h : Lose R q) {l : List Int} (hc : CellAt R.N l R.c R.n) (hl : l.getD R.n 0 ≠ R.w0) : rmem R.N l q = l ∧ Lose R (rstep R.N l q) := by
  rcases h.f with e | ⟨e, _⟩
  · have hh : rHit R.N l q = false := by
      unfold rHit
      rw [h.cell, h.wd, (hc.cas_no hl 0).1]
      cases (rNext q).isSome <;> rfl
    rw [rmem_swap e, rstep_swap e, hh, h.cell, h.wd, (hc.cas_no hl _).2]
    refine ⟨by cases (rNext q).isSome <;> rfl, h.cell, h.wd, h.sw, .inr ⟨rfl, rfl⟩⟩
  · rw [rmem_end e, rstep_end e]
    exact ⟨rfl, h.cell, h.wd, h.sw, .inr ⟨rfl, rfl⟩⟩
theorem two_at {R : Race} (hR : R.OK) {l : List Int} (h : l.length = R.l0.length) : CellAt R.N l 2 2 := ⟨rfl, by rw [h]; exact hR.at_.hN, hR.l2⟩
theorem win_step {R : Race} (hR : R.OK) {q : Rq} {l : List Int} (h : Win R q l) : Win R (rstep R.N l q) (rmem R.N l q) := by
  obtain ⟨hc, _⟩ := win_ne hR h
  rcases h.ph with ⟨e, hw, rfl⟩ | ⟨e, hw, he, rfl⟩ | ⟨e, rfl⟩ | ⟨e, _, rfl⟩
  · have h2 := (two_at hR (l := R.l1) (by unfold Race.l1; rw [List.length_set])).ld
    have h3 : R.l1.getD 2 0 = R.e := by unfold Race.l1; rw [getD_set_ne hR.n2]; exact hR.e
    rw [rstep_look e, rmem_look e, h2, h3]
    exact ⟨h.cell, h.sw, .inr (.inl ⟨rfl, hw, rfl, rfl⟩)⟩
  · have ha : rAged q = some R.w2 := by unfold rAged; rw [hw, he]; exact hR.a2
    have h1 : R.l1.getD R.n 0 = R.w1 := by unfold Race.l1; exact getD_set_eq hR.at_.lt' _
    have h2 : R.l1.set R.n R.w2 = R.l2 := by unfold Race.l1 Race.l2; rw [List.set_set]
    rw [rstep_age e, rmem_age e, ha, hw, h.cell]
    exact ⟨rfl, h.sw, .inr (.inr (.inl ⟨rfl, ((hc.cas_yes h1 R.w2).2).trans h2⟩))⟩
  · have h2 := two_at hR (l := R.l2) (by unfold Race.l2; rw [List.length_set])
    have h3 : R.l2.getD 2 0 = R.e := by unfold Race.l2; rw [getD_set_ne hR.n2]; exact hR.e
    rw [rstep_go e, rmem_go e]
    refine ⟨h.cell, h.sw, .inr (.inr (.inr ⟨rfl, rfl, ?_⟩))⟩
    unfold addS
    have := hR.e0
    rw [h2.st, h2.ld, h3, show IntKind.i64.wrap (R.e + 1) = R.e + 1 from w64_in ⟨by omega, by omega⟩]; rfl
  · rw [rstep_end e, rmem_end e]
    exact ⟨h.cell, h.sw, .inr (.inr (.inr ⟨rfl, rfl, rfl⟩))⟩
def RaceInv (R : Race) (s : R1s) : Prop := (s.l = R.l0 ∧ Fresh R s.x ∧ Fresh R s.y) ∨ (Win R s.x s.l ∧ Lose R s.y) ∨ (Win R s.y s.l ∧ Lose R s.x)
theorem race_X {R : Race} (hR : R.OK) {s : R1s} (h : RaceInv R s) : RaceInv R (r1X R.N s) := by
  rcases h with ⟨hl, hx, hy⟩ | ⟨hx, hy⟩ | ⟨hy, hx⟩
  · refine .inr (.inl ⟨?_, hy.lose⟩)
    have := win_first hR hx
    rw [← hl] at this
    exact this
  · exact .inr (.inl ⟨win_step hR hx, hy⟩)
  · obtain ⟨g1, g2⟩ := win_ne hR hy
    obtain ⟨g3, g4⟩ := lose_step hx g1 g2
    refine .inr (.inr ⟨?_, g4⟩)
    show Win R s.y (rmem R.N s.l s.x)
    rw [g3]; exact hy
theorem race_Y {R : Race} (hR : R.OK) {s : R1s} (h : RaceInv R s) : RaceInv R (r1Y R.N s) := by
  rcases h with ⟨hl, hx, hy⟩ | ⟨hx, hy⟩ | ⟨hy, hx⟩
  · refine .inr (.inr ⟨?_, hx.lose⟩)
    have := win_first hR hy
    rw [← hl] at this
    exact this
  · obtain ⟨g1, g2⟩ := win_ne hR hx
    obtain ⟨g3, g4⟩ := lose_step hy g1 g2
    refine .inr (.inl ⟨?_, g4⟩)
    show Win R s.x (rmem R.N s.l s.y)
    rw [g3]; exact hx
  · exact .inr (.inr ⟨win_step hR hy, hx⟩)
theorem win_end {R : Race} {q : Rq} {l : List Int} (h : Win R q l) (hf : q.f = fEnd) : q.dn = true ∧ l = R.l3 := by
  rcases h.ph with ⟨e, _⟩ | ⟨e, _⟩ | ⟨e, _⟩ | ⟨_, h1, h2⟩
  · rw [hf] at e; exact absurd e (by decide)
  · rw [hf] at e; exact absurd e (by decide)
  · rw [hf] at e; exact absurd e (by decide)
  · exact ⟨h1, h2⟩
theorem lose_end {R : Race} {q : Rq} (h : Lose R q) (hf : q.f = fEnd) : q.dn = true := by
  rcases h.f with e | ⟨_, h1⟩
  · rw [hf] at e; exact absurd e (by decide)
  · exact h1
theorem idle_dn {w0 : Int} {q : Rq} (h : Idle0 w0 q) (hf : q.f = fEnd) : q.dn = true := by
  rcases h.f with e | ⟨_, h1⟩
  · rw [hf] at e; exact absurd e (by decide)
  · exact h1
end Go.Proofs.YtcakklnacnnlaaaDoor
