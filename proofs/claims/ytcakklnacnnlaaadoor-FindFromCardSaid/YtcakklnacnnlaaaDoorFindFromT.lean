/- FindFrom: its loops, its plain law. No condition of its own. -/
import Derived.Test.YtcakklnacnnlaaaDoorFindMade
import Derived.Test.YtcakklnacnnlaaaDoorFindPlaysX
namespace Go.Proofs.YtcakklnacnnlaaaDoor
open Go.RowKit Go.Fld Go.Sx
set_option linter.unusedVariables false
set_option linter.unusedSimpArgs false
noncomputable def frBody : Code := Tryd.f5.body.getD .skip
noncomputable def frRound1 : Code := lpB (blkAt 0 frBody)
noncomputable def frRound2 : Code := lpB (blkAt 2 frBody)
theorem fr_loop1 : blkAt 0 frBody = .loop frRound1 := by kernel_rfl
theorem fr_loop2 : blkAt 2 frBody = .loop frRound2 := by kernel_rfl
abbrev fr1V (k own fro : Int) (N : Nat) (i : Int) : List Value := [.int .i64 k, .int .i64 own, .int .i64 fro, .bool true, .pointer (some ⟨3, 0, none⟩), .slice (some ⟨4, 0, none⟩) N N, .pointer (some ⟨5, 0, none⟩), .pointer (some ⟨6, 0, none⟩), .int .i64 i]
abbrev fr1H (ns nf np : Nat) (si : Nat → Nat → Int) (sb : Nat → Nat → Bool) (fi : Nat → Nat → Int) (fb : Nat → Nat → Bool) (pi : Nat → Nat → Int) (pb : Nat → Nat → Bool) (cf : Cf) (k own : Int) (N C : Nat) (t : Int) (l lm : List Int) (q : Fq) : List Go.Sx.Blk := rowsG ns nf np si sb fi fb pi pb ++ [.cells true true (cfCells cf), .ints true true l, .cells true true [.slice (some ⟨7, 0, none⟩) N C, .int .i64 t], fdB cf k own q, .ints true true lm]
theorem fr1_tree (ns nf np : Nat) (si : Nat → Nat → Int) (sb : Nat → Nat → Bool) (fi : Nat → Nat → Int) (fb : Nat → Nat → Bool) (pi : Nat → Nat → Int) (pb : Nat → Nat → Bool) (cf : Cf) (k own fro : Int) (N C : Nat) (t : Int) (l lm : List Int) (q : Fq) (i : Int) :
    (roundV flEnv 40 noLps 103 [1, 2, 3, 9, 10, 11, 12, 13, 14] 3 frRound1 (unpack 103 [1, 2, 3, 9, 10, 11, 12, 13, 14] (fr1V k own fro N i) (fr1H ns nf np si sb fi fb pi pb cf k own N C t l lm q))).get =
    bif decide (i < 9) then bt (okM N lm) (bif !fret cf k own N lm q then (bif !(fstep cf k own N lm q).found then some (.normal, fr1V k own fro N (w64 (i + 1)), fr1H ns nf np si sb fi fb pi pb cf k own N C (ftch cf N q t) l lm (fstep cf k own N lm q)) else some (.ret, fr1V k own fro N i, fr1H ns nf np si sb fi fb pi pb cf k own N C (ftch cf N q t) l lm (fstep cf k own N lm q)))
      else some (.exit 0, fr1V k own fro N i, fr1H ns nf np si sb fi fb pi pb cf k own N C (ftch cf N q t) l lm (fstep cf k own N lm q)))
    else some (.exit 0, fr1V k own fro N i, fr1H ns nf np si sb fi fb pi pb cf k own N C t l lm q) := by kernel_rfl
abbrev fr2V (k own fro : Int) (r : Value) (S : Nat) (at_ : Int) (is : Bool) (i : Int) : List Value := [.int .i64 k, .int .i64 own, .int .i64 fro, r, .bool true, .int .i64 at_, .bool is, vecOf 3 S, .int .i64 i]
abbrev fr2H (ns nf np : Nat) (si : Nat → Nat → Int) (sb : Nat → Nat → Bool) (fi : Nat → Nat → Int) (fb : Nat → Nat → Bool) (pi : Nat → Nat → Int) (pb : Nat → Nat → Bool) (S : Nat) (D : Nat → Slt) : List Go.Sx.Blk := rowsG ns nf np si sb fi fb pi pb ++ [.rows true true 9 S (slR D)]
theorem fr2_tree (ns nf np : Nat) (si : Nat → Nat → Int) (sb : Nat → Nat → Bool) (fi : Nat → Nat → Int) (fb : Nat → Nat → Bool) (pi : Nat → Nat → Int) (pb : Nat → Nat → Bool) (k own fro : Int) (S : Nat) (D : Nat → Slt) (at_ : Int) (is : Bool) (i : Int) :
    (roundV flEnv 40 noLps 103 [1, 2, 3, 8, 9, 18, 20, 21, 22] 3 frRound2 (unpack 103 [1, 2, 3, 8, 9, 18, 20, 21, 22] (fr2V k own fro undef S at_ is i) (fr2H ns nf np si sb fi fb pi pb S D))).get =
    bif decide (i < (S : Int)) then ixR i S S (bif fitsS (D i.toNat) k own then (bif decide (i ≥ fro) then (bif is then some (.ret, fr2V k own fro (.bool (at_ == i)) S at_ is i, fr2H ns nf np si sb fi fb pi pb S D) else some (.ret, fr2V k own fro (.bool false) S at_ is i, fr2H ns nf np si sb fi fb pi pb S D))
      else some (.normal, fr2V k own fro undef S at_ is (w64 (i + 1)), fr2H ns nf np si sb fi fb pi pb S D)) else some (.normal, fr2V k own fro undef S at_ is (w64 (i + 1)), fr2H ns nf np si sb fi fb pi pb S D))
    else some (.exit 2, fr2V k own fro undef S at_ is i, fr2H ns nf np si sb fi fb pi pb S D) := by kernel_rfl
/-! ### The plain law -/
/-- The search alone: so many steps at most. -/
def frz (cf : Cf) (k own : Int) (l : List Int) : Nat → Fq → Fq
  | 0, q => q
  | m + 1, q => bif fret cf k own (cntN cf) l q then fstep cf k own (cntN cf) l q else frz cf k own l m (fstep cf k own (cntN cf) l q)
/-- What is found, where one begins. -/
structure FrZ (cf : Cf) (k own fro : Int) (l : List Int) (z : Fq) : Prop where
  yes : z.found = true → ∃ j : Nat, z.at_ = j ∧ (j : Int) < cf.s ∧ fitsS (slD cf l j) k own = true ∧ fro ≤ j ∧ ∀ i : Nat, i < j → fitsS (slD cf l i) k own = true → ¬ fro ≤ i
  no : z.found = false → ∀ i : Nat, (i : Int) < cf.s → fitsS (slD cf l i) k own = true → ¬ fro ≤ i
theorem nothing_found {cf : Cf} {k own : Int} {l : List Int} {q : Fq} (h : fret cf k own (cntN cf) l q = false) : (fstep cf k own (cntN cf) l q).found = false := by
  unfold fret at h
  unfold fstep
  cases hd : fdone cf q with
  | true => rw [hd] at h; cases h
  | false =>
    rw [hd] at h
    cases hf : fitW decS k own (fload cf (cntN cf) l q) with
    | true => rw [hf] at h; cases h
    | false => exact (fdone_false hd).1
/-- One step, nobody else at work. -/
structure FrS (cf : Cf) (k own : Int) (l : List Int) (i : Nat) (q : Fq) : Prop where
  yes : fitsS (slD cf l i) k own = true → fret cf k own (cntN cf) l q = true ∧ (fstep cf k own (cntN cf) l q).found = true ∧ (fstep cf k own (cntN cf) l q).at_ = i
  no : fitsS (slD cf l i) k own = false → fret cf k own (cntN cf) l q = decide ((i : Int) + 1 ≥ cf.s) ∧ (fstep cf k own (cntN cf) l q).found = false ∧ (fstep cf k own (cntN cf) l q).at_ = ((i + 1 : Nat) : Int)
theorem fr_step {cf : Cf} (hc : RightC cf) {l : List Int} (hI : AllI l) (hD : SlotsD cf l) (k own : Int) {i : Nat} (hi : (i : Int) < cf.s) {q : Fq} (h1 : q.at_ = i) (h2 : q.found = false) : FrS cf k own l i q := by
  obtain ⟨e1, e2, e3, e4⟩ := slotCell_in hc hi
  have hd : fdone cf q = false := by unfold fdone; rw [h2, h1, decide_eq_false (by omega)]; rfl
  have hl : fload cf (cntN cf) l q = l.getD (cellC cf i).toNat 0 := by unfold fload ldS; rw [h1, e2]; rfl
  have hx : I64i (l.getD (cellC cf i).toNat 0) := by
    have := hI.ld (cntN cf) (cellC cf i)
    unfold ldS at this
    rw [e2] at this
    exact this
  have hf : fitW decS k own (fload cf (cntN cf) l q) = fitsS (slD cf l i) k own := by
    unfold fitW slD
    rw [hl, hD i hi, decA_eq _ hx]; rfl
  have hw : w64 (q.at_ + 1) = i + 1 := by rw [h1]; exact w64_in ⟨by omega, by have := hc.s; omega⟩
  refine ⟨fun h => ?_, fun h => ?_⟩
  · rw [h] at hf
    unfold fret fstep
    rw [hd, hf]
    exact ⟨rfl, rfl, h1⟩
  · rw [h] at hf
    unfold fret fstep
    rw [hd, hf, hw]
    exact ⟨rfl, h2, by show (i : Int) + 1 = _; omega⟩
theorem frz_all {cf : Cf} (hc : RightC cf) {l : List Int} (hI : AllI l) (hD : SlotsD cf l) (k own fro : Int) : ∀ (m j : Nat) (q : Fq), cf.s ≤ (j : Int) + m → (j : Int) < cf.s → q.at_ = j → q.found = false → fro ≤ j → (∀ i : Nat, i < j → fitsS (slD cf l i) k own = true → ¬ fro ≤ i) → FrZ cf k own fro l (frz cf k own l m q)
  | 0, j, q, h, hj, _, _, _, _ => by omega
  | m + 1, j, q, h, hj, h1, h2, h3, h4 => by
    have hs := fr_step hc hI hD k own hj h1 h2
    unfold frz
    cases hf : fitsS (slD cf l j) k own with
    | true =>
      obtain ⟨g1, g2, g3⟩ := hs.yes hf
      rw [g1]
      refine ⟨fun _ => ⟨j, g3, hj, hf, h3, h4⟩, fun g => ?_⟩
      exact nf g g2
    | false =>
      obtain ⟨g1, g2, g3⟩ := hs.no hf
      have h5 : ∀ i : Nat, i < j + 1 → fitsS (slD cf l i) k own = true → ¬ fro ≤ i := fun i hi hh => by
        by_cases e : i = j
        · subst e; rw [hf] at hh; cases hh
        · exact h4 i (by omega) hh
      rw [g1]
      by_cases hl : (j : Int) + 1 ≥ cf.s
      · rw [decide_eq_true hl]
        exact ⟨fun g => nf g2 g, fun _ i hi hh => h5 i (by omega) hh⟩
      · rw [decide_eq_false hl]
        exact frz_all hc hI hD k own fro m (j + 1) _ (by omega) (by omega) g3 g2 (by omega) h5
theorem frz_start {cf : Cf} (hc : SmallC cf) {l : List Int} (hI : AllI l) (hD : SlotsD cf l) (k own fro : Int) : FrZ cf k own fro l (frz cf k own l 9 ⟨maxA fro, 0, false⟩) := by
  have hs := hc.s
  have h0 : 0 ≤ maxA fro ∧ fro ≤ maxA fro ∧ (maxA fro = fro ∨ maxA fro = 0) := by unfold maxA; split <;> omega
  by_cases h : maxA fro < cf.s
  · refine frz_all hc.right hI hD k own fro 9 (maxA fro).toNat _ (by omega) (by omega) (by show maxA fro = _; omega) rfl (by omega) fun i hi _ => ?_
    omega
  · have hd : fdone cf ⟨maxA fro, 0, false⟩ = true := by unfold fdone; rw [decide_eq_true (show maxA fro ≥ cf.s by omega)]; rfl
    have e : frz cf k own l 9 ⟨maxA fro, 0, false⟩ = ⟨maxA fro, 0, false⟩ := by unfold frz fret fstep; rw [hd]; rfl
    rw [e]
    exact ⟨fun g => nf rfl g, fun _ i hi _ => by omega⟩
theorem fr1_rounds {X : Nat → Prop} {w0 : World} (hE : EnvOK flEnv X w0) (ns nf np : Nat) (si : Nat → Nat → Int) (sb : Nat → Nat → Bool) (fi : Nat → Nat → Int) (fb : Nat → Nat → Bool) (pi : Nat → Nat → Int) (pb : Nat → Nat → Bool) (cf : Cf) (k own fro : Int) (C : Nat) (l lm : List Int) (hok : okM (cntN cf) lm = true) : ∀ (m i : Nat) (t : Int) (q : Fq), i + m = 9 →
    ∃ t' i', LoopRunsB Tryd.prog X w0 0 3 frRound1 (unpack 103 [1, 2, 3, 9, 10, 11, 12, 13, 14] (fr1V k own fro (cntN cf) i) (fr1H ns nf np si sb fi fb pi pb cf k own (cntN cf) C t l lm q)) (.exit 0) (unpack 103 [1, 2, 3, 9, 10, 11, 12, 13, 14] (fr1V k own fro (cntN cf) i') (fr1H ns nf np si sb fi fb pi pb cf k own (cntN cf) C t' l lm (frz cf k own lm m q)))
  | 0, i, t, q, hi => by
    have ht := fr1_tree ns nf np si sb fi fb pi pb cf k own fro (cntN cf) C t l lm q i
    rw [decide_eq_false (by omega)] at ht
    exact ⟨_, _, LoopRunsB.exit (round_runs hE (noLps_ok _) ht (Nat.zero_le _) (show 3 ≤ 8 by decide)) (by simp)⟩
  | m + 1, i, t, q, hi => by
    have ht := fr1_tree ns nf np si sb fi fb pi pb cf k own fro (cntN cf) C t l lm q i
    rw [decide_eq_true (by omega), bt_of hok] at ht
    unfold frz
    cases hr : fret cf k own (cntN cf) lm q with
    | true =>
      rw [hr] at ht
      exact ⟨_, _, LoopRunsB.exit (round_runs hE (noLps_ok _) ht (Nat.zero_le _) (show 3 ≤ 8 by decide)) (by simp)⟩
    | false =>
      rw [hr, nothing_found hr, w64_succ (by omega)] at ht
      obtain ⟨t', i', h⟩ := fr1_rounds hE ns nf np si sb fi fb pi pb cf k own fro C l lm hok m (i + 1) _ _ (by omega)
      exact ⟨t', i', LoopRunsB.step (round_runs hE (noLps_ok _) ht (Nat.zero_le _) (show 3 ≤ 8 by decide)) h⟩
structure FrP where
  ns : Nat
  nf : Nat
  np : Nat
  R0 : Go.Sx.Rows
  R1 : Go.Sx.Rows
  R2 : Go.Sx.Rows
  cf : Cf
  k : Int
  own : Int
  fro : Int
  C : Nat
  t : Int
  l : List Int
  q : Fq
def frParse (vals : List Value) (lh : List Go.Sx.Blk) : FrP :=
  ⟨rowsN2 lh 0, rowsN2 lh 1, rowsN2 lh 2, rows2 lh 0, rows2 lh 1, rows2 lh 2, ⟨int2 lh 6 0, int2 lh 6 1, int2 lh 6 2, int2 lh 6 3, int2 lh 6 4⟩, int2 lh 6 5, int2 lh 6 6, intVal (vals.getD 2 undef), sliceCap (at2 lh 5 0), int2 lh 5 1, ints2 lh 4, ⟨int2 lh 6 7, int2 lh 6 8, boolVal (at2 lh 6 9)⟩⟩
def FrP.V (p : FrP) : List Value := fr1V p.k p.own p.fro (cntN p.cf) 0
def FrP.H (p : FrP) : List Go.Sx.Blk := fr1H p.ns p.nf p.np p.R0.gi p.R0.gb p.R1.gi p.R1.gb p.R2.gi p.R2.gb p.cf p.k p.own (cntN p.cf) p.C p.t p.l p.l p.q
def FrP.OK (p : FrP) : Prop := okM (cntN p.cf) p.l = true
abbrev fr1Z (k own fro : Int) (N : Nat) : List Value := [.int .i64 k, .int .i64 own, .int .i64 fro, .bool true, .pointer (some ⟨3, 0, none⟩), .slice (some ⟨4, 0, none⟩) N N, .pointer (some ⟨5, 0, none⟩)]
abbrev fr1ZH (ns nf np : Nat) (si : Nat → Nat → Int) (sb : Nat → Nat → Bool) (fi : Nat → Nat → Int) (fb : Nat → Nat → Bool) (pi : Nat → Nat → Int) (pb : Nat → Nat → Bool) (cf : Cf) (k own : Int) (l : List Int) (q : Fq) : List Go.Sx.Blk := rowsG ns nf np si sb fi fb pi pb ++ [.cells true true (cfCells cf), .ints true true l, fdB cf k own q]
def FrP.z (p : FrP) : Fq := frz p.cf p.k p.own p.l 9 p.q
def FrP.out (p : FrP) : Exit × List Value × List Go.Sx.Blk := (.normal, fr1Z p.k p.own p.fro (cntN p.cf), fr1ZH p.ns p.nf p.np p.R0.gi p.R0.gb p.R1.gi p.R1.gb p.R2.gi p.R2.gb p.cf p.k p.own p.l p.z)
noncomputable def frF : List Value → List Go.Sx.Blk → M (Exit × List Value × List Go.Sx.Blk) := specL frParse FrP.V FrP.H FrP.OK FrP.out
theorem fr1_norm (ns nf np : Nat) (si : Nat → Nat → Int) (sb : Nat → Nat → Bool) (fi : Nat → Nat → Int) (fb : Nat → Nat → Bool) (pi : Nat → Nat → Int) (pb : Nat → Nat → Bool) (cf : Cf) (k own fro : Int) (N C : Nat) (t : Int) (l lm : List Int) (q : Fq) (i : Int) :
    (normV 103 [1, 2, 3, 9, 10, 11, 13] 3 (unpack 103 [1, 2, 3, 9, 10, 11, 12, 13, 14] (fr1V k own fro N i) (fr1H ns nf np si sb fi fb pi pb cf k own N C t l lm q))).get = some (fr1Z k own fro N, fr1ZH ns nf np si sb fi fb pi pb cf k own l q) := by kernel_rfl
theorem fr1_lp : LpSound Tryd.prog Tab 5 0 (loopV 103 [1, 2, 3, 9, 10, 11, 12, 13, 14] [1, 2, 3, 9, 10, 11, 13] frF 3) := by
  refine LpSound.of_spec (c := frBody) Tryd.func5 (by kernel_rfl) (by kernel_rfl) fun X W0 h0 hB hT p hok => ?_
  obtain ⟨t', i', h3⟩ := fr1_rounds (flEnv_ok X W0 h0 hB hT) p.ns p.nf p.np p.R0.gi p.R0.gb p.R1.gi p.R1.gb p.R2.gi p.R2.gb p.cf p.k p.own p.fro p.C p.l p.l hok 9 0 p.t p.q (Nat.zero_add _)
  rw [fr_loop1]
  exact h3.runs.block_exit.norm (fr1_norm p.ns p.nf p.np p.R0.gi p.R0.gb p.R1.gi p.R1.gb p.R2.gi p.R2.gb p.cf p.k p.own p.fro _ p.C _ _ _ _ _) (Nat.zero_le _)
/-! ### The second loop -/
structure FrQ where
  ns : Nat
  nf : Nat
  np : Nat
  R0 : Go.Sx.Rows
  R1 : Go.Sx.Rows
  R2 : Go.Sx.Rows
  k : Int
  own : Int
  fro : Int
  S : Nat
  D : Nat → Slt
  at_ : Int
  is : Bool
def frParse2 (vals : List Value) (lh : List Go.Sx.Blk) : FrQ :=
  ⟨rowsN2 lh 0, rowsN2 lh 1, rowsN2 lh 2, rows2 lh 0, rows2 lh 1, rows2 lh 2, intVal (vals.getD 0 undef), intVal (vals.getD 1 undef), intVal (vals.getD 2 undef), rowsN2 lh 3, slotR (rows2 lh 3).gi (rows2 lh 3).gb, intVal (vals.getD 5 undef), boolVal (vals.getD 6 undef)⟩
def FrQ.V (p : FrQ) : List Value := fr2V p.k p.own p.fro undef p.S p.at_ p.is 0
def FrQ.A (p : FrQ) : List Go.Sx.Blk := rowsG p.ns p.nf p.np p.R0.gi p.R0.gb p.R1.gi p.R1.gb p.R2.gi p.R2.gb
def FrQ.H (p : FrQ) : List Go.Sx.Blk := fr2H p.ns p.nf p.np p.R0.gi p.R0.gb p.R1.gi p.R1.gb p.R2.gi p.R2.gb p.S p.D
structure FrQ.OK (p : FrQ) : Prop where
  S : p.S ≤ 16
  yes : p.is = true → ∃ j : Nat, p.at_ = j ∧ j < p.S ∧ fitsS (p.D j) p.k p.own = true ∧ p.fro ≤ j ∧ ∀ i : Nat, i < j → fitsS (p.D i) p.k p.own = true → ¬ p.fro ≤ i
  no : p.is = false → ∀ i : Nat, i < p.S → fitsS (p.D i) p.k p.own = true → ¬ p.fro ≤ i
def FrQ.out (p : FrQ) : Exit × List Value × List Go.Sx.Blk := bif p.is then (.ret, [.bool true, .bool true, .bool p.is], p.A) else (.normal, [undef, .bool true, .bool p.is], p.A)
noncomputable def frF2 : List Value → List Go.Sx.Blk → M (Exit × List Value × List Go.Sx.Blk) := fun vals lh =>
  .br (sure (vals = (frParse2 vals lh).V ∧ lh = (frParse2 vals lh).H ∧ (frParse2 vals lh).OK)) (.br (frParse2 vals lh).is (.ret (.ret, [.bool true, .bool true, .bool (frParse2 vals lh).is], (frParse2 vals lh).A)) (.ret (.normal, [undef, .bool true, .bool (frParse2 vals lh).is], (frParse2 vals lh).A))) .bad
theorem fr2_rounds {X : Nat → Prop} {w0 : World} (hE : EnvOK flEnv X w0) (p : FrQ) (h : p.OK) : ∀ (m i : Nat), i + m = p.S → (∀ j : Nat, j < i → ¬ (fitsS (p.D j) p.k p.own = true ∧ p.fro ≤ j)) →
    ∃ i', (p.is = true ∧ LoopRunsB Tryd.prog X w0 0 3 frRound2 (unpack 103 [1, 2, 3, 8, 9, 18, 20, 21, 22] (fr2V p.k p.own p.fro undef p.S p.at_ p.is i) p.H) .ret (unpack 103 [1, 2, 3, 8, 9, 18, 20, 21, 22] (fr2V p.k p.own p.fro (.bool true) p.S p.at_ p.is i') p.H)) ∨
      (p.is = false ∧ LoopRunsB Tryd.prog X w0 0 3 frRound2 (unpack 103 [1, 2, 3, 8, 9, 18, 20, 21, 22] (fr2V p.k p.own p.fro undef p.S p.at_ p.is i) p.H) (.exit 2) (unpack 103 [1, 2, 3, 8, 9, 18, 20, 21, 22] (fr2V p.k p.own p.fro undef p.S p.at_ p.is i') p.H))
  | 0, i, hi, hj => by
    have ht := fr2_tree p.ns p.nf p.np p.R0.gi p.R0.gb p.R1.gi p.R1.gb p.R2.gi p.R2.gb p.k p.own p.fro p.S p.D p.at_ p.is i
    rw [decide_eq_false (by omega)] at ht
    cases hs : p.is with
    | true =>
      obtain ⟨j, e1, e2, e3, e4, e5⟩ := h.yes hs
      exact absurd ⟨e3, e4⟩ (hj j (by omega))
    | false =>
      rw [hs] at ht
      exact ⟨_, .inr ⟨rfl, LoopRunsB.exit (round_runs hE (noLps_ok _) ht (Nat.zero_le _) (show 3 ≤ 4 by decide)) (by simp)⟩⟩
  | m + 1, i, hi, hj => by
    have ht := fr2_tree p.ns p.nf p.np p.R0.gi p.R0.gb p.R1.gi p.R1.gb p.R2.gi p.R2.gb p.k p.own p.fro p.S p.D p.at_ p.is i
    have hS := h.S
    rw [decide_eq_true (by omega), ixR_in rfl (by omega), Int.toNat_natCast, w64_succ (by omega)] at ht
    by_cases hh : fitsS (p.D i) p.k p.own = true ∧ p.fro ≤ i
    · rw [hh.1, decide_eq_true (show (i : Int) ≥ p.fro from hh.2)] at ht
      cases hs : p.is with
      | true =>
        obtain ⟨j, e1, e2, e3, e4, e5⟩ := h.yes hs
        have hij : i = j := by
          rcases Nat.lt_trichotomy i j with g | g | g
          · exact absurd hh.2 (e5 i g hh.1)
          · exact g
          · exact absurd ⟨e3, e4⟩ (hj j g)
        subst hij
        rw [hs, e1, beq_self_eq_true] at ht
        rw [e1]
        exact ⟨_, .inl ⟨rfl, LoopRunsB.exit (round_runs hE (noLps_ok _) ht (Nat.zero_le _) (show 3 ≤ 4 by decide)) (by simp)⟩⟩
      | false => exact absurd hh.2 (h.no hs i (by omega) hh.1)
    · have ht2 : (roundV flEnv 40 noLps 103 [1, 2, 3, 8, 9, 18, 20, 21, 22] 3 frRound2 (unpack 103 [1, 2, 3, 8, 9, 18, 20, 21, 22] (fr2V p.k p.own p.fro undef p.S p.at_ p.is i) p.H)).get = some (.normal, fr2V p.k p.own p.fro undef p.S p.at_ p.is ((i + 1 : Nat) : Int), p.H) := by
        refine ht.trans ?_
        cases hf : fitsS (p.D i) p.k p.own with
        | false => rfl
        | true => rw [decide_eq_false (show ¬ (i : Int) ≥ p.fro from fun g => hh ⟨hf, g⟩)]; rfl
      obtain ⟨i', h2⟩ := fr2_rounds hE p h m (i + 1) (by omega) fun j hj2 => by
        by_cases e : j = i
        · subst e; exact hh
        · exact hj j (by omega)
      have hr := round_runs hE (noLps_ok _) ht2 (Nat.zero_le _) (show 3 ≤ 4 by decide)
      exact ⟨i', h2.imp (fun g => ⟨g.1, LoopRunsB.step hr g.2⟩) fun g => ⟨g.1, LoopRunsB.step hr g.2⟩⟩
theorem fr2_norm (ns nf np : Nat) (si : Nat → Nat → Int) (sb : Nat → Nat → Bool) (fi : Nat → Nat → Int) (fb : Nat → Nat → Bool) (pi : Nat → Nat → Int) (pb : Nat → Nat → Bool) (k own fro : Int) (r : Value) (hr : r = undef ∨ r = .bool true) (S : Nat) (D : Nat → Slt) (at_ : Int) (is : Bool) (i : Int) :
    (normV 103 [8, 9, 20] 3 (unpack 103 [1, 2, 3, 8, 9, 18, 20, 21, 22] (fr2V k own fro r S at_ is i) (fr2H ns nf np si sb fi fb pi pb S D))).get = some ([r, .bool true, .bool is], rowsG ns nf np si sb fi fb pi pb) := by
  rcases hr with rfl | rfl <;> kernel_rfl
theorem fr2_lp : LpSound Tryd.prog Tab 5 2 (loopV 103 [1, 2, 3, 8, 9, 18, 20, 21, 22] [8, 9, 20] frF2 3) := by
  refine LpSound.of_loop (c := frBody) Tryd.func5 (by kernel_rfl) (by kernel_rfl) fun X W0 h0 hB hT vals lh e vals' lh' hF _ => ?_
  rcases M.get_br_some hF with ⟨hc, hF2⟩ | ⟨_, hF2⟩
  · obtain ⟨e1, e2, e3⟩ := sure_iff.1 hc
    obtain ⟨i', h⟩ := fr2_rounds (flEnv_ok X W0 h0 hB hT) (frParse2 vals lh) e3 (frParse2 vals lh).S 0 (Nat.zero_add _) fun j hj => by omega
    rw [fr_loop2, e1, e2]
    rcases h with ⟨hs, h⟩ | ⟨hs, h⟩
    · rcases M.get_br_some hF2 with ⟨_, hF3⟩ | ⟨hn, _⟩
      · simp only [M.get_ret, Option.some.injEq, Prod.mk.injEq] at hF3
        obtain ⟨rfl, rfl, rfl⟩ := hF3
        exact (h.runs.block_out (by simp)).norm (fr2_norm _ _ _ _ _ _ _ _ _ _ _ _ _ (.inr rfl) _ _ _ _ _) (Nat.zero_le _)
      · rw [hs] at hn; cases hn
    · rcases M.get_br_some hF2 with ⟨hn, _⟩ | ⟨_, hF3⟩
      · rw [hs] at hn; cases hn
      · simp only [M.get_ret, Option.some.injEq, Prod.mk.injEq] at hF3
        obtain ⟨rfl, rfl, rfl⟩ := hF3
        exact h.runs.block_exit.norm (fr2_norm _ _ _ _ _ _ _ _ _ _ _ _ _ (.inl rfl) _ _ _ _ _) (Nat.zero_le _)
  · cases hF2
noncomputable def frEnv : Env := mkEnv Tryd.prog flFns [slotEq] fl1 [(5, 0, loopV 103 [1, 2, 3, 9, 10, 11, 12, 13, 14] [1, 2, 3, 9, 10, 11, 13] frF 3), (5, 2, loopV 103 [1, 2, 3, 8, 9, 18, 20, 21, 22] [8, 9, 20] frF2 3)]
theorem frEnv_ok (X : Nat → Prop) (w0 : World) (h0 : X 0) (hB : Bnd X w0) (hT : Tab w0) : EnvOK frEnv X w0 := mkEnv_ok slotEq_ok (by kernel_rfl) flFns_ok fl1_ok (lpSounds_cons fr1_lp <| lpSounds_cons fr2_lp lpSounds_nil) h0 hB hT
end Go.Proofs.YtcakklnacnnlaaaDoor
