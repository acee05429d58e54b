/- FindPlays: its plain law, its contract. No condition of its own. -/
import Derived.Test.YtcakklnacnnlaaaDoorFindPlaysT
namespace Go.Proofs.YtcakklnacnnlaaaDoor
open Go.RowKit Go.Fld Go.Sx
set_option linter.unusedVariables false
set_option linter.unusedSimpArgs false
/-- The program's search and the document's tell one. -/
structure FpInv (cf : Cf) (N : Nat) (l : List Int) (q h : Fq) : Prop where
  ok : okM N l = true
  I : AllI l
  at_ : q.at_ = h.at_
  fo : q.found = h.found
  wd : q.found = true → q.word = h.word
  nn : 0 ≤ q.at_
  lt : q.found = true → q.at_ < cf.s
theorem nf {b : Bool} {P : Prop} (h : b = false) (hh : b = true) : P := by rw [h] at hh; cases hh
theorem fdone_eq {cf : Cf} {N : Nat} {l : List Int} {q h : Fq} (H : FpInv cf N l q h) : fdone cf q = fdone cf h := by
  unfold fdone; rw [H.at_, H.fo]
theorem fload_eq {cf : Cf} {N : Nat} {l : List Int} {q h : Fq} (H : FpInv cf N l q h) : fload cf N l q = fload cf N l h := by
  unfold fload; rw [H.at_]
theorem fit_eq {cf : Cf} {N : Nat} {l : List Int} (hI : AllI l) (q : Fq) (k own : Int) : fitW decA k own (fload cf N l q) = fitW decS k own (fload cf N l q) := by
  unfold fitW fload
  rw [decA_eq _ (hI.ld N (cellC cf q.at_))]
theorem fdone_false {cf : Cf} {q : Fq} (h : fdone cf q = false) : q.found = false ∧ q.at_ < cf.s := by
  unfold fdone at h
  cases hf : q.found with
  | true => rw [hf] at h; cases h
  | false => rw [hf] at h; simp at h; exact ⟨rfl, by omega⟩
theorem fstep_inv {cf : Cf} (hc : RightC cf) {N : Nat} {l : List Int} {q h : Fq} (H : FpInv cf N l q h) (k own : Int) :
    fret cf k own N l q = fretQ cf k own N l h ∧ FpInv cf N l (fstep cf k own N l q) (fstepQ cf k own N l h) := by
  have e1 := fdone_eq H
  have e2 := fload_eq H
  have e3 := fit_eq H.I h k own (cf := cf) (N := N)
  have hs := hc.s
  cases hd : fdone cf q with
  | true =>
    rw [hd] at e1
    refine ⟨by unfold fret fretQ; rw [hd, ← e1]; rfl, ?_⟩
    unfold fstep fstepQ
    rw [hd, ← e1]
    exact H
  | false =>
    have hd' := hd
    rw [hd] at e1
    obtain ⟨g1, g2⟩ := fdone_false hd'
    have hw : w64 (q.at_ + 1) = q.at_ + 1 := w64_in ⟨by have := H.nn; omega, by omega⟩
    have hw' : w64 (h.at_ + 1) = q.at_ + 1 := by rw [← H.at_]; exact hw
    cases hf : fitW decS k own (fload cf N l q) with
    | true =>
      have hf' : fitW decA k own (fload cf N l h) = true := by rw [e3, ← e2]; exact hf
      refine ⟨by unfold fret fretQ; rw [hd, ← e1, hf, hf']; rfl, ?_⟩
      unfold fstep fstepQ
      rw [hd, ← e1, hf, hf']
      exact ⟨H.ok, H.I, H.at_, rfl, fun _ => e2, H.nn, fun _ => g2⟩
    | false =>
      have hf' : fitW decA k own (fload cf N l h) = false := by rw [e3, ← e2]; exact hf
      refine ⟨?_, ?_⟩
      · unfold fret fretQ
        rw [hd, ← e1, hf, hf', hw, hw']
        simp only [cond_false]
        rw [Bool.eq_iff_iff]
        simp; omega
      · unfold fstep fstepQ
        rw [hd, ← e1, hf, hf']
        exact ⟨H.ok, H.I, by show w64 (q.at_ + 1) = w64 (h.at_ + 1); rw [hw, hw'], by show q.found = false; exact g1, nf g1, by show 0 ≤ w64 (q.at_ + 1); rw [hw]; have := H.nn; omega, nf g1⟩
theorem fagain_inv {cf : Cf} {N : Nat} {l : List Int} {q h : Fq} (H : FpInv cf N l q h) : FpInv cf N l (fagain q) (fagain h) :=
  ⟨H.ok, H.I, H.at_, rfl, nf rfl, H.nn, nf rfl⟩
theorem fgo_inv {cf : Cf} (hc : RightC cf) {N : Nat} {l : List Int} {q h : Fq} (H : FpInv cf N l q h) : FpInv cf N l (fgo q) (fgoQ h) := by
  have hs := hc.s
  unfold fgo fgoQ
  rw [← H.fo]
  cases hf : q.found with
  | true =>
    have hl := H.lt hf
    have hw : w64 (q.at_ + 1) = q.at_ + 1 := w64_in ⟨by have := H.nn; omega, by omega⟩
    exact ⟨H.ok, H.I, by show w64 (q.at_ + 1) = w64 (h.at_ + 1); rw [H.at_], rfl, nf rfl, by show 0 ≤ w64 (q.at_ + 1); rw [hw]; have := H.nn; omega, nf rfl⟩
  | false => exact ⟨H.ok, H.I, H.at_, hf, nf hf, H.nn, nf hf⟩
theorem ftch_eq {cf : Cf} {N : Nat} {l : List Int} {q h : Fq} (H : FpInv cf N l q h) (t u : Int) : w64 (ftch cf N q t - t) = w64 (ftch cf N h u - u) := by
  have e1 := fdone_eq H
  have e2 := H.at_
  unfold ftch tcS
  rw [← e1, ← e2]
  cases fdone cf q with
  | true => simp only [cond_true]; rw [Int.sub_self, Int.sub_self]
  | false =>
    simp only [cond_false]
    split
    · obtain ⟨a, ha⟩ := w64_mod (t + 1)
      obtain ⟨b, hb⟩ := w64_mod (u + 1)
      exact w64_congr (q := a - b) (by show w64 (t + 1) - t = w64 (u + 1) - u + _; omega)
    · rw [Int.sub_self, Int.sub_self]
structure Fs where
  l : List Int
  tp : Int
  tr : Int
  q : Fq
  h : Fq
def fTurn (m : Int) (F : Fq → Fq) (q : Fq) : Fq := bif m == 1 then fagain q else bif m == 2 then F q else q
def fpNext (cf : Cf) (k own : Int) (N nl : Nat) (gi ti : Nat → Nat → Int) (i : Nat) (s : Fs) : Fs :=
  ⟨wrsL N gi i nl s.l, ftch cf N s.q (wrsT N gi i nl s.tp), ftch cf N s.h s.tr, fTurn ((ti i 0).tmod 3) fgo (fstep cf k own N (wrsL N gi i nl s.l) s.q), fTurn ((ti i 0).tmod 3) fgoQ (fstepQ cf k own N (wrsL N gi i nl s.l) s.h)⟩
def fpIter (cf : Cf) (k own : Int) (N nl : Nat) (gi ti : Nat → Nat → Int) (s : Fs) : Nat → Fs
  | 0 => s
  | i + 1 => fpNext cf k own N nl gi ti i (fpIter cf k own N nl gi ti s i)
theorem FpInv.wrs {cf : Cf} {N : Nat} {l : List Int} {q h : Fq} (H : FpInv cf N l q h) {gi : Nat → Nat → Int} {nl : Nat} (hw : WrI gi nl) (i : Int) : FpInv cf N (wrsL N gi i nl l) q h :=
  ⟨by rw [okM_wrs]; exact H.ok, H.I.wrs N gi i nl hw, H.at_, H.fo, H.wd, H.nn, H.lt⟩
theorem fpNext_inv {cf : Cf} (hc : RightC cf) {k own : Int} {N nl : Nat} {gi ti : Nat → Nat → Int} (hw : WrI gi nl) {s : Fs} (i : Nat) (H : FpInv cf N s.l s.q s.h) :
    FpInv cf N (fpNext cf k own N nl gi ti i s).l (fpNext cf k own N nl gi ti i s).q (fpNext cf k own N nl gi ti i s).h := by
  have H1 := (fstep_inv hc (H.wrs hw i) k own).2
  unfold fpNext fTurn
  simp only
  cases (ti i 0).tmod 3 == 1 with
  | true => exact fagain_inv H1
  | false =>
    cases (ti i 0).tmod 3 == 2 with
    | true => exact fgo_inv hc H1
    | false => exact H1
theorem fp_round (ns nf np nl nt : Nat) (si : Nat → Nat → Int) (sb : Nat → Nat → Bool) (fi : Nat → Nat → Int) (fb : Nat → Nat → Bool) (pi : Nat → Nat → Int) (pb : Nat → Nat → Bool) (gi : Nat → Nat → Int) (gb : Nat → Nat → Bool) (ti : Nat → Nat → Int) (tb : Nat → Nat → Bool) (cl ct : Nat) {cf : Cf} (hc : RightC cf) (k own : Int) (N C : Nat) (s : Fs) (i : Nat) (hi : i < nt) (hn : nt ≤ 40) (hl : nl ≤ 20) (hw : WrI gi nl) (H : FpInv cf N s.l s.q s.h) :
    (roundV flEnv 40 noLps 177 [4, 5, 13, 17, 18, 19, 20, 21] 5 fpRound (unpack 177 [4, 5, 13, 17, 18, 19, 20, 21] (fpV nl cl nt ct i) (fpH ns nf np nl nt si sb fi fb pi pb gi gb ti tb cf k own N C s.tp s.tr s.l s.l s.q s.h))).get =
    some (.normal, fpV nl cl nt ct ((i + 1 : Nat) : Int), fpH ns nf np nl nt si sb fi fb pi pb gi gb ti tb cf k own N C (fpNext cf k own N nl gi ti i s).tp (fpNext cf k own N nl gi ti i s).tr (fpNext cf k own N nl gi ti i s).l (fpNext cf k own N nl gi ti i s).l (fpNext cf k own N nl gi ti i s).q (fpNext cf k own N nl gi ti i s).h) := by
  rw [fp_tree]
  have H0 := H.wrs hw i
  obtain ⟨e1, H1⟩ := fstep_inv hc H0 k own
  have hN := (okM_iff.1 H.ok).2.1
  have hs : smallN nl = true := Nat.ble_eq_true_of_le (by omega)
  have e2 := ftch_eq H (wrsT N gi i nl s.tp) s.tr
  rw [decide_eq_true (by omega : (i : Int) < (nt : Int)), bt_of (by rw [H.ok, Nat.beq_refl, hs]; rfl), bt_of (by rw [H.ok, Nat.beq_refl, hs, wrOK_of hN hw]; rfl), bt_of (by rw [okM_wrs]; exact H.ok), bt_of (by rw [okM_wrs]; exact H.ok),
    e1, beq_self_eq_true, e2, bne_self_eq_false, ixR_in rfl hi, w64_succ (by omega), Int.toNat_natCast]
  unfold fpNext fTurn
  simp only
  rw [← H1.fo]
  cases hf : (fstep cf k own N (wrsL N gi i nl s.l) s.q).found with
  | true =>
    rw [← H1.at_, ← H1.wd hf, bne_self_eq_false, bne_self_eq_false]
    cases (ti i 0).tmod 3 == 1 with
    | true => rfl
    | false => cases (ti i 0).tmod 3 == 2 <;> rfl
  | false =>
    cases (ti i 0).tmod 3 == 1 with
    | true => rfl
    | false => cases (ti i 0).tmod 3 == 2 <;> rfl
theorem fp_rounds {X : Nat → Prop} {w0 : World} (hE : EnvOK flEnv X w0) (ns nf np nl nt : Nat) (si : Nat → Nat → Int) (sb : Nat → Nat → Bool) (fi : Nat → Nat → Int) (fb : Nat → Nat → Bool) (pi : Nat → Nat → Int) (pb : Nat → Nat → Bool) (gi : Nat → Nat → Int) (gb : Nat → Nat → Bool) (ti : Nat → Nat → Int) (tb : Nat → Nat → Bool) (cl ct : Nat) {cf : Cf} (hc : RightC cf) (k own : Int) (N C : Nat) (s : Fs) (hn : nt ≤ 40) (hl : nl ≤ 20) (hw : WrI gi nl) : ∀ (m i : Nat), i + m = nt → FpInv cf N (fpIter cf k own N nl gi ti s i).l (fpIter cf k own N nl gi ti s i).q (fpIter cf k own N nl gi ti s i).h →
    ∃ z : Fs, FpInv cf N z.l z.q z.h ∧ z = fpIter cf k own N nl gi ti s nt ∧ LoopRunsB Tryd.prog X w0 0 5 fpRound (unpack 177 [4, 5, 13, 17, 18, 19, 20, 21] (fpV nl cl nt ct i) (fpH ns nf np nl nt si sb fi fb pi pb gi gb ti tb cf k own N C (fpIter cf k own N nl gi ti s i).tp (fpIter cf k own N nl gi ti s i).tr (fpIter cf k own N nl gi ti s i).l (fpIter cf k own N nl gi ti s i).l (fpIter cf k own N nl gi ti s i).q (fpIter cf k own N nl gi ti s i).h)) (.exit 0)
      (unpack 177 [4, 5, 13, 17, 18, 19, 20, 21] (fpV nl cl nt ct nt) (fpH ns nf np nl nt si sb fi fb pi pb gi gb ti tb cf k own N C z.tp z.tr z.l z.l z.q z.h))
  | 0, i, hi, H => by
    obtain rfl : i = nt := by omega
    refine ⟨_, H, rfl, ?_⟩
    have ht := fp_tree ns nf np nl i si sb fi fb pi pb gi gb ti tb cl ct cf k own N C (fpIter cf k own N nl gi ti s i).tp (fpIter cf k own N nl gi ti s i).tr (fpIter cf k own N nl gi ti s i).l (fpIter cf k own N nl gi ti s i).l (fpIter cf k own N nl gi ti s i).q (fpIter cf k own N nl gi ti s i).h i
    rw [decide_eq_false (by omega)] at ht
    exact LoopRunsB.exit (round_runs hE (noLps_ok _) ht (Nat.zero_le _) (show 5 ≤ 11 by decide)) (by simp)
  | m + 1, i, hi, H => by
    have ht := fp_round ns nf np nl nt si sb fi fb pi pb gi gb ti tb cl ct hc k own N C (fpIter cf k own N nl gi ti s i) i (by omega) hn hl hw H
    obtain ⟨z, h1, h2, h3⟩ := fp_rounds hE ns nf np nl nt si sb fi fb pi pb gi gb ti tb cl ct hc k own N C s hn hl hw m (i + 1) (by omega) (fpNext_inv hc hw i H)
    exact ⟨z, h1, h2, LoopRunsB.step (round_runs hE (noLps_ok _) ht (Nat.zero_le _) (show 5 ≤ 11 by decide)) h3⟩
/-! ### The whole -/
structure FpP where
  ns : Nat
  nf : Nat
  np : Nat
  nl : Nat
  nt : Nat
  cl : Nat
  ct : Nat
  R0 : Go.Sx.Rows
  R1 : Go.Sx.Rows
  R2 : Go.Sx.Rows
  R3 : Go.Sx.Rows
  R4 : Go.Sx.Rows
  cf : Cf
  k : Int
  own : Int
  N : Nat
  C : Nat
  s : Fs
def fpParse (vals : List Value) (lh : List Go.Sx.Blk) : FpP :=
  ⟨rowsN2 lh 0, rowsN2 lh 1, rowsN2 lh 2, rowsN2 lh 3, rowsN2 lh 4, sliceCap (vals.getD 0 undef), sliceCap (vals.getD 1 undef), rows2 lh 0, rows2 lh 1, rows2 lh 2, rows2 lh 3, rows2 lh 4,
    ⟨int2 lh 6 0, int2 lh 6 1, int2 lh 6 2, int2 lh 6 3, int2 lh 6 4⟩, int2 lh 6 5, int2 lh 6 6, sliceLen (at2 lh 5 0), sliceCap (at2 lh 5 0),
    ⟨ints2 lh 9, int2 lh 5 1, int2 lh 7 1, ⟨int2 lh 6 7, int2 lh 6 8, boolVal (at2 lh 6 9)⟩, ⟨int2 lh 8 7, int2 lh 8 8, boolVal (at2 lh 8 9)⟩⟩⟩
def FpP.A (p : FpP) : List Go.Sx.Blk := fpA p.ns p.nf p.np p.nl p.nt p.R0.gi p.R0.gb p.R1.gi p.R1.gb p.R2.gi p.R2.gb p.R3.gi p.R3.gb p.R4.gi p.R4.gb
def FpP.V (p : FpP) : List Value := fpV p.nl p.cl p.nt p.ct 0
def FpP.H (p : FpP) : List Go.Sx.Blk := fpH p.ns p.nf p.np p.nl p.nt p.R0.gi p.R0.gb p.R1.gi p.R1.gb p.R2.gi p.R2.gb p.R3.gi p.R3.gb p.R4.gi p.R4.gb p.cf p.k p.own p.N p.C p.s.tp p.s.tr p.s.l p.s.l p.s.q p.s.h
def FpP.OK (p : FpP) : Prop := RightC p.cf ∧ p.nt ≤ 40 ∧ p.nl ≤ 20 ∧ WrI p.R3.gi p.nl ∧ FpInv p.cf p.N p.s.l p.s.q p.s.h
def FpP.z (p : FpP) : Fs := fpIter p.cf p.k p.own p.N p.nl p.R3.gi p.R4.gi p.s p.nt
abbrev fpZ (N C : Nat) (z : Fs) : List Go.Sx.Blk := [.cells true true [.slice (some ⟨7, 0, none⟩) N C, .int .i64 z.tp], .cells true true [.slice (some ⟨8, 0, some 1⟩) N 0, .int .i64 z.tr], .ints true true z.l, .ints true true z.l]
def FpP.out (p : FpP) : Exit × List Value × List Go.Sx.Blk := (.normal, [.bool true, .pointer (some ⟨5, 0, none⟩), .pointer (some ⟨6, 0, none⟩)], p.A ++ fpZ p.N p.C p.z)
noncomputable def fpF : List Value → List Go.Sx.Blk → M (Exit × List Value × List Go.Sx.Blk) := specL fpParse FpP.V FpP.H FpP.OK FpP.out
theorem fp_norm (ns nf np nl nt : Nat) (si : Nat → Nat → Int) (sb : Nat → Nat → Bool) (fi : Nat → Nat → Int) (fb : Nat → Nat → Bool) (pi : Nat → Nat → Int) (pb : Nat → Nat → Bool) (gi : Nat → Nat → Int) (gb : Nat → Nat → Bool) (ti : Nat → Nat → Int) (tb : Nat → Nat → Bool) (cl ct : Nat) (cf : Cf) (k own : Int) (N C : Nat) (tp tr : Int) (lp lr : List Int) (q h : Fq) (i : Int) : (normV 177 [13, 17, 19] 5 (unpack 177 [4, 5, 13, 17, 18, 19, 20, 21] (fpV nl cl nt ct i) (fpH ns nf np nl nt si sb fi fb pi pb gi gb ti tb cf k own N C tp tr lp lr q h))).get =
    some ([.bool true, .pointer (some ⟨5, 0, none⟩), .pointer (some ⟨6, 0, none⟩)], fpA ns nf np nl nt si sb fi fb pi pb gi gb ti tb ++ [.cells true true [.slice (some ⟨7, 0, none⟩) N C, .int .i64 tp], .cells true true [.slice (some ⟨8, 0, some 1⟩) N 0, .int .i64 tr], .ints true true lp, .ints true true lr]) := by kernel_rfl
theorem fp_lp : LpSound Tryd.prog Tab 8 0 (loopV 177 [4, 5, 13, 17, 18, 19, 20, 21] [13, 17, 19] fpF 5) := by
  refine LpSound.of_spec (c := fpBody) Tryd.func8 (by kernel_rfl) (by kernel_rfl) fun X W0 h0 hB hT p ⟨hR, hn, hl, hw, hI⟩ => ?_
  obtain ⟨z, h1, rfl, h3⟩ := fp_rounds (flEnv_ok X W0 h0 hB hT) p.ns p.nf p.np p.nl p.nt p.R0.gi p.R0.gb p.R1.gi p.R1.gb p.R2.gi p.R2.gb p.R3.gi p.R3.gb p.R4.gi p.R4.gb p.cl p.ct hR p.k p.own p.N p.C p.s hn hl hw p.nt 0 (Nat.zero_add _) hI
  rw [fp_loop]
  exact h3.runs.block_exit.norm (fp_norm p.ns p.nf p.np p.nl p.nt p.R0.gi p.R0.gb p.R1.gi p.R1.gb p.R2.gi p.R2.gb p.R3.gi p.R3.gb p.R4.gi p.R4.gb p.cl p.ct p.cf p.k p.own p.N p.C _ _ _ _ _ _ _) (Nat.zero_le _)
noncomputable def fpEnv : Env := mkEnv Tryd.prog flFns [slotEq] fl1 [(8, 0, loopV 177 [4, 5, 13, 17, 18, 19, 20, 21] [13, 17, 19] fpF 5)]
theorem fpEnv_ok (X : Nat → Prop) (w0 : World) (h0 : X 0) (hB : Bnd X w0) (hT : Tab w0) : EnvOK fpEnv X w0 := mkEnv_ok slotEq_ok (by kernel_rfl) flFns_ok fl1_ok (lpSounds_cons fp_lp lpSounds_nil) h0 hB hT
def maxA (x : Int) : Int := if 0 > x then 0 else x
def maxB (x : Int) : Int := if x > 0 then x else 0
/-- The copy that append makes. -/
def cpyN (N : Nat) (l : List Int) : Nat := 0 + ((l.drop 0).take N).length
def cpyL (N : Nat) (l : List Int) : List Int := (l.drop 0).take N
theorem cpy_eq {N : Nat} {l : List Int} (h : okM N l = true) : cpyN N l = N ∧ cpyL N l = l := by
  obtain ⟨h1, _, _⟩ := okM_iff.1 h
  have : (l.drop 0).take N = l := by rw [List.drop_zero, h1]; exact List.take_length
  unfold cpyN cpyL
  rw [this]; exact ⟨by omega, rfl⟩
def cpyM {α : Type} (N : Nat) (l : List Int) (K : Option α) : Option α := bt (Nat.ble (0 + N) l.length) (bif Nat.beq (cpyL N l).length 0 then none else bt (smallN (cpyN N l)) K)
theorem cpyM_of {α : Type} {N : Nat} {l : List Int} {K : Option α} (h : okM N l = true) : cpyM N l K = K := by
  obtain ⟨h1, h2, h3⟩ := okM_iff.1 h
  obtain ⟨g1, g2⟩ := cpy_eq h
  unfold cpyM
  rw [g1, g2, bt_of (Nat.ble_eq_true_of_le (by omega)), bt_of (show smallN N = true from Nat.ble_eq_true_of_le h3), show Nat.beq l.length 0 = false by cases hx : Nat.beq l.length 0; rfl; exact absurd (Nat.eq_of_beq_eq_true hx) (by omega)]
  rfl
def mdC (cf : Cf) (ns nf np : Nat) : Bool := rightC cf && Nat.beq ns ns && Nat.beq nf nf && Nat.beq np np
def sdone (p : FpP) : Prop := p.V = p.V ∧ p.H = p.H ∧ p.OK
def fpFinal (p : FpP) : Option Value := bt (okM p.N p.z.l) (bt (lenOK p.N p.z.l && lenOK p.N p.z.l) (some (.bool (decide (p.z.l = p.z.l)))))
def fpStart (cf : Cf) (k own from_ : Int) (ns nf np nl nt cl ct : Nat) (si : Nat → Nat → Int) (sb : Nat → Nat → Bool) (fi : Nat → Nat → Int) (fb : Nat → Nat → Bool) (pi : Nat → Nat → Int) (pb : Nat → Nat → Bool) (gi : Nat → Nat → Int) (gb : Nat → Nat → Bool) (ti : Nat → Nat → Int) (tb : Nat → Nat → Bool) (l : List Int) : FpP :=
  ⟨ns, nf, np, nl, nt, cl, ct, ⟨slKs, si, sb⟩, ⟨[.it .u8], fi, fb⟩, ⟨[.it .u8], pi, pb⟩, ⟨wrKs, gi, gb⟩, ⟨[.it .u8], ti, tb⟩, cf, k, own, cntN cf, cntN cf, ⟨l, ((cntN cf : Nat) : Int), 0, ⟨maxA from_, 0, false⟩, ⟨maxB from_, 0, false⟩⟩⟩
/-- What the loop's summary asks of a state. -/
def fpAsk (p : FpP) (N' : Nat) (l' : List Int) (h : Fq) : Prop := fpV p.nl p.cl p.nt p.ct 0 = p.V ∧ p.A ++ [.cells true true [.slice (some ⟨9, 0, none⟩) p.N p.C, .int .i64 p.s.tp], fdB p.cf p.k p.own p.s.q, .cells true true [.slice (some ⟨10, 0, some 1⟩) N' 0, .int .i64 p.s.tr], fdB p.cf p.k p.own h, .ints true true p.s.l, .ints true true l'] = p.H ∧ p.OK
noncomputable def fpEnd (p : FpP) (N' : Nat) (l' : List Int) (h : Fq) : Option Value := bt (sure (fpAsk p N' l' h)) (fpFinal p)
theorem fp_all (a b c d e k own from_ : Int) (cs cF cp cl ct : Nat) (ns nf np nl nt : Nat) (si : Nat → Nat → Int) (sb : Nat → Nat → Bool) (fi : Nat → Nat → Int) (fb : Nat → Nat → Bool) (pi : Nat → Nat → Int) (pb : Nat → Nat → Bool) (gi : Nat → Nat → Int) (gb : Nat → Nat → Bool) (ti : Nat → Nat → Int) (tb : Nat → Nat → Bool) :
  (callV fpEnv 60 8 [.agg (mdG a b c d e ns cs nf cF np cp).toArray, .int .i64 k, .int .i64 own, .int .i64 from_, .slice (some ⟨3, 0, some 2⟩) nl cl, .slice (some ⟨4, 0, some 2⟩) nt ct] (fpA ns nf np nl nt si sb fi fb pi pb gi gb ti tb)).run (Option Value) none (fun r => some r.1) =
    bif !decide ((nl : Int) ≤ 20) then some (.bool true) else bif decide ((nt : Int) > 40) then some (.bool true) else
    bt (mdC (confG a b c d e) ns nf np) (bt (rightC (confG a b c d e) && okM (cntN (confG a b c d e)) (madeL (confG a b c d e) nf fi np pi ns si sb) && Nat.beq (cntN (confG a b c d e)) (cntN (confG a b c d e)))
      (cpyM (cntN (confG a b c d e)) (madeL (confG a b c d e) nf fi np pi ns si sb)
        (fpEnd (fpStart (confG a b c d e) k own from_ ns nf np nl nt cl ct si sb fi fb pi pb gi gb ti tb (madeL (confG a b c d e) nf fi np pi ns si sb)) (cpyN (cntN (confG a b c d e)) (madeL (confG a b c d e) nf fi np pi ns si sb)) (cpyL (cntN (confG a b c d e)) (madeL (confG a b c d e) nf fi np pi ns si sb)) ⟨maxB from_, 0, false⟩))) := by kernel_rfl
end Go.Proofs.YtcakklnacnnlaaaDoor
