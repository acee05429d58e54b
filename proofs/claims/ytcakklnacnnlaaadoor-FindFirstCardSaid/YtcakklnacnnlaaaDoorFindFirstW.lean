/- FindFirst: its plain law. No condition of its own. -/
import Derived.Test.YtcakklnacnnlaaaDoorFindFirstT
import Derived.Test.YtcakklnacnnlaaaDoorFindMade
namespace Go.Proofs.YtcakklnacnnlaaaDoor
open Go.RowKit Go.Fld Go.Sx
set_option linter.unusedVariables false
set_option linter.unusedSimpArgs false
/-- One step, nobody else at work. -/
structure FfS (cf : Cf) (k own : Int) (l : List Int) (i : Nat) (q : Fq) : Prop where
  tch : ∀ t : Int, ftch cf (cntN cf) q t = w64 (t + 1)
  fd : (fstep cf k own (cntN cf) l q).found = fitsS (slD cf l i) k own
  at_ : (fstep cf k own (cntN cf) l q).found = true → (fstep cf k own (cntN cf) l q).at_ = i
  wd : (fstep cf k own (cntN cf) l q).found = true → (fstep cf k own (cntN cf) l q).word = l.getD (cellC cf i).toNat 0
  nx : (fstep cf k own (cntN cf) l q).found = false → (fstep cf k own (cntN cf) l q).at_ = i + 1
  ret : fret cf k own (cntN cf) l q = (fitsS (slD cf l i) k own || decide ((i : Int) + 1 ≥ cf.s))
theorem ff_step {cf : Cf} (hc : RightC cf) {l : List Int} (hI : AllI l) (hD : SlotsD cf l) (k own : Int) {i : Nat} (hi : (i : Int) < cf.s) {q : Fq} (h1 : q.at_ = i) (h2 : q.found = false) : FfS cf k own l i q := by
  obtain ⟨e1, e2, e3, e4⟩ := slotCell_in hc hi
  have hd : fdone cf q = false := by unfold fdone; rw [h2, h1, decide_eq_false (by omega)]; rfl
  have hl : fload cf (cntN cf) l q = l.getD (cellC cf i).toNat 0 := by unfold fload ldS; rw [h1, e2]; rfl
  have hx : I64i (l.getD (cellC cf i).toNat 0) := by
    have := hI.ld (cntN cf) (cellC cf i)
    unfold ldS at this
    rw [e2] at this
    exact this
  have hf : fitW decS k own (fload cf (cntN cf) l q) = fitsS (slD cf l i) k own := by
    unfold fitW slD
    rw [hl, hD i hi, decA_eq _ hx]; rfl
  have hw : w64 (q.at_ + 1) = i + 1 := by rw [h1]; exact w64_in ⟨by omega, by have := hc.s; omega⟩
  have hs : fstep cf k own (cntN cf) l q = bif fitsS (slD cf l i) k own then ⟨q.at_, fload cf (cntN cf) l q, true⟩ else ⟨w64 (q.at_ + 1), q.word, q.found⟩ := by unfold fstep; rw [hd, hf]; rfl
  refine ⟨fun t => by unfold ftch tcS; rw [hd, h1, e2]; rfl, ?_, fun h => ?_, fun h => ?_, fun h => ?_, ?_⟩
  · rw [hs]; cases fitsS (slD cf l i) k own
    · exact h2
    · rfl
  · rw [hs] at h ⊢; cases hb : fitsS (slD cf l i) k own
    · rw [hb] at h; exact absurd (h.symm.trans h2) (by simp)
    · exact h1
  · rw [hs] at h ⊢; cases hb : fitsS (slD cf l i) k own
    · rw [hb] at h; exact absurd (h.symm.trans h2) (by simp)
    · exact hl
  · rw [hs] at h ⊢; cases hb : fitsS (slD cf l i) k own
    · exact hw
    · rw [hb] at h; cases h
  · unfold fret
    rw [hd, hf, hw]
    cases fitsS (slD cf l i) k own <;> rfl
def ffNext (cf : Cf) (k own : Int) (l : List Int) (q : Fq) : Fq := fgo (fstep cf k own (cntN cf) l q)
def ffIter (cf : Cf) (k own : Int) (l : List Int) : Nat → Fq
  | 0 => ⟨0, 0, false⟩
  | i + 1 => ffNext cf k own l (ffIter cf k own l i)
theorem ffIter_inv {cf : Cf} (hc : RightC cf) {l : List Int} (hI : AllI l) (hD : SlotsD cf l) (k own : Int) : ∀ i : Nat, (i : Int) ≤ cf.s → (ffIter cf k own l i).at_ = i ∧ (ffIter cf k own l i).found = false
  | 0, _ => ⟨rfl, rfl⟩
  | i + 1, hi => by
    obtain ⟨h1, h2⟩ := ffIter_inv hc hI hD k own i (by omega)
    have hs := ff_step hc hI hD k own (show (i : Int) < cf.s by omega) h1 h2
    show (ffNext cf k own l (ffIter cf k own l i)).at_ = _ ∧ (ffNext cf k own l (ffIter cf k own l i)).found = _
    unfold ffNext fgo
    cases hf : (fstep cf k own (cntN cf) l (ffIter cf k own l i)).found with
    | true => exact ⟨by show w64 ((fstep cf k own (cntN cf) l (ffIter cf k own l i)).at_ + 1) = _; rw [hs.at_ hf, w64_in ⟨by omega, by have := hc.s; omega⟩]; omega, rfl⟩
    | false => exact ⟨by show (fstep cf k own (cntN cf) l (ffIter cf k own l i)).at_ = _; rw [hs.nx hf]; omega, hf⟩
theorem ff_round (ns nf np : Nat) (si : Nat → Nat → Int) (sb : Nat → Nat → Bool) (fi : Nat → Nat → Int) (fb : Nat → Nat → Bool) (pi : Nat → Nat → Int) (pb : Nat → Nat → Bool) (cf : Cf) (hc : RightC cf) (k own : Int) (C : Nat) (l : List Int) (hok : okM (cntN cf) l = true) (hI : AllI l) (hD : SlotsD cf l) (i : Nat) (hi : (i : Int) < cf.s) (q : Fq) (h1 : q.at_ = i) (h2 : q.found = false) :
    (roundV flEnv 40 noLps 139 [1, 2, 7, 8, 9, 10, 11, 12, 13, 14, 15] 3 ffRound (unpack 139 [1, 2, 7, 8, 9, 10, 11, 12, 13, 14, 15] (ffV k own (cntN cf) cf.s.toNat (cntN cf) i i) (ffH ns nf np si sb fi fb pi pb cf k own (cntN cf) C cf.s.toNat (slD cf l) ((cntN cf : Int) + i) l l q))).get =
    some (.normal, ffV k own (cntN cf) cf.s.toNat (cntN cf) ((i + 1 : Nat) : Int) ((i + 1 : Nat) : Int), ffH ns nf np si sb fi fb pi pb cf k own (cntN cf) C cf.s.toNat (slD cf l) ((cntN cf : Int) + ((i + 1 : Nat) : Int)) l l (ffNext cf k own l q)) := by
  rw [ff_tree]
  have hs := ff_step hc hI hD k own hi h1 h2
  have hN := hc.cntN
  have hS := hc.s
  obtain ⟨e1, e2, e3, e4⟩ := slotCell_in hc hi
  obtain ⟨g1, _, _⟩ := okM_iff.1 hok
  have et : w64 ((cntN cf : Int) + i + 1) = (cntN cf : Int) + ((i + 1 : Nat) : Int) := by rw [w64_in ⟨by omega, by omega⟩]; omega
  have ei : w64 ((i : Int) + 1) = ((i + 1 : Nat) : Int) := w64_succ (by omega)
  have e5 : Nat.blt (0 + (cellC cf i).toNat) l.length = true := by rw [Nat.blt_eq]; omega
  have e6 : w64 ((cf.s.toNat : Int) - 1) = cf.s - 1 := by rw [w64_in ⟨by omega, by omega⟩]; omega
  rw [decide_eq_true (by omega : (i : Int) < (cf.s.toNat : Int)), bt_of hok, hs.tch, et, ei, Int.toNat_natCast, ixR_in rfl (by omega), ixR_in rfl (by omega), hs.ret, e3, e5, e6]
  unfold ffNext
  cases hf : (fstep cf k own (cntN cf) l q).found with
  | true =>
    have hF := hf
    rw [hs.fd] at hF
    rw [hF, hs.at_ hf, hs.wd hf, Nat.zero_add, bne_self_eq_false, bne_self_eq_false]
    rfl
  | false =>
    have hF := hf
    rw [hs.fd] at hF
    rw [hF]
    have e7 : (false || decide ((i : Int) + 1 ≥ cf.s)) = ((i : Int) == cf.s - 1) := by
      rw [Bool.false_or, Bool.eq_iff_iff]
      simp; omega
    rw [e7]
    cases ((i : Int) == cf.s - 1) <;> rfl
theorem ff_rounds {X : Nat → Prop} {w0 : World} (hE : EnvOK flEnv X w0) (ns nf np : Nat) (si : Nat → Nat → Int) (sb : Nat → Nat → Bool) (fi : Nat → Nat → Int) (fb : Nat → Nat → Bool) (pi : Nat → Nat → Int) (pb : Nat → Nat → Bool) (cf : Cf) (hc : RightC cf) (k own : Int) (C : Nat) (l : List Int) (hok : okM (cntN cf) l = true) (hI : AllI l) (hD : SlotsD cf l) : ∀ (m i : Nat), i + m = cf.s.toNat →
    LoopRunsB Tryd.prog X w0 0 3 ffRound (unpack 139 [1, 2, 7, 8, 9, 10, 11, 12, 13, 14, 15] (ffV k own (cntN cf) cf.s.toNat (cntN cf) i i) (ffH ns nf np si sb fi fb pi pb cf k own (cntN cf) C cf.s.toNat (slD cf l) ((cntN cf : Int) + i) l l (ffIter cf k own l i))) (.exit 0)
      (unpack 139 [1, 2, 7, 8, 9, 10, 11, 12, 13, 14, 15] (ffV k own (cntN cf) cf.s.toNat (cntN cf) cf.s.toNat cf.s.toNat) (ffH ns nf np si sb fi fb pi pb cf k own (cntN cf) C cf.s.toNat (slD cf l) ((cntN cf : Int) + cf.s.toNat) l l (ffIter cf k own l cf.s.toNat)))
  | 0, i, hi => by
    obtain rfl : i = cf.s.toNat := by omega
    have ht := ff_tree ns nf np si sb fi fb pi pb cf k own (cntN cf) C cf.s.toNat (slD cf l) ((cntN cf : Int) + cf.s.toNat) l l (ffIter cf k own l cf.s.toNat) (cntN cf) cf.s.toNat cf.s.toNat
    rw [decide_eq_false (by omega)] at ht
    exact LoopRunsB.exit (round_runs hE (noLps_ok _) ht (Nat.zero_le _) (show 3 ≤ 9 by decide)) (by simp)
  | m + 1, i, hi => by
    have hS := hc.s
    obtain ⟨h1, h2⟩ := ffIter_inv hc hI hD k own i (by omega)
    have ht := ff_round ns nf np si sb fi fb pi pb cf hc k own C l hok hI hD i (by omega) _ h1 h2
    exact LoopRunsB.step (round_runs hE (noLps_ok _) ht (Nat.zero_le _) (show 3 ≤ 9 by decide)) (ff_rounds hE ns nf np si sb fi fb pi pb cf hc k own C l hok hI hD m (i + 1) (by omega))
structure FfP where
  ns : Nat
  nf : Nat
  np : Nat
  R0 : Go.Sx.Rows
  R1 : Go.Sx.Rows
  R2 : Go.Sx.Rows
  cf : Cf
  k : Int
  own : Int
  C : Nat
  l : List Int
def ffParse (vals : List Value) (lh : List Go.Sx.Blk) : FfP :=
  ⟨rowsN2 lh 0, rowsN2 lh 1, rowsN2 lh 2, rows2 lh 0, rows2 lh 1, rows2 lh 2, ⟨int2 lh 6 0, int2 lh 6 1, int2 lh 6 2, int2 lh 6 3, int2 lh 6 4⟩, int2 lh 6 5, int2 lh 6 6, sliceCap (at2 lh 5 0), ints2 lh 4⟩
def FfP.V (p : FfP) : List Value := ffV p.k p.own (cntN p.cf) p.cf.s.toNat (cntN p.cf) 0 0
def FfP.H (p : FfP) : List Go.Sx.Blk := ffH p.ns p.nf p.np p.R0.gi p.R0.gb p.R1.gi p.R1.gb p.R2.gi p.R2.gb p.cf p.k p.own (cntN p.cf) p.C p.cf.s.toNat (slD p.cf p.l) (cntN p.cf) p.l p.l ⟨0, 0, false⟩
def FfP.OK (p : FfP) : Prop := RightC p.cf ∧ okM (cntN p.cf) p.l = true ∧ AllI p.l ∧ SlotsD p.cf p.l
def FfP.z (p : FfP) : Fq := ffIter p.cf p.k p.own p.l p.cf.s.toNat
abbrev ffZV (N : Nat) (t0 st : Int) : List Value := [.bool true, .slice (some ⟨3, 0, none⟩) N N, .pointer (some ⟨4, 0, none⟩), .pointer (some ⟨5, 0, none⟩), .int .i64 t0, .int .i64 st]
abbrev ffZ (ns nf np : Nat) (si : Nat → Nat → Int) (sb : Nat → Nat → Bool) (fi : Nat → Nat → Int) (fb : Nat → Nat → Bool) (pi : Nat → Nat → Int) (pb : Nat → Nat → Bool) (cf : Cf) (k own : Int) (N C : Nat) (t : Int) (l lm : List Int) (q : Fq) : List Go.Sx.Blk := rowsG ns nf np si sb fi fb pi pb ++ [.ints true true l, .cells true true [.slice (some ⟨6, 0, none⟩) N C, .int .i64 t], fdB cf k own q, .ints true true lm]
def FfP.out (p : FfP) : Exit × List Value × List Go.Sx.Blk := (.normal, ffZV (cntN p.cf) (cntN p.cf) p.cf.s.toNat, ffZ p.ns p.nf p.np p.R0.gi p.R0.gb p.R1.gi p.R1.gb p.R2.gi p.R2.gb p.cf p.k p.own (cntN p.cf) p.C ((cntN p.cf : Int) + p.cf.s.toNat) p.l p.l p.z)
noncomputable def ffF : List Value → List Go.Sx.Blk → M (Exit × List Value × List Go.Sx.Blk) := specL ffParse FfP.V FfP.H FfP.OK FfP.out
theorem ff_norm (ns nf np : Nat) (si : Nat → Nat → Int) (sb : Nat → Nat → Bool) (fi : Nat → Nat → Int) (fb : Nat → Nat → Bool) (pi : Nat → Nat → Int) (pb : Nat → Nat → Bool) (cf : Cf) (k own : Int) (N C S : Nat) (D : Nat → Slt) (t : Int) (l lm : List Int) (q : Fq) (t0 st i : Int) :
    (normV 139 [7, 9, 10, 11, 12, 14] 3 (unpack 139 [1, 2, 7, 8, 9, 10, 11, 12, 13, 14, 15] (ffV k own N S t0 st i) (ffH ns nf np si sb fi fb pi pb cf k own N C S D t l lm q))).get = some (ffZV N t0 st, ffZ ns nf np si sb fi fb pi pb cf k own N C t l lm q) := by kernel_rfl
theorem ff_lp : LpSound Tryd.prog Tab 7 0 (loopV 139 [1, 2, 7, 8, 9, 10, 11, 12, 13, 14, 15] [7, 9, 10, 11, 12, 14] ffF 3) := by
  refine LpSound.of_spec (c := ffBody) Tryd.func7 (by kernel_rfl) (by kernel_rfl) fun X W0 h0 hB hT p ⟨hR, hok, hI, hD⟩ => ?_
  have h3 := ff_rounds (flEnv_ok X W0 h0 hB hT) p.ns p.nf p.np p.R0.gi p.R0.gb p.R1.gi p.R1.gb p.R2.gi p.R2.gb p.cf hR p.k p.own p.C p.l hok hI hD p.cf.s.toNat 0 (Nat.zero_add _)
  rw [ff_loop]
  rw [Int.ofNat_zero, Int.add_zero] at h3
  exact h3.runs.block_exit.norm (ff_norm p.ns p.nf p.np p.R0.gi p.R0.gb p.R1.gi p.R1.gb p.R2.gi p.R2.gb p.cf p.k p.own _ p.C _ _ _ _ _ _ _ _ _) (Nat.zero_le _)
noncomputable def ffEnv : Env := mkEnv Tryd.prog flFns [slotEq] fl1 [(7, 0, loopV 139 [1, 2, 7, 8, 9, 10, 11, 12, 13, 14, 15] [7, 9, 10, 11, 12, 14] ffF 3)]
theorem ffEnv_ok (X : Nat → Prop) (w0 : World) (h0 : X 0) (hB : Bnd X w0) (hT : Tab w0) : EnvOK ffEnv X w0 := mkEnv_ok slotEq_ok (by kernel_rfl) flFns_ok fl1_ok (lpSounds_cons ff_lp lpSounds_nil) h0 hB hT
end Go.Proofs.YtcakklnacnnlaaaDoor
