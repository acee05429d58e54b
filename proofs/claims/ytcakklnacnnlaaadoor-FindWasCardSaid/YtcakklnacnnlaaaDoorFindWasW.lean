/- FindWas: its plain law. No condition of its own. -/
import Derived.Test.YtcakklnacnnlaaaDoorFindWasT
import Derived.Test.YtcakklnacnnlaaaDoorFindPlaysX
namespace Go.Proofs.YtcakklnacnnlaaaDoor
open Go.RowKit Go.Fld Go.Sx
set_option linter.unusedVariables false
set_option linter.unusedSimpArgs false
/-- One step at a slot. -/
structure FwS (cf : Cf) (k own : Int) (l : List Int) (i : Nat) (q : Fq) : Prop where
  fd : (fstep cf k own (cntN cf) l q).found = fitW decA k own (l.getD (cellC cf i).toNat 0)
  at_ : (fstep cf k own (cntN cf) l q).found = true → (fstep cf k own (cntN cf) l q).at_ = i
  wd : (fstep cf k own (cntN cf) l q).found = true → (fstep cf k own (cntN cf) l q).word = l.getD (cellC cf i).toNat 0
  nx : (fstep cf k own (cntN cf) l q).found = false → (fstep cf k own (cntN cf) l q).at_ = i + 1
  ret : fret cf k own (cntN cf) l q = (fitW decA k own (l.getD (cellC cf i).toNat 0) || decide ((i : Int) + 1 ≥ cf.s))
theorem fw_step {cf : Cf} (hc : RightC cf) {l : List Int} (hI : AllI l) (k own : Int) {i : Nat} (hi : (i : Int) < cf.s) {q : Fq} (h1 : q.at_ = i) (h2 : q.found = false) : FwS cf k own l i q := by
  obtain ⟨e1, e2, e3, e4⟩ := slotCell_in hc hi
  have hd : fdone cf q = false := by unfold fdone; rw [h2, h1, decide_eq_false (by omega)]; rfl
  have hl : fload cf (cntN cf) l q = l.getD (cellC cf i).toNat 0 := by unfold fload ldS; rw [h1, e2]; rfl
  have hx : I64i (l.getD (cellC cf i).toNat 0) := by
    have := hI.ld (cntN cf) (cellC cf i)
    unfold ldS at this
    rw [e2] at this
    exact this
  have hf : fitW decS k own (fload cf (cntN cf) l q) = fitW decA k own (l.getD (cellC cf i).toNat 0) := by
    unfold fitW
    rw [hl, decA_eq _ hx]
  have hw : w64 (q.at_ + 1) = i + 1 := by rw [h1]; exact w64_in ⟨by omega, by have := hc.s; omega⟩
  have hs : fstep cf k own (cntN cf) l q = bif fitW decA k own (l.getD (cellC cf i).toNat 0) then ⟨q.at_, fload cf (cntN cf) l q, true⟩ else ⟨w64 (q.at_ + 1), q.word, q.found⟩ := by unfold fstep; rw [hd, hf]; rfl
  refine ⟨?_, fun h => ?_, fun h => ?_, fun h => ?_, ?_⟩
  · rw [hs]; cases fitW decA k own (l.getD (cellC cf i).toNat 0)
    · exact h2
    · rfl
  · rw [hs] at h ⊢; cases hb : fitW decA k own (l.getD (cellC cf i).toNat 0)
    · rw [hb] at h; exact absurd (h.symm.trans h2) (by simp)
    · exact h1
  · rw [hs] at h ⊢; cases hb : fitW decA k own (l.getD (cellC cf i).toNat 0)
    · rw [hb] at h; exact absurd (h.symm.trans h2) (by simp)
    · exact hl
  · rw [hs] at h ⊢; cases hb : fitW decA k own (l.getD (cellC cf i).toNat 0)
    · exact hw
    · rw [hb] at h; cases h
  · unfold fret
    rw [hd, hf, hw]
    cases fitW decA k own (l.getD (cellC cf i).toNat 0) <;> rfl
theorem fw_round (ns nf np nl : Nat) (si : Nat → Nat → Int) (sb : Nat → Nat → Bool) (fi : Nat → Nat → Int) (fb : Nat → Nat → Bool) (pi : Nat → Nat → Int) (pb : Nat → Nat → Bool) (gi : Nat → Nat → Int) (gb : Nat → Nat → Bool) (cl : Nat) (cf : Cf) (hc : RightC cf) (k own : Int) (C : Nat) (t : Int) (l : List Int) (hok : okM (cntN cf) l = true) (hI : AllI l) (hn : nl ≤ 20) (hw : WrI gi nl) (i : Nat) (hi : (i : Int) < cf.s) (q : Fq) (h1 : q.at_ = i) (h2 : q.found = false) :
    (∃ t' l' q', (roundV flEnv 40 noLps 115 [1, 2, 3, 8, 9, 11, 13, 14, 15] 4 fwRound (unpack 115 [1, 2, 3, 8, 9, 11, 13, 14, 15] (fwV k own nl cl false i) (fwH ns nf np nl si sb fi fb pi pb gi gb cf k own (cntN cf) C t l q))).get = some (.ret, fwV k own nl cl true i, fwH ns nf np nl si sb fi fb pi pb gi gb cf k own (cntN cf) C t' l' q')) ∨
    ((i : Int) + 1 < cf.s ∧ ∃ t' l' q', okM (cntN cf) l' = true ∧ AllI l' ∧ q'.at_ = ((i + 1 : Nat) : Int) ∧ q'.found = false ∧
      (roundV flEnv 40 noLps 115 [1, 2, 3, 8, 9, 11, 13, 14, 15] 4 fwRound (unpack 115 [1, 2, 3, 8, 9, 11, 13, 14, 15] (fwV k own nl cl false i) (fwH ns nf np nl si sb fi fb pi pb gi gb cf k own (cntN cf) C t l q))).get = some (.normal, fwV k own nl cl false ((i + 1 : Nat) : Int), fwH ns nf np nl si sb fi fb pi pb gi gb cf k own (cntN cf) C t' l' q')) := by
  rw [fw_tree]
  have hok' : okM (cntN cf) (wrsL (cntN cf) gi i nl l) = true := by rw [okM_wrs]; exact hok
  have hI' : AllI (wrsL (cntN cf) gi i nl l) := hI.wrs _ _ _ _ hw
  have hs := fw_step hc hI' k own hi h1 h2
  have hS := hc.s
  obtain ⟨e1, e2, e3, e4⟩ := slotCell_in hc hi
  obtain ⟨g1, _, _⟩ := okM_iff.1 hok'
  have ei : w64 ((i : Int) + 1) = ((i + 1 : Nat) : Int) := w64_succ (by omega)
  have e5 : Nat.blt (cellC cf i).toNat (wrsL (cntN cf) gi i nl l).length = true := by rw [Nat.blt_eq]; omega
  have e6 : w64 (cf.s - 1) = cf.s - 1 := w64_in ⟨by omega, by omega⟩
  have e8 : smallN nl = true := Nat.ble_eq_true_of_le (by omega)
  rw [decide_eq_true hi, bt_of (by rw [hok, Nat.beq_refl, e8]; rfl), bt_of hok', bt_of hok', hs.ret, e3, e5, e6, ei]
  cases hf : (fstep cf k own (cntN cf) (wrsL (cntN cf) gi i nl l) q).found with
  | true =>
    have hF := hf
    rw [hs.fd] at hF
    rw [hF, hs.at_ hf, hs.wd hf, bne_self_eq_false, bne_self_eq_false]
    exact .inl ⟨_, _, _, rfl⟩
  | false =>
    have hF := hf
    rw [hs.fd] at hF
    rw [hF]
    by_cases h3 : (i : Int) + 1 < cf.s
    · rw [decide_eq_false (by omega)]
      exact .inr ⟨h3, _, _, _, hok', hI', by rw [hs.nx hf]; omega, hf, rfl⟩
    · rw [decide_eq_true (by omega), show ((i : Int) == cf.s - 1) = true by simp; omega]
      exact .inl ⟨_, _, _, rfl⟩
theorem fw_rounds {X : Nat → Prop} {w0 : World} (hE : EnvOK flEnv X w0) (ns nf np nl : Nat) (si : Nat → Nat → Int) (sb : Nat → Nat → Bool) (fi : Nat → Nat → Int) (fb : Nat → Nat → Bool) (pi : Nat → Nat → Int) (pb : Nat → Nat → Bool) (gi : Nat → Nat → Int) (gb : Nat → Nat → Bool) (cl : Nat) (cf : Cf) (hc : RightC cf) (k own : Int) (C : Nat) (hn : nl ≤ 20) (hw : WrI gi nl) : ∀ (m i : Nat) (t : Int) (l : List Int) (q : Fq), i + (m + 1) = cf.s.toNat → okM (cntN cf) l = true → AllI l → q.at_ = i → q.found = false →
    ∃ i' t' l' q', LoopRunsB Tryd.prog X w0 0 4 fwRound (unpack 115 [1, 2, 3, 8, 9, 11, 13, 14, 15] (fwV k own nl cl false i) (fwH ns nf np nl si sb fi fb pi pb gi gb cf k own (cntN cf) C t l q)) .ret (unpack 115 [1, 2, 3, 8, 9, 11, 13, 14, 15] (fwV k own nl cl true i') (fwH ns nf np nl si sb fi fb pi pb gi gb cf k own (cntN cf) C t' l' q')) := by
  intro m
  induction m with
  | zero =>
    intro i t l q hi hok hI h1 h2
    rcases fw_round ns nf np nl si sb fi fb pi pb gi gb cl cf hc k own C t l hok hI hn hw i (by omega) q h1 h2 with ⟨t', l', q', hr⟩ | ⟨h3, _⟩
    · exact ⟨_, _, _, _, LoopRunsB.exit (round_runs hE (noLps_ok _) hr (Nat.zero_le _) (show 4 ≤ 8 by decide)) (by simp)⟩
    · omega
  | succ m ih =>
    intro i t l q hi hok hI h1 h2
    rcases fw_round ns nf np nl si sb fi fb pi pb gi gb cl cf hc k own C t l hok hI hn hw i (by omega) q h1 h2 with ⟨t', l', q', hr⟩ | ⟨h3, t', l', q', hok', hI', g1, g2, hr⟩
    · exact ⟨_, _, _, _, LoopRunsB.exit (round_runs hE (noLps_ok _) hr (Nat.zero_le _) (show 4 ≤ 8 by decide)) (by simp)⟩
    · obtain ⟨i', t2, l2, q2, hl⟩ := ih (i + 1) t' l' q' (by omega) hok' hI' g1 g2
      exact ⟨i', t2, l2, q2, LoopRunsB.step (round_runs hE (noLps_ok _) hr (Nat.zero_le _) (show 4 ≤ 8 by decide)) hl⟩
structure FwP where
  ns : Nat
  nf : Nat
  np : Nat
  nl : Nat
  cl : Nat
  R0 : Go.Sx.Rows
  R1 : Go.Sx.Rows
  R2 : Go.Sx.Rows
  R3 : Go.Sx.Rows
  cf : Cf
  k : Int
  own : Int
  C : Nat
  t : Int
  l : List Int
def fwParse (vals : List Value) (lh : List Go.Sx.Blk) : FwP :=
  ⟨rowsN2 lh 0, rowsN2 lh 1, rowsN2 lh 2, rowsN2 lh 3, sliceCap (vals.getD 2 undef), rows2 lh 0, rows2 lh 1, rows2 lh 2, rows2 lh 3, ⟨int2 lh 6 0, int2 lh 6 1, int2 lh 6 2, int2 lh 6 3, int2 lh 6 4⟩, int2 lh 6 5, int2 lh 6 6, sliceCap (at2 lh 5 0), int2 lh 5 1, ints2 lh 7⟩
def FwP.V (p : FwP) : List Value := fwV p.k p.own p.nl p.cl false 0
def FwP.A (p : FwP) : List Go.Sx.Blk := fwA p.ns p.nf p.np p.nl p.R0.gi p.R0.gb p.R1.gi p.R1.gb p.R2.gi p.R2.gb p.R3.gi p.R3.gb
def FwP.H (p : FwP) : List Go.Sx.Blk := fwH p.ns p.nf p.np p.nl p.R0.gi p.R0.gb p.R1.gi p.R1.gb p.R2.gi p.R2.gb p.R3.gi p.R3.gb p.cf p.k p.own (cntN p.cf) p.C p.t p.l ⟨0, 0, false⟩
def FwP.OK (p : FwP) : Prop := RightC p.cf ∧ okM (cntN p.cf) p.l = true ∧ AllI p.l ∧ p.nl ≤ 20 ∧ WrI p.R3.gi p.nl
def FwP.out (p : FwP) : Exit × List Value × List Go.Sx.Blk := (.ret, [.bool true], p.A)
noncomputable def fwF : List Value → List Go.Sx.Blk → M (Exit × List Value × List Go.Sx.Blk) := specL fwParse FwP.V FwP.H FwP.OK FwP.out
theorem fw_norm (ns nf np nl : Nat) (si : Nat → Nat → Int) (sb : Nat → Nat → Bool) (fi : Nat → Nat → Int) (fb : Nat → Nat → Bool) (pi : Nat → Nat → Int) (pb : Nat → Nat → Bool) (gi : Nat → Nat → Int) (gb : Nat → Nat → Bool) (cl : Nat) (cf : Cf) (k own : Int) (N C : Nat) (t : Int) (l : List Int) (q : Fq) (i : Int) : (normV 115 [8] 4 (unpack 115 [1, 2, 3, 8, 9, 11, 13, 14, 15] (fwV k own nl cl true i) (fwH ns nf np nl si sb fi fb pi pb gi gb cf k own N C t l q))).get = some ([.bool true], fwA ns nf np nl si sb fi fb pi pb gi gb) := by kernel_rfl
theorem fw_lp : LpSound Tryd.prog Tab 6 0 (loopV 115 [1, 2, 3, 8, 9, 11, 13, 14, 15] [8] fwF 4) := by
  refine LpSound.of_spec (c := fwBody) Tryd.func6 (by kernel_rfl) (by kernel_rfl) fun X W0 h0 hB hT p ⟨hR, hok, hI, hn, hw⟩ => ?_
  obtain ⟨i', t', l', q', h3⟩ := fw_rounds (flEnv_ok X W0 h0 hB hT) p.ns p.nf p.np p.nl p.R0.gi p.R0.gb p.R1.gi p.R1.gb p.R2.gi p.R2.gb p.R3.gi p.R3.gb p.cl p.cf hR p.k p.own p.C hn hw (p.cf.s.toNat - 1) 0 p.t p.l ⟨0, 0, false⟩ (by have := hR.s; omega) hok hI rfl rfl
  rw [fw_loop]
  exact (h3.runs.block_out (by simp)).norm (fw_norm p.ns p.nf p.np p.nl p.R0.gi p.R0.gb p.R1.gi p.R1.gb p.R2.gi p.R2.gb p.R3.gi p.R3.gb p.cl p.cf p.k p.own _ p.C _ _ _ _) (Nat.zero_le _)
noncomputable def fwEnv : Env := mkEnv Tryd.prog flFns [slotEq] fl1 [(6, 0, loopV 115 [1, 2, 3, 8, 9, 11, 13, 14, 15] [8] fwF 4)]
theorem fwEnv_ok (X : Nat → Prop) (w0 : World) (h0 : X 0) (hB : Bnd X w0) (hT : Tab w0) : EnvOK fwEnv X w0 := mkEnv_ok slotEq_ok (by kernel_rfl) flFns_ok fl1_ok (lpSounds_cons fw_lp lpSounds_nil) h0 hB hT
def fwStart (cf : Cf) (k own : Int) (cl : Nat) (ns nf np nl : Nat) (si : Nat → Nat → Int) (sb : Nat → Nat → Bool) (fi : Nat → Nat → Int) (fb : Nat → Nat → Bool) (pi : Nat → Nat → Int) (pb : Nat → Nat → Bool) (gi : Nat → Nat → Int) (gb : Nat → Nat → Bool) (l : List Int) : FwP := ⟨ns, nf, np, nl, cl, ⟨slKs, si, sb⟩, ⟨[.it .u8], fi, fb⟩, ⟨[.it .u8], pi, pb⟩, ⟨wrKs, gi, gb⟩, cf, k, own, cntN cf, cntN cf, l⟩
def fwAsk (p : FwP) : Prop := p.V = p.V ∧ p.H = p.H ∧ p.OK
noncomputable def fwEnd (p : FwP) : Option Value := bt (sure (fwAsk p)) (some (.bool true))
theorem fw_all (a b c d e k own : Int) (cs cF cp cl : Nat) (ns nf np nl : Nat) (si : Nat → Nat → Int) (sb : Nat → Nat → Bool) (fi : Nat → Nat → Int) (fb : Nat → Nat → Bool) (pi : Nat → Nat → Int) (pb : Nat → Nat → Bool) (gi : Nat → Nat → Int) (gb : Nat → Nat → Bool) :
  (callV fwEnv 60 6 [.agg (mdG a b c d e ns cs nf cF np cp).toArray, .int .i64 k, .int .i64 own, .slice (some ⟨3, 0, some 2⟩) nl cl] (fwA ns nf np nl si sb fi fb pi pb gi gb)).run (Option Value) none (fun r => some r.1) =
    bif !decide ((nl : Int) ≤ 20) then some (.bool true) else bt (mdC (confG a b c d e) ns nf np) (bt (rightC (confG a b c d e) && okM (cntN (confG a b c d e)) (madeL (confG a b c d e) nf fi np pi ns si sb) && Nat.beq (cntN (confG a b c d e)) (cntN (confG a b c d e)))
        (fwEnd (fwStart (confG a b c d e) k own cl ns nf np nl si sb fi fb pi pb gi gb (madeL (confG a b c d e) nf fi np pi ns si sb)))) := by kernel_rfl
end Go.Proofs.YtcakklnacnnlaaaDoor
