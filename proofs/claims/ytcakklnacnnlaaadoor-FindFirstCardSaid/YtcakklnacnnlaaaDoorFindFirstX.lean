/- FindFirst: the whole. No condition of its own. -/
import Derived.Test.YtcakklnacnnlaaaDoorFindFirstW
import Derived.Test.YtcakklnacnnlaaaDoorFindPlaysX
namespace Go.Proofs.YtcakklnacnnlaaaDoor
open Go.RowKit Go.Fld Go.Sx
set_option linter.unusedVariables false
set_option linter.unusedSimpArgs false
def ffStart (cf : Cf) (k own : Int) (ns nf np : Nat) (si : Nat → Nat → Int) (sb : Nat → Nat → Bool) (fi : Nat → Nat → Int) (fb : Nat → Nat → Bool) (pi : Nat → Nat → Int) (pb : Nat → Nat → Bool) (l : List Int) : FfP := ⟨ns, nf, np, ⟨slKs, si, sb⟩, ⟨[.it .u8], fi, fb⟩, ⟨[.it .u8], pi, pb⟩, cf, k, own, cntN cf, l⟩
def ffAsk (p : FfP) : Prop := p.V = p.V ∧ p.H = p.H ∧ p.OK
def vF : Option Value := some (.bool false)
def ffFinal (p : FfP) : Option Value := bt (okM (cntN p.cf) p.l) (bif !(fstep p.cf p.k p.own (cntN p.cf) p.l p.z).found then (bif fret p.cf p.k p.own (cntN p.cf) p.l p.z then (bif ftch p.cf (cntN p.cf) p.z ((cntN p.cf : Int) + p.cf.s.toNat) == w64 ((cntN p.cf : Int) + p.cf.s.toNat) then bt (okM (cntN p.cf) p.l) (bt (lenOK (cntN p.cf) p.l && lenOK (cntN p.cf) p.l) (some (.bool (decide (p.l = p.l))))) else vF) else vF) else (bif fret p.cf p.k p.own (cntN p.cf) p.l p.z then vF else vF))
noncomputable def ffEnd (p : FfP) : Option Value := bt (sure (ffAsk p)) (ffFinal p)
theorem ff_all (a b c d e k own : Int) (cs cF cp : Nat) (ns nf np : Nat) (si : Nat → Nat → Int) (sb : Nat → Nat → Bool) (fi : Nat → Nat → Int) (fb : Nat → Nat → Bool) (pi : Nat → Nat → Int) (pb : Nat → Nat → Bool) :
  (callV ffEnv 60 7 [.agg (mdG a b c d e ns cs nf cF np cp).toArray, .int .i64 k, .int .i64 own] (rowsG ns nf np si sb fi fb pi pb)).run (Option Value) none (fun r => some r.1) =
    bt (mdC (confG a b c d e) ns nf np) (bt (rightC (confG a b c d e) && okM (cntN (confG a b c d e)) (madeL (confG a b c d e) nf fi np pi ns si sb) && Nat.beq (cntN (confG a b c d e)) (cntN (confG a b c d e)))
      (bt (rightC (confG a b c d e) && okM (cntN (confG a b c d e)) (madeL (confG a b c d e) nf fi np pi ns si sb) && Nat.beq (cntN (confG a b c d e)) (cntN (confG a b c d e)))
        (ffEnd (ffStart (confG a b c d e) k own ns nf np si sb fi fb pi pb (madeL (confG a b c d e) nf fi np pi ns si sb))))) := by kernel_rfl
theorem ffFinal_of {p : FfP} (h : p.OK) : ffFinal p = some (.bool true) := by
  obtain ⟨hR, hok, hI, hD⟩ := h
  have hS := hR.s
  have hN := hR.cntN
  obtain ⟨z1, z2⟩ := ffIter_inv hR hI hD p.k p.own p.cf.s.toNat (by omega)
  have hd : fdone p.cf p.z = true := by
    have e : p.z.at_ = p.cf.s.toNat := z1
    unfold fdone
    rw [e, decide_eq_true (by omega)]
    cases p.z.found <;> rfl
  have e1 : fstep p.cf p.k p.own (cntN p.cf) p.l p.z = p.z := by unfold fstep; rw [hd]; rfl
  have e2 : fret p.cf p.k p.own (cntN p.cf) p.l p.z = true := by unfold fret; rw [hd]; rfl
  have e3 : ftch p.cf (cntN p.cf) p.z ((cntN p.cf : Int) + p.cf.s.toNat) = (cntN p.cf : Int) + p.cf.s.toNat := by unfold ftch; rw [hd]; rfl
  have e4 : p.z.found = false := z2
  have hl : lenOK (cntN p.cf) p.l = true := by
    have hf := hok
    unfold okM at hf
    rw [Bool.and_eq_true, Bool.and_eq_true] at hf
    unfold lenOK
    rw [hf.1.1, hf.2]; rfl
  unfold ffFinal
  rw [e1, e2, e3, e4, hok, hl, w64_in ⟨by omega, by omega⟩, beq_self_eq_true, decide_eq_true rfl]
  rfl
theorem ff_true (a b c d e k own : Int) (cs cF cp : Nat) (ns nf np : Nat) (si : Nat → Nat → Int) (sb : Nat → Nat → Bool) (fi : Nat → Nat → Int) (fb : Nat → Nat → Bool) (pi : Nat → Nat → Int) (pb : Nat → Nat → Bool) (hR : RightC (confG a b c d e)) :
  (callV ffEnv 60 7 [.agg (mdG a b c d e ns cs nf cF np cp).toArray, .int .i64 k, .int .i64 own] (rowsG ns nf np si sb fi fb pi pb)).run (Option Value) none (fun r => some r.1) = some (.bool true) := by
  rw [ff_all]
  have hok := made_okM hR nf fi np pi ns si sb
  have hrc := rightC_iff.2 hR
  have hO : FfP.OK (ffStart (confG a b c d e) k own ns nf np si sb fi fb pi pb (madeL (confG a b c d e) nf fi np pi ns si sb)) := ⟨hR, hok, madeL_I _ _ _ _ _ _ _ _, made_D hR _ _ _ _ _ _ _⟩
  rw [bt_of (by unfold mdC; rw [hrc, Nat.beq_refl, Nat.beq_refl, Nat.beq_refl]; rfl), bt_of (by rw [hrc, hok, Nat.beq_refl]; rfl), bt_of (by rw [hrc, hok, Nat.beq_refl]; rfl)]
  unfold ffEnd
  rw [bt_of (sure_of ⟨rfl, rfl, hO⟩)]
  exact ffFinal_of hO
theorem ff_walk (w : World) (hT : Tab w) {v : Value} {a b c d e : Int} {A0 A1 A2 : Option Addr} {n0 c0 n1 c1 n2 c2 : Nat} {R0 R1 R2 : Go.Sx.Rows} (hg : GivenA w v a b c d e A0 n0 c0 R0 A1 n1 c1 R1 A2 n2 c2 R2) (k own : Int) :
    Calls Tryd.prog 7 #[v, .int .i64 k, .int .i64 own] w fun e w' => e = .returned (.bool true) ∧ Below w.heap.size w w' := by
  have hR := (confG_small hg.ha.1 hg.hb.1 hg.hc.1 hg.hd.1 hg.he.1).right
  obtain ⟨ks0, si, sb⟩ := R0
  obtain ⟨ks1, fi, fb⟩ := R1
  obtain ⟨ks2, pi, pb⟩ := R2
  have q0 := hg.k0; have q1 := hg.k1; have q2 := hg.k2
  simp only at q0 q1 q2
  subst q0 q1 q2
  let L : List ArgE := [(A0, n0, c0, 9, ⟨kSlot, si, sb⟩), (A1, n1, c1, 1, ⟨[.it .u8], fi, fb⟩), (A2, n2, c2, 1, ⟨[.it .u8], pi, pb⟩)]
  let σ : Nat → Option Pl := fun k => (L[k]?).bind fun e : ArgE => plOf e.1 e.2.1 e.2.2.2.1
  have hL : ∀ e ∈ L, ArgRow w e.1 e.2.1 e.2.2.1 e.2.2.2.1 e.2.2.2.2 := by
    intro e he
    simp only [L, List.mem_cons, List.not_mem_nil, or_false] at he
    rcases he with rfl | rfl | rfl
    · exact hg.r0
    · exact hg.r1
    · exact hg.r2
  have hr : HR (· < w.heap.size) w 0 σ ((L.map fun e : ArgE => (e.2.2.2.1, e.2.1, e.2.2.2.2)).map fun e => .rows false false e.1 e.2.1 e.2.2) w := args_hr _ (plOfs_some L hL)
  refine callV_start (ffEnv_ok _ w hT.lt (bnd_self w) hT) rfl (ff_true a b c d e k own c0 c1 c2 n0 n1 n2 si sb fi fb pi pb hR) rfl hr (VRA.of_list ?_)
  rw [hg.val]
  refine .cons (.agg rfl (VRA.of_list (.cons (.int _ _) (.cons (.int _ _) (.cons (.int _ _) (.cons (.int _ _) (.cons (.int _ _) (.cons ?_ (.cons ?_ (.cons ?_ .nil))))))))).2) (.cons (.int _ _) (.cons (.int _ _) .nil))
  · exact VR.argRow (σ := σ) (k := 0) hg.r0 rfl _
  · exact VR.argRow (σ := σ) (k := 1) hg.r1 rfl _
  · exact VR.argRow (σ := σ) (k := 2) hg.r2 rfl _
end Go.Proofs.YtcakklnacnnlaaaDoor
