/- FindWas: the whole. No condition of its own. -/
import Derived.Test.YtcakklnacnnlaaaDoorFindWasW
namespace Go.Proofs.YtcakklnacnnlaaaDoor
open Go.RowKit Go.Fld Go.Sx
set_option linter.unusedVariables false
set_option linter.unusedSimpArgs false
theorem fw_true (a b c d e k own : Int) (cs cF cp cl : Nat) (ns nf np nl : Nat) (si : Nat → Nat → Int) (sb : Nat → Nat → Bool) (fi : Nat → Nat → Int) (fb : Nat → Nat → Bool) (pi : Nat → Nat → Int) (pb : Nat → Nat → Bool) (gi : Nat → Nat → Int) (gb : Nat → Nat → Bool) (hR : RightC (confG a b c d e)) (hw : WrI gi nl) :
  (callV fwEnv 60 6 [.agg (mdG a b c d e ns cs nf cF np cp).toArray, .int .i64 k, .int .i64 own, .slice (some ⟨3, 0, some 2⟩) nl cl] (fwA ns nf np nl si sb fi fb pi pb gi gb)).run (Option Value) none (fun r => some r.1) = some (.bool true) := by
  rw [fw_all]
  by_cases h1 : (nl : Int) ≤ 20
  case neg => rw [decide_eq_false h1]; rfl
  rw [decide_eq_true h1]
  have hok := made_okM hR nf fi np pi ns si sb
  have hrc := rightC_iff.2 hR
  have hO : FwP.OK (fwStart (confG a b c d e) k own cl ns nf np nl si sb fi fb pi pb gi gb (madeL (confG a b c d e) nf fi np pi ns si sb)) := ⟨hR, hok, madeL_I _ _ _ _ _ _ _ _, by show nl ≤ 20; omega, hw⟩
  show (bt (mdC (confG a b c d e) ns nf np) _) = _
  rw [bt_of (by unfold mdC; rw [hrc, Nat.beq_refl, Nat.beq_refl, Nat.beq_refl]; rfl), bt_of (by rw [hrc, hok, Nat.beq_refl]; rfl)]
  unfold fwEnd
  rw [bt_of (sure_of ⟨rfl, rfl, hO⟩)]
theorem fw_walk (w : World) (hT : Tab w) {v : Value} {a b c d e : Int} {A0 A1 A2 : Option Addr} {n0 c0 n1 c1 n2 c2 : Nat} {R0 R1 R2 : Go.Sx.Rows} (hg : GivenA w v a b c d e A0 n0 c0 R0 A1 n1 c1 R1 A2 n2 c2 R2) (k own : Int)
    {A3 : Option Addr} {n3 c3 : Nat} {R3 : Go.Sx.Rows} (k3 : R3.ks = kWr) (r3 : ArgRow w A3 n3 c3 3 R3) :
    Calls Tryd.prog 6 #[v, .int .i64 k, .int .i64 own, .slice A3 n3 c3] w fun e w' => e = .returned (.bool true) ∧ Below w.heap.size w w' := by
  have hR := (confG_small hg.ha.1 hg.hb.1 hg.hc.1 hg.hd.1 hg.he.1).right
  have hw : WrI R3.gi n3 := fun i hi => ⟨U8_of_wf (r3.wf i 1 .u8 hi (by decide) (by rw [k3]; rfl)), I64_of_wf (r3.wf i 2 .i64 hi (by decide) (by rw [k3]; rfl))⟩
  obtain ⟨ks0, si, sb⟩ := R0
  obtain ⟨ks1, fi, fb⟩ := R1
  obtain ⟨ks2, pi, pb⟩ := R2
  obtain ⟨ks3, gi, gb⟩ := R3
  have q0 := hg.k0; have q1 := hg.k1; have q2 := hg.k2
  simp only at q0 q1 q2 k3
  subst q0 q1 q2 k3
  let L : List ArgE := [(A0, n0, c0, 9, ⟨kSlot, si, sb⟩), (A1, n1, c1, 1, ⟨[.it .u8], fi, fb⟩), (A2, n2, c2, 1, ⟨[.it .u8], pi, pb⟩), (A3, n3, c3, 3, ⟨kWr, gi, gb⟩)]
  let σ : Nat → Option Pl := fun k => (L[k]?).bind fun e : ArgE => plOf e.1 e.2.1 e.2.2.2.1
  have hL : ∀ e ∈ L, ArgRow w e.1 e.2.1 e.2.2.1 e.2.2.2.1 e.2.2.2.2 := by
    intro e he
    simp only [L, List.mem_cons, List.not_mem_nil, or_false] at he
    rcases he with rfl | rfl | rfl | rfl
    · exact hg.r0
    · exact hg.r1
    · exact hg.r2
    · exact r3
  have hr : HR (· < w.heap.size) w 0 σ ((L.map fun e : ArgE => (e.2.2.2.1, e.2.1, e.2.2.2.2)).map fun e => .rows false false e.1 e.2.1 e.2.2) w := args_hr _ (plOfs_some L hL)
  refine callV_start (fwEnv_ok _ w hT.lt (bnd_self w) hT) rfl (fw_true a b c d e k own c0 c1 c2 c3 n0 n1 n2 n3 si sb fi fb pi pb gi gb hR hw) rfl hr (VRA.of_list ?_)
  rw [hg.val]
  refine .cons (.agg rfl (VRA.of_list (.cons (.int _ _) (.cons (.int _ _) (.cons (.int _ _) (.cons (.int _ _) (.cons (.int _ _) (.cons ?_ (.cons ?_ (.cons ?_ .nil))))))))).2) (.cons (.int _ _) (.cons (.int _ _) (.cons ?_ .nil)))
  · exact VR.argRow (σ := σ) (k := 0) hg.r0 rfl _
  · exact VR.argRow (σ := σ) (k := 1) hg.r1 rfl _
  · exact VR.argRow (σ := σ) (k := 2) hg.r2 rfl _
  · exact VR.argRow (σ := σ) (k := 3) r3 rfl _
end Go.Proofs.YtcakklnacnnlaaaDoor
