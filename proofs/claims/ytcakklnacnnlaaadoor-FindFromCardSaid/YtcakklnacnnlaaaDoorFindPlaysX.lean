/- FindPlays: its walk. No condition of its own. -/
import Derived.Test.YtcakklnacnnlaaaDoorFindPlaysW
import Derived.Test.YtcakklnacnnlaaaDoorOpenA
namespace Go.Proofs.YtcakklnacnnlaaaDoor
open Go.RowKit Go.Fld Go.Sx
set_option linter.unusedVariables false
set_option linter.unusedSimpArgs false
/-- A call whose arguments came in. -/
theorem callV_start {E : Env} {w : World} (hE : EnvOK E (· < w.heap.size) w) (hG : E.G = 0) {fuel f : Nat} {args : List Value} {lh : List Go.Sx.Blk} {v : Value} (h : (callV E fuel f args lh).run (Option Value) none (fun r => some r.1) = some v) (hv : plain1 v = true)
    {σ : Nat → Option Pl} (hr : HR (· < w.heap.size) w 0 σ lh w) {args' : Array Value} (ha : VRA σ args.toArray args') : Calls E.P f args' w fun e w' => e = .returned v ∧ Below w.heap.size w w' := by
  rw [M.run_eq] at h
  cases hx : (callV E fuel f args lh).get with
  | none => rw [hx] at h; cases h
  | some r =>
    rw [hx] at h
    simp only [Option.elim_some, Option.some.injEq] at h
    have hc := (callV_ok hE hG hx).2
    rw [hG] at hc
    refine (hc σ w args' hr ha).mono fun e w' hh => ?_
    obtain ⟨v', rfl, σ', _, hvr, hr'⟩ := hh
    rw [h] at hvr
    rw [hvr.plain1_eq hv]
    exact ⟨rfl, hr'.below.below⟩
theorem maxA_eq (x : Int) : maxA x = maxB x := by unfold maxA maxB; split <;> split <;> omega
theorem fpIter_inv {cf : Cf} (hc : RightC cf) {k own : Int} {N nl : Nat} {gi ti : Nat → Nat → Int} (hw : WrI gi nl) {s : Fs} (H : FpInv cf N s.l s.q s.h) : ∀ i, FpInv cf N (fpIter cf k own N nl gi ti s i).l (fpIter cf k own N nl gi ti s i).q (fpIter cf k own N nl gi ti s i).h
  | 0 => H
  | i + 1 => fpNext_inv hc hw i (fpIter_inv hc hw H i)
theorem made_okM {cf : Cf} (h : RightC cf) (nf : Nat) (fi : Nat → Nat → Int) (np : Nat) (pi : Nat → Nat → Int) (ns : Nat) (si : Nat → Nat → Int) (sb : Nat → Nat → Bool) : okM (cntN cf) (madeL cf nf fi np pi ns si sb) = true :=
  okM_iff.2 ⟨(madeL_length cf nf fi np pi ns si sb).symm, by have := h.cntN; omega, by have := h.cntN; omega⟩
theorem fpFinal_of {p : FpP} (h : okM p.N p.z.l = true) : fpFinal p = some (.bool true) := by
  have hl : lenOK p.N p.z.l = true := by
    have hf := h
    unfold okM at hf
    rw [Bool.and_eq_true, Bool.and_eq_true] at hf
    unfold lenOK
    rw [hf.1.1, hf.2]; rfl
  unfold fpFinal
  rw [bt_of h, hl, bt_of (c := true && true) rfl, decide_eq_true rfl]
theorem fp_true (a b c d e k own from_ : Int) (cs cF cp cl ct : Nat) (ns nf np nl nt : Nat) (si : Nat → Nat → Int) (sb : Nat → Nat → Bool) (fi : Nat → Nat → Int) (fb : Nat → Nat → Bool) (pi : Nat → Nat → Int) (pb : Nat → Nat → Bool) (gi : Nat → Nat → Int) (gb : Nat → Nat → Bool) (ti : Nat → Nat → Int) (tb : Nat → Nat → Bool)
    (hR : RightC (confG a b c d e)) (hw : WrI gi nl) :
    (callV fpEnv 60 8 [.agg (mdG a b c d e ns cs nf cF np cp).toArray, .int .i64 k, .int .i64 own, .int .i64 from_, .slice (some ⟨3, 0, some 2⟩) nl cl, .slice (some ⟨4, 0, some 2⟩) nt ct] (fpA ns nf np nl nt si sb fi fb pi pb gi gb ti tb)).run (Option Value) none (fun r => some r.1) = some (.bool true) := by
  rw [fp_all]
  by_cases h1 : (nl : Int) ≤ 20
  case neg => rw [decide_eq_false h1]; rfl
  rw [decide_eq_true h1]
  by_cases h2 : (nt : Int) > 40
  case pos => rw [decide_eq_true h2]; rfl
  rw [decide_eq_false h2]
  have hok := made_okM hR nf fi np pi ns si sb
  have hrc := rightC_iff.2 hR
  obtain ⟨g1, g2⟩ := cpy_eq hok
  have hI : FpInv (confG a b c d e) (cntN (confG a b c d e)) (madeL (confG a b c d e) nf fi np pi ns si sb) ⟨maxA from_, 0, false⟩ ⟨maxB from_, 0, false⟩ :=
    ⟨hok, madeL_I _ _ _ _ _ _ _ _, maxA_eq _, rfl, fun h => (by cases h), by show 0 ≤ maxA from_; unfold maxA; split <;> omega, fun h => (by cases h)⟩
  have hA : fpAsk (fpStart (confG a b c d e) k own from_ ns nf np nl nt cl ct si sb fi fb pi pb gi gb ti tb (madeL (confG a b c d e) nf fi np pi ns si sb)) (cntN (confG a b c d e)) (madeL (confG a b c d e) nf fi np pi ns si sb) ⟨maxB from_, 0, false⟩ :=
    ⟨rfl, rfl, hR, by show nt ≤ 40; omega, by show nl ≤ 20; omega, hw, hI⟩
  have hz := fpIter_inv (k := k) (own := own) (ti := ti) (s := (fpStart (confG a b c d e) k own from_ ns nf np nl nt cl ct si sb fi fb pi pb gi gb ti tb (madeL (confG a b c d e) nf fi np pi ns si sb)).s) hR hw hI nt
  show (bt (mdC (confG a b c d e) ns nf np) _) = _
  rw [bt_of (by unfold mdC; rw [hrc, Nat.beq_refl, Nat.beq_refl, Nat.beq_refl]; rfl), bt_of (by rw [hrc, hok, Nat.beq_refl]; rfl), cpyM_of hok, g1, g2]
  unfold fpEnd
  rw [bt_of (sure_of hA)]
  exact fpFinal_of hz.ok
inductive VRL (σ : Nat → Option Pl) : List Value → List Value → Prop
  | nil : VRL σ [] []
  | cons {x y : Value} {l l' : List Value} (h : VR σ x y) (t : VRL σ l l') : VRL σ (x :: l) (y :: l')
theorem VRL.length {σ : Nat → Option Pl} {l l' : List Value} (h : VRL σ l l') : l.length = l'.length := by
  induction h with
  | nil => rfl
  | cons _ _ ih => rw [List.length_cons, List.length_cons, ih]
theorem VRL.at {σ : Nat → Option Pl} {l l' : List Value} (h : VRL σ l l') : ∀ (i : Nat) (x y : Value), l[i]? = some x → l'[i]? = some y → VR σ x y := by
  induction h with
  | nil => intro i x y hx; simp at hx
  | cons h0 _ ih =>
    intro i x y hx hy
    cases i with
    | zero => simp only [List.getElem?_cons_zero, Option.some.injEq] at hx hy; subst hx hy; exact h0
    | succ i => simp only [List.getElem?_cons_succ] at hx hy; exact ih i x y hx hy
theorem VRA.of_list {σ : Nat → Option Pl} {l l' : List Value} (h : VRL σ l l') : VRA σ l.toArray l'.toArray :=
  ⟨by simpa using h.length, fun i x y hx hy => h.at i x y (by simpa using hx) (by simpa using hy)⟩
theorem fp_walk (w : World) (hT : Tab w) {v : Value} {a b c d e : Int} {A0 A1 A2 : Option Addr} {n0 c0 n1 c1 n2 c2 : Nat} {R0 R1 R2 : Go.Sx.Rows} (hg : GivenA w v a b c d e A0 n0 c0 R0 A1 n1 c1 R1 A2 n2 c2 R2) (k own from_ : Int)
    {A3 A4 : Option Addr} {n3 c3 n4 c4 : Nat} {R3 R4 : Go.Sx.Rows} (k3 : R3.ks = kWr) (r3 : ArgRow w A3 n3 c3 3 R3) (k4 : R4.ks = [.it .u8]) (r4 : ArgRow w A4 n4 c4 1 R4) :
    Calls Tryd.prog 8 #[v, .int .i64 k, .int .i64 own, .int .i64 from_, .slice A3 n3 c3, .slice A4 n4 c4] w fun e w' => e = .returned (.bool true) ∧ Below w.heap.size w w' := by
  have hR := (confG_small hg.ha.1 hg.hb.1 hg.hc.1 hg.hd.1 hg.he.1).right
  have hw : WrI R3.gi n3 := fun i hi => ⟨U8_of_wf (r3.wf i 1 .u8 hi (by decide) (by rw [k3]; rfl)), I64_of_wf (r3.wf i 2 .i64 hi (by decide) (by rw [k3]; rfl))⟩
  obtain ⟨ks0, si, sb⟩ := R0
  obtain ⟨ks1, fi, fb⟩ := R1
  obtain ⟨ks2, pi, pb⟩ := R2
  obtain ⟨ks3, gi, gb⟩ := R3
  obtain ⟨ks4, ti, tb⟩ := R4
  have q0 := hg.k0; have q1 := hg.k1; have q2 := hg.k2
  simp only at q0 q1 q2 k3 k4
  subst q0 q1 q2 k3 k4
  let L : List ArgE := [(A0, n0, c0, 9, ⟨kSlot, si, sb⟩), (A1, n1, c1, 1, ⟨[.it .u8], fi, fb⟩), (A2, n2, c2, 1, ⟨[.it .u8], pi, pb⟩), (A3, n3, c3, 3, ⟨kWr, gi, gb⟩), (A4, n4, c4, 1, ⟨[.it .u8], ti, tb⟩)]
  let σ : Nat → Option Pl := fun k => (L[k]?).bind fun e : ArgE => plOf e.1 e.2.1 e.2.2.2.1
  have hL : ∀ e ∈ L, ArgRow w e.1 e.2.1 e.2.2.1 e.2.2.2.1 e.2.2.2.2 := by
    intro e he
    simp only [L, List.mem_cons, List.not_mem_nil, or_false] at he
    rcases he with rfl | rfl | rfl | rfl | rfl
    · exact hg.r0
    · exact hg.r1
    · exact hg.r2
    · exact r3
    · exact r4
  have hr : HR (· < w.heap.size) w 0 σ ((L.map fun e : ArgE => (e.2.2.2.1, e.2.1, e.2.2.2.2)).map fun e => .rows false false e.1 e.2.1 e.2.2) w := args_hr _ (plOfs_some L hL)
  refine callV_start (fpEnv_ok _ w hT.lt (bnd_self w) hT) rfl (fp_true a b c d e k own from_ c0 c1 c2 c3 c4 n0 n1 n2 n3 n4 si sb fi fb pi pb gi gb ti tb hR hw) rfl hr (VRA.of_list ?_)
  rw [hg.val]
  refine .cons (.agg rfl (VRA.of_list (.cons (.int _ _) (.cons (.int _ _) (.cons (.int _ _) (.cons (.int _ _) (.cons (.int _ _) (.cons ?_ (.cons ?_ (.cons ?_ .nil))))))))).2) (.cons (.int _ _) (.cons (.int _ _) (.cons (.int _ _) (.cons ?_ (.cons ?_ .nil)))))
  · exact VR.argRow (σ := σ) (k := 0) hg.r0 rfl _
  · exact VR.argRow (σ := σ) (k := 1) hg.r1 rfl _
  · exact VR.argRow (σ := σ) (k := 2) hg.r2 rfl _
  · exact VR.argRow (σ := σ) (k := 3) r3 rfl _
  · exact VR.argRow (σ := σ) (k := 4) r4 rfl _
end Go.Proofs.YtcakklnacnnlaaaDoor
