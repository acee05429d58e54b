/- RetirePlays: the whole. No condition of its own. -/
import Derived.Test.YtcakklnacnnlaaaDoorRetPlaysW
namespace Go.Proofs.YtcakklnacnnlaaaDoor
open Go.RowKit Go.Fld Go.Sx
set_option linter.unusedVariables false
set_option linter.unusedSimpArgs false
def rpStart (G : Gv) (W : Wv) (i word : Int) : RpP := ⟨⟨G.ns, G.nf, G.np, 0, 0, 0, G.si, G.fi, G.pi, G.sb, G.fb, G.pb, 0, 0, 0, 0, 0⟩, W, cntN G.cf, cntN G.cf, ⟨cntN G.cf, 0, G.l, ⟨cellC G.cf i, word, 0, fSwap, false, false⟩, ⟨G.cf, i, word, 0, 0, false, false⟩⟩⟩
def rpAsk (p : RpP) (N' : Nat) (l' : List Int) : Prop := rpV p.W 0 = p.V ∧ rpA p.G p.W ++ [.cells true true [.slice (some ⟨8, 0, none⟩) p.N p.C, .int .i64 p.s.tp], rqB 5 p.s.q, .cells true true [.slice (some ⟨9, 0, some 1⟩) N' 0, .int .i64 p.s.tr], rrB p.s.h, .ints true true p.s.l, .ints true true l'] = p.H ∧ p.OK
noncomputable def rpGo (G : Gv) (W : Wv) (i word : Int) : Option Value := bt (ldG G.cf G.l) (cpyM (cntN G.cf) G.l (bt (sure (rpAsk (rpStart G W i word) (cpyN (cntN G.cf) G.l) (cpyL (cntN G.cf) G.l))) isT))
theorem rp_all (G : Gv) (W : Wv) (at_ : Int) (has : Bool) (word : Int) :
  (callV rpEnv 60 12 [G.val, .int .u8 at_, .bool has, .int .i64 word, W.val 3] (rpA G W)).run (Option Value) none (fun r => some r.1) =
    bif decide ((W.nl : Int) > 20) then isT else bt (mdC G.cf G.ns G.nf G.np) (noS G.cf (bif has then ixC G.cf G.l (atI G.cf.s at_) (rpGo G W (atI G.cf.s at_) (G.l.getD (0 + (cellC G.cf (atI G.cf.s at_)).toNat) 0)) else rpGo G W (atI G.cf.s at_) word)) := by kernel_rfl
theorem rpGo_true (G : Gv) (hG : G.OK) (W : Wv) (hl : W.nl ≤ 20) (hw : WrI W.gi W.nl) (i word : Int) (hwd : I64i word) : rpGo G W i word = isT := by
  obtain ⟨g1, g2⟩ := cpy_eq hG.okM
  unfold rpGo
  rw [bt_of hG.ld, cpyM_of hG.okM, g1, g2]
  have hI : RpInv (cntN G.cf) G.l ⟨cellC G.cf i, word, 0, fSwap, false, false⟩ ⟨G.cf, i, word, 0, 0, false, false⟩ := ⟨hG.okM, hG.I, rfl, rfl, rfl, .inl ⟨rfl, rfl, rfl, rfl, rfl, hwd⟩⟩
  rw [bt_of (sure_of ⟨rfl, rfl, hl, hw, hI⟩)]
theorem rp_true (G : Gv) (hG : G.OK) (at_ : Int) (ha : 0 ≤ at_ ∧ at_ ≤ 255) (has : Bool) (word : Int) (hwd : I64i word) (W : Wv) (hw : WrI W.gi W.nl) :
  (callV rpEnv 60 12 [G.val, .int .u8 at_, .bool has, .int .i64 word, W.val 3] (rpA G W)).run (Option Value) none (fun r => some r.1) = some (.bool true) := by
  rw [rp_all]
  by_cases h1 : (W.nl : Int) > 20
  · rw [decide_eq_true h1]; rfl
  rw [decide_eq_false h1, bt_of hG.made, noS_of hG.right]
  have hl : W.nl ≤ 20 := by omega
  obtain ⟨i, hi, his⟩ := atI_in (m := G.cf.s) hG.right.s.1 ha
  have hx : I64i (G.l.getD (0 + (cellC G.cf i).toNat) 0) := by
    obtain ⟨e1, e2, e3, e4⟩ := slotCell_in hG.right his
    have := hG.I.ld (cntN G.cf) (cellC G.cf i)
    unfold ldS at this
    rw [if_pos e2] at this
    rw [Nat.zero_add]; exact this
  cases has with
  | true => rw [hi, ixC_of hG.right hG.okM his, rpGo_true G hG W hl hw _ _ hx]; rfl
  | false => rw [rpGo_true G hG W hl hw _ _ hwd]; rfl
theorem rp_walk (w : World) (hT : Tab w) {v : Value} {a b c d e : Int} {A0 A1 A2 : Option Addr} {n0 c0 n1 c1 n2 c2 : Nat} {R0 R1 R2 : Go.Sx.Rows} (hg : GivenA w v a b c d e A0 n0 c0 R0 A1 n1 c1 R1 A2 n2 c2 R2) (x1 : Int) (b1 : 0 ≤ x1 ∧ x1 ≤ 255) (x2 : Bool) (x3 : Int) (b3 : -9223372036854775808 ≤ x3 ∧ x3 ≤ 9223372036854775807) {B4 : Option Addr} {m4 q4 : Nat} {S4 : Go.Sx.Rows} (k4 : S4.ks = kWr) (r4 : ArgRow w B4 m4 q4 3 S4) :
    Calls Tryd.prog 12 #[v, .int .u8 x1, .bool x2, .int .i64 x3, .slice B4 m4 q4] w fun e w' => e = .returned (.bool true) ∧ Below w.heap.size w w' := by
  have hw4 : WrI S4.gi m4 := fun i hi => ⟨U8_of_wf (r4.wf i 1 .u8 hi (by decide) (by rw [k4]; rfl)), I64_of_wf (r4.wf i 2 .i64 hi (by decide) (by rw [k4]; rfl))⟩
  have hval := hg.val
  have q0 := hg.k0; have q1 := hg.k1; have q2 := hg.k2
  obtain ⟨ks0, R0gi, R0gb⟩ := R0
  obtain ⟨ks1, R1gi, R1gb⟩ := R1
  obtain ⟨ks2, R2gi, R2gb⟩ := R2
  simp only at q0 q1 q2
  subst q0 q1 q2
  let G : Gv := ⟨n0, n1, n2, c0, c1, c2, R0gi, R1gi, R2gi, R0gb, R1gb, R2gb, a, b, c, d, e⟩
  have hG : G.OK := ⟨hg.ha, hg.hb, hg.hc, hg.hd, hg.he⟩
  obtain ⟨ks4, S4gi, S4gb⟩ := S4
  simp only at k4
  subst k4
  let L : List ArgE := [(A0, n0, c0, 9, ⟨kSlot, R0gi, R0gb⟩), (A1, n1, c1, 1, ⟨[.it .u8], R1gi, R1gb⟩), (A2, n2, c2, 1, ⟨[.it .u8], R2gi, R2gb⟩), (B4, m4, q4, 3, ⟨kWr, S4gi, S4gb⟩)]
  let σ : Nat → Option Pl := fun k => (L[k]?).bind fun e : ArgE => plOf e.1 e.2.1 e.2.2.2.1
  have hL : ∀ e ∈ L, ArgRow w e.1 e.2.1 e.2.2.1 e.2.2.2.1 e.2.2.2.2 := by
    intro e he
    simp only [L, List.mem_cons, List.not_mem_nil, or_false] at he
    rcases he with rfl | rfl | rfl | rfl
    · exact hg.r0
    · exact hg.r1
    · exact hg.r2
    · exact r4
  have hr : HR (· < w.heap.size) w 0 σ ((L.map fun e : ArgE => (e.2.2.2.1, e.2.1, e.2.2.2.2)).map fun e => .rows false false e.1 e.2.1 e.2.2) w := args_hr _ (plOfs_some L hL)
  refine callV_start (rpEnv_ok _ w hT.lt (bnd_self w) hT) rfl (rp_true G hG x1 b1 x2 x3 b3 ⟨m4, q4, S4gi, S4gb⟩ hw4) rfl hr (VRA.of_list ?_)
  rw [hval]
  exact .cons (.agg rfl (VRA.of_list (.cons (.int _ _) (.cons (.int _ _) (.cons (.int _ _) (.cons (.int _ _) (.cons (.int _ _) (.cons (VR.argRow (σ := σ) (k := 0) hg.r0 rfl _) (.cons (VR.argRow (σ := σ) (k := 1) hg.r1 rfl _) (.cons (VR.argRow (σ := σ) (k := 2) hg.r2 rfl _) .nil))))))))).2) (.cons (.int _ _) (.cons (.bool _) (.cons (.int _ _) (.cons (VR.argRow (σ := σ) (k := 3) r4 rfl _) .nil))))
end Go.Proofs.YtcakklnacnnlaaaDoor
