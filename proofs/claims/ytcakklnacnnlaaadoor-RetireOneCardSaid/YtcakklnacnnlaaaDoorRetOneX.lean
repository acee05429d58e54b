/- RetireOne: the whole. No condition of its own. -/
import Derived.Test.YtcakklnacnnlaaaDoorRetOneV
import Derived.Test.YtcakklnacnnlaaaDoorRetOneY
namespace Go.Proofs.YtcakklnacnnlaaaDoor
open Go.RowKit Go.Fld Go.Sx
set_option linter.unusedVariables false
set_option linter.unusedSimpArgs false
theorem roDone_eq (f : R1s) (hx : f.x.dn = true) (hy : f.y.dn = true) : f = roDone f.l f.t f.x.cell f.x.word f.x.ep f.y.cell f.y.word f.y.ep f.x.f f.y.f f.x.sw f.y.sw := by
  obtain ⟨l, t, ⟨a, b, c, d, e, g⟩, ⟨a', b', c', d', e', g'⟩⟩ := f
  simp only at hx hy
  subst hx hy
  rfl
/-- What comes of the race. -/
structure RoFin (cf : Cf) (l0 : List Int) (i : Int) (f : R1s) : Prop where
  ok : okM (cntN cf) f.l = true
  x : f.x.dn = true
  y : f.y.dn = true
  is : (decA (ldS (cntN cf) f.l (cellC cf i))).isSome = true
  fin : roFin f.x.sw f.y.sw (cntN cf) l0 f.l (roZ cf l0 i) (slt0 (decA (ldS (cntN cf) f.l (cellC cf i)))) = isT
  nn : ¬ (f.x.sw = true ∧ f.y.sw = true)
theorem dec_I {w : Int} {s : Slt} (h : decS w = some s) : I64i w := by
  have := (dec_enc s w (enc_of_dec h)).2
  exact ⟨by omega, by omega⟩
theorem ro_fin {cf : Cf} (hc : RightC cf) {l : List Int} (hok : okM (cntN cf) l = true) (hI : AllI l) (hD : SlotsD cf l) (he : 0 ≤ l.getD 2 0 ∧ l.getD 2 0 ≤ 255) {i : Nat} (hi : (i : Int) < cf.s) (T : Tv) : RoFin cf l i (r1Both (cntN cf) (r1Iter (cntN cf) T (roS cf l i) T.nt) 4) := by
  obtain ⟨e1, e2, e3, e4⟩ := slotCell_in hc hi
  obtain ⟨g1, _, _⟩ := okM_iff.1 hok
  have hw := hc.w
  have hN := hc.cntN
  have hs0 : R1ok (cntN cf) (roS cf l i) := ⟨hok, rfl, rfl⟩
  obtain ⟨fx, fy⟩ := both_end (hs0.iter T T.nt)
  have hC : CellAt (cntN cf) l (cellC cf i) (cellC cf i).toNat := ⟨by omega, g1, e4⟩
  have hd := hD i hi
  obtain ⟨s0, hs⟩ := Option.isSome_iff_exists.1 hd
  have F := dec_facts hs
  have hz : roZ cf l i = s0 := by unfold roZ; rw [Nat.zero_add, decA_eq _ (dec_I hs), hs]; rfl
  have hok' : ∀ {f : R1s}, f = r1Both (cntN cf) (r1Iter (cntN cf) T (roS cf l i) T.nt) 4 → okM (cntN cf) f.l = true := fun hf => by rw [hf]; exact ((hs0.iter T T.nt).both 4).ok
  obtain ⟨f, hf⟩ : ∃ f, f = r1Both (cntN cf) (r1Iter (cntN cf) T (roS cf l i) T.nt) 4 := ⟨_, rfl⟩
  have hokf := hok' hf
  rw [← hf] at fx fy ⊢
  have hlen : ∀ {m : List Int}, okM (cntN cf) m = true → lenOK (cntN cf) m = true := fun h => lenOK_okM h
  by_cases h23 : s0.st = 2 ∨ s0.st = 3
  · -- one wins
    have hn1 := next_retire F (more := 4095) (by decide) (by decide)
    rw [if_pos h23] at hn1
    obtain ⟨w1, a1, d1⟩ := aft_of hs hn1
    have F1 := dec_facts d1
    have hn2 := next_age F1 (more := l.getD 2 0) he.1 (by omega)
    rw [if_pos rfl] at hn2
    obtain ⟨w2, a2, d2⟩ := aft_of d1 hn2
    have hv := F.ver
    let R : Race := ⟨cntN cf, l, cellC cf i, (cellC cf i).toNat, l.getD (cellC cf i).toNat 0, w1, w2, l.getD 2 0⟩
    have hR : R.OK := ⟨hC, by show (cellC cf i).toNat ≠ 2; omega, by show 2 < cntN cf; omega, rfl, rfl, he, a1, a2, dec_ne d1 hs (by show (s0.ver + 1) % 32768 ≠ s0.ver; omega), dec_ne d2 hs (by show ((s0.ver + 1) % 32768 + 1) % 32768 ≠ s0.ver; omega)⟩
    have hfr : Fresh R (roQ cf l i) := ⟨rfl, by show l.getD (0 + (cellC cf i).toNat) 0 = _; rw [Nat.zero_add], rfl, rfl⟩
    have hrace : RaceInv R f := by
      rw [hf]
      exact race_all (P := RaceInv R) (.inl ⟨rfl, hfr, hfr⟩) (fun s h => race_X hR h) (fun s h => race_Y hR h)
    have hl3 : f.l = R.l3 → ldS (cntN cf) f.l (cellC cf i) = w2 ∧ ldS (cntN cf) f.l 2 = l.getD 2 0 + 1 := fun hl => by
      have c1 : CellAt (cntN cf) R.l3 (cellC cf i) (cellC cf i).toNat := (hC.set _ _).set _ _
      have c2 : CellAt (cntN cf) R.l3 2 2 := ⟨rfl, by unfold Race.l3; simp only [List.length_set]; exact g1, by omega⟩
      rw [hl, c1.ld, c2.ld]
      refine ⟨?_, ?_⟩
      · unfold Race.l3
        rw [getD_set_ne (by show (2 : Nat) ≠ (cellC cf i).toNat; omega), getD_set_eq (by show (cellC cf i).toNat < l.length; omega)]
      · unfold Race.l3
        rw [getD_set_eq (by rw [List.length_set]; show 2 < l.length; omega)]
    have hlast : f.l = R.l3 → roLast (cntN cf) l f.l (roZ cf l i) (slt0 (decA (ldS (cntN cf) f.l (cellC cf i)))) = isT ∧ (decA (ldS (cntN cf) f.l (cellC cf i))).isSome = true := fun hl => by
      obtain ⟨q1, q2⟩ := hl3 hl
      rw [q1, decA_eq _ (dec_I d2), d2]
      refine ⟨?_, rfl⟩
      unfold roLast
      rw [ep2_of hc hok, ep2_of hc hok, bt_of hokf, bt_of hokf, q2, hz, w64_in (x := l.getD (0 + Int.toNat 2) 0 + 1) ⟨by show _ ≤ l.getD 2 0 + 1; omega, by show l.getD 2 0 + 1 ≤ _; omega⟩]
      show (bif decide (l.getD 2 0 ≥ l.getD 2 0) then (bif (l.getD 2 0 + 1 == l.getD 2 0 + 1) then (bif decide (l.getD 2 0 < l.getD 2 0 + 1) then some (Value.bool (s0.gen == s0.gen)) else isF) else isF) else isF) = isT
      rw [decide_eq_true (by omega), decide_eq_true (by omega), beq_self_eq_true, beq_self_eq_true]; rfl
    have hfin : ∀ a b : Bool, a ≠ b → f.l = R.l3 → roFin a b (cntN cf) l f.l (roZ cf l i) (slt0 (decA (ldS (cntN cf) f.l (cellC cf i)))) = isT := fun a b hab hl => by
      have h1 := (hlast hl).1
      have hst : (roZ cf l i).st = 2 ∨ (roZ cf l i).st = 3 := by rw [hz]; exact h23
      have h2 : (bif (roZ cf l i).st != 2 then (bif (roZ cf l i).st != 3 then isF else roLast (cntN cf) l f.l (roZ cf l i) (slt0 (decA (ldS (cntN cf) f.l (cellC cf i))))) else roLast (cntN cf) l f.l (roZ cf l i) (slt0 (decA (ldS (cntN cf) f.l (cellC cf i))))) = isT := by
        rw [h1]
        rcases hst with e | e <;> rw [e] <;> rfl
      cases a <;> cases b
      · exact absurd rfl hab
      · exact h2
      · exact h2
      · exact absurd rfl hab
    rcases hrace with ⟨_, hx, _⟩ | ⟨hx, hy⟩ | ⟨hy, hx⟩
    · have := hx.f; rw [fx] at this; exact absurd this (by decide)
    · obtain ⟨d, hl⟩ := win_end hx fx
      have sx : f.x.sw = true := hx.sw
      have sy : f.y.sw = false := hy.sw
      refine ⟨hokf, d, lose_end hy fy, (hlast hl).2, ?_, fun h => by rw [sy] at h; cases h.2⟩
      rw [sx, sy]
      exact hfin true false (by decide) hl
    · obtain ⟨d, hl⟩ := win_end hy fy
      have sy : f.y.sw = true := hy.sw
      have sx : f.x.sw = false := hx.sw
      refine ⟨hokf, lose_end hx fx, d, (hlast hl).2, ?_, fun h => by rw [sx] at h; cases h.1⟩
      rw [sx, sy]
      exact hfin false true (by decide) hl
  · -- nothing to retire
    have hn1 := next_retire F (more := 4095) (by decide) (by decide)
    rw [if_neg h23] at hn1
    have a1 := aft_none hs hn1
    have hid : Idle0 (l.getD (cellC cf i).toNat 0) (roQ cf l i) := ⟨by show l.getD (0 + (cellC cf i).toNat) 0 = _; rw [Nat.zero_add], rfl, .inl rfl⟩
    have hp : f.l = l ∧ Idle0 (l.getD (cellC cf i).toNat 0) f.x ∧ Idle0 (l.getD (cellC cf i).toNat 0) f.y := by
      rw [hf]
      refine race_all (P := fun s => s.l = l ∧ Idle0 (l.getD (cellC cf i).toNat 0) s.x ∧ Idle0 (l.getD (cellC cf i).toNat 0) s.y) ⟨rfl, hid, hid⟩ (fun s h => ?_) fun s h => ?_
      · obtain ⟨k1, k2⟩ := idle_step a1 (cntN cf) s.l h.2.1
        exact ⟨k1.trans h.1, k2, h.2.2⟩
      · obtain ⟨k1, k2⟩ := idle_step a1 (cntN cf) s.l h.2.2
        exact ⟨k1.trans h.1, h.2.1, k2⟩
    obtain ⟨p1, p2, p3⟩ := hp
    have sx : f.x.sw = false := p2.sw
    have sy : f.y.sw = false := p3.sw
    have hld : ldS (cntN cf) f.l (cellC cf i) = l.getD (cellC cf i).toNat 0 := by rw [p1]; exact hC.ld
    refine ⟨hokf, idle_dn p2 fx, idle_dn p3 fy, by rw [hld, decA_eq _ (dec_I hs)]; exact hd, ?_, fun h => by rw [sx] at h; cases h.1⟩
    rw [sx, sy, p1, hz]
    show (bif s0.st != 2 then (bif s0.st != 3 then roSame (cntN cf) l l else isF) else isF) = isT
    have b2 : (s0.st != 2) = true := by simp only [bne_iff_ne]; omega
    have b3 : (s0.st != 3) = true := by simp only [bne_iff_ne]; omega
    rw [b2, b3]
    unfold roSame
    rw [bt_of hok, bt_of (by rw [hlen hok]; rfl), decide_eq_true rfl]; rfl
theorem roTop_of {G : Gv} (hG : G.OK) {T : Tv} {at_ : Int} {V1 : List Value} {H1 : List Go.Sx.Blk} {K : Option Value} (hn : ¬ (T.nt : Int) > 10) {i : Nat} (hi : atI G.cf.s at_ = i) (his : (i : Int) < G.cf.s)
    (hV : V1 = roV T (cntN G.cf) i 0) (hH : H1 = roH G T G.cf (cntN G.cf) (cntN G.cf) G.l (roZ G.cf G.l i) (roS G.cf G.l i)) : roTop G T at_ V1 H1 K = K := by
  unfold roTop
  rw [decide_eq_false hn, hi, bt_of hG.made, noS_of hG.right, ixC_of hG.right hG.okM his, bt_of hG.ld, hV, hH, bt_of (isIt_refl _ _)]; rfl
theorem roTop_big {G : Gv} {T : Tv} {at_ : Int} {V1 : List Value} {H1 : List Go.Sx.Blk} {K : Option Value} (hn : (T.nt : Int) > 10) : roTop G T at_ V1 H1 K = isT := by
  unfold roTop
  rw [decide_eq_true hn]; rfl
theorem ro_go (w : World) (hT : Tab w) (G : Gv) (hG : G.OK) (at_ : Int) (ha : 0 ≤ at_ ∧ at_ ≤ 255) (nt ct : Nat) (ti : Nat → Nat → Int) (tb : Nat → Nat → Bool) {σ : Nat → Option Pl} (hr : HR (· < w.heap.size) w 0 σ (roA G ⟨nt, ct, ti, tb⟩) w)
    {args' : Array Value} (hv : VRA σ [G.val, .int .u8 at_, .slice (some ⟨3, 0, some 2⟩) nt ct].toArray args') : Calls Tryd.prog 10 args' w fun e w' => e = .returned (.bool true) ∧ Below w.heap.size w w' := by
  have hc := hG.right
  obtain ⟨i, hi, his⟩ := atI_in (m := G.cf.s) hc.s.1 ha
  obtain ⟨T, hTv⟩ : ∃ T : Tv, T = ⟨nt, ct, ti, tb⟩ := ⟨_, rfl⟩
  have hs0 : R1ok (cntN G.cf) (roS G.cf G.l i) := ⟨hG.okM, rfl, rfl⟩
  obtain ⟨T', hT', hTT⟩ : ∃ T' : Tv, T'.nt ≤ 10 ∧ (¬ (T.nt : Int) > 10 → T' = T) := by
    by_cases hn : (T.nt : Int) > 10
    · exact ⟨⟨0, 0, ti, tb⟩, by show 0 ≤ 10; omega, fun h => absurd hn h⟩
    · exact ⟨T, by omega, fun _ => rfl⟩
  have hE := roEnv_ok G T' G.cf (cntN G.cf) (cntN G.cf) G.l (roZ G.cf G.l i) (roS G.cf G.l i) i hs0 hT' _ w hT.lt (bnd_self w) hT
  have hF := ro_fin hc hG.okM hG.I hG.D hG.ep his T'
  obtain ⟨f, hf⟩ : ∃ f, f = r1Both (cntN G.cf) (r1Iter (cntN G.cf) T' (roS G.cf G.l i) T'.nt) 4 := ⟨_, rfl⟩
  rw [← hf] at hE hF
  have hfe := roDone_eq f hF.x hF.y
  obtain ⟨a, hax⟩ : ∃ a, a = f.x.sw := ⟨_, rfl⟩
  obtain ⟨b, hby⟩ : ∃ b, b = f.y.sw := ⟨_, rfl⟩
  have hfin := hF.fin
  have hnn := hF.nn
  have hK : bt (sure (isIt (roV2 (cntN G.cf) i 0) (roH G T' G.cf (cntN G.cf) (cntN G.cf) G.l (roZ G.cf G.l i) (r1Iter (cntN G.cf) T' (roS G.cf G.l i) T'.nt)) (roV2 (cntN G.cf) i 0) (roH G T' G.cf (cntN G.cf) (cntN G.cf) G.l (roZ G.cf G.l i) (r1Iter (cntN G.cf) T' (roS G.cf G.l i) T'.nt))))
      (bt (okM (cntN G.cf) f.l) (bif !(decA (ldS (cntN G.cf) f.l (cellC G.cf i))).isSome then isF else roFin a b (cntN G.cf) G.l f.l (roZ G.cf G.l i) (slt0 (decA (ldS (cntN G.cf) f.l (cellC G.cf i)))))) = isT := by
    rw [bt_of (isIt_refl _ _), bt_of hF.ok, hF.is, hax, hby, hfin]; rfl
  rw [hfe, ← hax, ← hby] at hE
  rw [← hax, ← hby] at hnn
  have hrun : (callV (roEnv (roV T' (cntN G.cf) i 0) (roH G T' G.cf (cntN G.cf) (cntN G.cf) G.l (roZ G.cf G.l i) (roS G.cf G.l i)) (.normal, roV3 (cntN G.cf) i, roH G T' G.cf (cntN G.cf) (cntN G.cf) G.l (roZ G.cf G.l i) (r1Iter (cntN G.cf) T' (roS G.cf G.l i) T'.nt)) (roV2 (cntN G.cf) i 0) (roH G T' G.cf (cntN G.cf) (cntN G.cf) G.l (roZ G.cf G.l i) (r1Iter (cntN G.cf) T' (roS G.cf G.l i) T'.nt))
      (.normal, roV3 (cntN G.cf) i, roH G T' G.cf (cntN G.cf) (cntN G.cf) G.l (roZ G.cf G.l i) (roDone f.l f.t f.x.cell f.x.word f.x.ep f.y.cell f.y.word f.y.ep f.x.f f.y.f a b))) 60 10 [G.val, .int .u8 at_, .slice (some ⟨3, 0, some 2⟩) T.nt T.ct] (roA G T)).run (Option Value) none (fun r => some r.1) = some (.bool true) := by
    by_cases hn : (T.nt : Int) > 10
    · cases a <;> cases b
      · rw [ro_ff]; exact roTop_big hn
      · rw [ro_ft]; exact roTop_big hn
      · rw [ro_tf]; exact roTop_big hn
      · exact absurd ⟨rfl, rfl⟩ hnn
    · have e := hTT hn
      subst e
      cases a <;> cases b
      · rw [ro_ff, roTop_of hG hn hi his rfl rfl]; exact hK
      · rw [ro_ft, roTop_of hG hn hi his rfl rfl]; exact hK
      · rw [ro_tf, roTop_of hG hn hi his rfl rfl]; exact hK
      · exact absurd ⟨rfl, rfl⟩ hnn
  subst hTv
  exact callV_start hE rfl hrun rfl hr hv
theorem ro_walk (w : World) (hT : Tab w) {v : Value} {a b c d e : Int} {A0 A1 A2 : Option Addr} {n0 c0 n1 c1 n2 c2 : Nat} {R0 R1 R2 : Go.Sx.Rows} (hg : GivenA w v a b c d e A0 n0 c0 R0 A1 n1 c1 R1 A2 n2 c2 R2) (x1 : Int) (b1 : 0 ≤ x1 ∧ x1 ≤ 255) {B2 : Option Addr} {m2 q2 : Nat} {S2 : Go.Sx.Rows} (k2 : S2.ks = [.bo]) (r2 : ArgRow w B2 m2 q2 1 S2) :
    Calls Tryd.prog 10 #[v, .int .u8 x1, .slice B2 m2 q2] w fun e w' => e = .returned (.bool true) ∧ Below w.heap.size w w' := by
  have hval := hg.val
  have hfi : ∀ i, i < n1 → 0 ≤ R1.gi i 0 ∧ R1.gi i 0 ≤ 255 := fun i hi => U8_of_wf (hg.r1.wf i 0 .u8 hi (by decide) (by rw [hg.k1]; rfl))
  have q0 := hg.k0; have q1 := hg.k1; have q2 := hg.k2
  obtain ⟨ks0, R0gi, R0gb⟩ := R0
  obtain ⟨ks1, R1gi, R1gb⟩ := R1
  obtain ⟨ks2, R2gi, R2gb⟩ := R2
  simp only at q0 q1 q2
  subst q0 q1 q2
  let G : Gv := ⟨n0, n1, n2, c0, c1, c2, R0gi, R1gi, R2gi, R0gb, R1gb, R2gb, a, b, c, d, e⟩
  have hG : G.OK := ⟨hg.ha, hg.hb, hg.hc, hg.hd, hg.he, hfi⟩
  obtain ⟨ks2, S2gi, S2gb⟩ := S2
  simp only at k2
  subst k2
  let L : List ArgE := [(A0, n0, c0, 9, ⟨kSlot, R0gi, R0gb⟩), (A1, n1, c1, 1, ⟨[.it .u8], R1gi, R1gb⟩), (A2, n2, c2, 1, ⟨[.it .u8], R2gi, R2gb⟩), (B2, m2, q2, 1, ⟨[.bo], S2gi, S2gb⟩)]
  let σ : Nat → Option Pl := fun k => (L[k]?).bind fun e : ArgE => plOf e.1 e.2.1 e.2.2.2.1
  have hL : ∀ e ∈ L, ArgRow w e.1 e.2.1 e.2.2.1 e.2.2.2.1 e.2.2.2.2 := by
    intro e he
    simp only [L, List.mem_cons, List.not_mem_nil, or_false] at he
    rcases he with rfl | rfl | rfl | rfl
    · exact hg.r0
    · exact hg.r1
    · exact hg.r2
    · exact r2
  have hr : HR (· < w.heap.size) w 0 σ ((L.map fun e : ArgE => (e.2.2.2.1, e.2.1, e.2.2.2.2)).map fun e => .rows false false e.1 e.2.1 e.2.2) w := args_hr _ (plOfs_some L hL)
  rw [hval]
  refine ro_go w hT G hG x1 b1 m2 q2 S2gi S2gb hr (VRA.of_list ?_)
  exact .cons (.agg rfl (VRA.of_list (.cons (.int _ _) (.cons (.int _ _) (.cons (.int _ _) (.cons (.int _ _) (.cons (.int _ _) (.cons (VR.argRow (σ := σ) (k := 0) hg.r0 rfl _) (.cons (VR.argRow (σ := σ) (k := 1) hg.r1 rfl _) (.cons (VR.argRow (σ := σ) (k := 2) hg.r2 rfl _) .nil))))))))).2) (.cons (.int _ _) (.cons (VR.argRow (σ := σ) (k := 3) r2 rfl _) .nil))
end Go.Proofs.YtcakklnacnnlaaaDoor
