
/- GiveOnce: the whole. No condition of its own. -/
import Derived.Test.YthfoljgaiincdaaDoorGiveOnceW
import Derived.Test.YthfoljgaiincdaaDoorGiveOnceY
namespace Go.Proofs.YthfoljgaiincdaaDoor
open Go.RowKit Go.Fld Go.Sx
set_option linter.unusedVariables false
set_option linter.unusedSimpArgs false
theorem goTop_of {G : Gv} (hG : G.OK) {at_ : Int} {disc : Bool} {i : Nat} (hi : atI G.cf.s at_ = i) (his : (i : Int) < G.cf.s) (h3 : (slD G.cf G.l i).st = 3) (ho : (slD G.cf G.l i).own < G.cf.w) {K : Option Value} :
    goTop G at_ disc (goV0 (goA0 G disc i) 0) (goHN G (goA0 G disc i) (cntN G.cf) (cntN G.cf) (cntN G.cf) G.l (goQ G.cf (slD G.cf G.l i) i disc) (goQ G.cf (slD G.cf G.l i) i disc)) K = K := by
  have hs := hG.right.s
  unfold goTop
  rw [bt_of hG.made, noS_of hG.right, bt_of hG.ld, hi, ixS (by omega), bt_of hG.ld, Int.toNat_natCast, h3, bne_self_eq_false, cond_false, decide_eq_false (by omega), cond_false, bt_of (isIt_refl _ _)]
/-- The two runs put together. -/
theorem go_asm (w : World) (hT : Tab w) {G : Gv} (hG : G.OK) {at_ : Int} {disc : Bool} {i : Nat} (hi : atI G.cf.s at_ = i) (his : (i : Int) < G.cf.s) (h3 : (slD G.cf G.l i).st = 3) (ho : (slD G.cf G.l i).own < G.cf.w)
    {n : Nat} {t' : Int} {l' : List Int} {x y z : Gq} {H0' : List Go.Sx.Blk} {e f : Int} (hok' : okM (cntN G.cf) l' = true) (hx : x.e = e)
    (h0 : GoLp 0 [2, 7, 8, 9, 10, 11, 12, 13, 14, 15] [2, 7, 8, 9, 10, 11, 12, 13, 14, 15] (goV0 (goA0 G disc i) 0) (goHN G (goA0 G disc i) (cntN G.cf) (cntN G.cf) (cntN G.cf) G.l (goQ G.cf (slD G.cf G.l i) i disc) (goQ G.cf (slD G.cf G.l i) i disc)) (.normal, goV0 (goA0 G disc i) n, H0'))
    (h2 : GoLp 2 [2, 7, 8, 9, 10, 11, 12, 14, 15, 16, 18] [2, 7, 8, 9, 10, 11, 14, 16, 18] (goV2 (goA0 G disc i) G.cf.s.toNat n e) (goH2 G (goA0 G disc i) (cntN G.cf) (cntN G.cf) G.cf.s.toNat (slD G.cf l') t' l' y) (goO2 G (goA0 G disc i) G.cf.s.toNat (slD G.cf l') (gEnd z f) e))
    (heq : ∀ (V0 : List Value) (H0 : List Go.Sx.Blk) (V2 : List Value) (H2 : List Go.Sx.Blk), (callV (goEnv V0 H0 (.normal, goV0 (goA0 G disc i) n, H0') V2 H2 (goO2 G (goA0 G disc i) G.cf.s.toNat (slD G.cf l') (gEnd z f) e)) 60 11 [G.val, .int .u8 at_, .bool disc] (goA G)).run (Option Value) none (fun r => some r.1) = goTop G at_ disc V0 H0 (goMid G (goA0 G disc i) (goA0 G disc i) (cntN G.cf) (cntN G.cf) G.cf.s.toNat (slD G.cf l') t' l' x y n e f V2 H2))
    (hfin : goFin (goA0 G disc i) G.cf.s.toNat (slD G.cf l') e f = isT) {σ : Nat → Option Pl} (hr : HR (· < w.heap.size) w 0 σ (goA G) w)
    {args' : Array Value} (hv : VRA σ [G.val, .int .u8 at_, .bool disc].toArray args') : Calls Tryd.prog 11 args' w fun e w' => e = .returned (.bool true) ∧ Below w.heap.size w w' := by
  refine callV_start (fuel := 60) (goEnv_ok h0 h2 _ w hT.lt (bnd_self w) hT) rfl ?_ rfl hr hv
  rw [heq, goTop_of hG hi his h3 ho]
  unfold goMid
  rw [bt_of hok', bt_of (by rw [show rightC (goA0 G disc i).cf = true from hG.rightC, hok', show Nat.beq (cntN G.cf) (cntN (goA0 G disc i).cf) = true from Nat.beq_refl _]; rfl), hx]
  have e1 : isIt (goV2 (goA0 G disc i) (goA0 G disc i).cf.s.toNat n e) (goH2 G (goA0 G disc i) (cntN G.cf) (cntN G.cf) (goA0 G disc i).cf.s.toNat (slD (goA0 G disc i).cf l') t' l' y) (goV2 (goA0 G disc i) G.cf.s.toNat n e) (goH2 G (goA0 G disc i) (cntN G.cf) (cntN G.cf) G.cf.s.toNat (slD G.cf l') t' l' y) := ⟨rfl, rfl⟩
  rw [bt_of (sure_of e1), hfin]; rfl
theorem tail_eq {l : List Int} {x : Int} (h0 : 0 < l.length) (h : l.getD 0 0 = x) : l = x :: l.tail := by
  cases l with
  | nil => exact absurd h0 (by simp)
  | cons a r => rw [show a = x from h]; rfl
/-- The words of a slot's cell, and of others, behind a swap. -/
theorem slD_at {cf : Cf} {l : List Int} {i : Nat} {s : Slt} (h : decS (l.getD (cellC cf i).toNat 0) = some s) : slD cf l i = s := by
  unfold slD
  rw [decA_eq _ (dec_I h), h]; rfl
theorem goK_true {S : Nat} {D : Nat → Slt} {i : Nat} {s : Slt} (hi : i < S) (h6 : (D i).st = 6) (hg : (D i).gen = s.gen) : goK S D i s 0 2 true = isT := by
  unfold goK goLast
  have q1 : (s.gen == s.gen) = true := by simp
  rw [ixS hi, ixS hi, ixS hi, ixS hi, Int.toNat_natCast, h6, hg, q1]; rfl
theorem goK_false {S : Nat} {D : Nat → Slt} {i : Nat} {s : Slt} (hi : i < S) (h2 : (D i).st = 2) (ho : (D i).own = s.own) (hg : (D i).gen = s.gen) : goK S D i s 0 2 false = isT := by
  unfold goK goLast
  have q1 : (s.gen == s.gen) = true := by simp
  have q2 : (s.own != s.own) = false := by simp
  rw [ixS hi, ixS hi, ixS hi, ixS hi, Int.toNat_natCast, h2, ho, hg, q1, q2]; rfl
theorem go_goes (w : World) (hT : Tab w) (G : Gv) (hG : G.OK) (at_ : Int) (ha : 0 ≤ at_ ∧ at_ ≤ 255) (disc : Bool) {i : Nat} (hi : atI G.cf.s at_ = i) (his : (i : Int) < G.cf.s) {s : Slt} (hs : decS (G.l.getD (cellC G.cf i).toNat 0) = some s) (h3 : s.st = 3) (how : s.own < G.cf.w)
    {c : Int} (hcl : G.l.getD 0 0 = c) (hc2 : c ≠ 2) (hc01 : c = 0 ∨ c = 1) (hb : (s.str != 0 && !disc) = false) (hgo : (disc || (s.brk || (decide (s.uses ≥ G.cf.u) || c != 0))) = true)
    {l3 : List Int} {w0 w2 : Int} {t2 : Slt} {t4 : Int} {r4 : Rq} (hok3 : okM (cntN G.cf) l3 = true) (hz0 : l3.getD 0 0 = c) (hw2 : l3.getD (cellC G.cf i).toNat 0 = w2) (d2 : decS w2 = some t2) (ht6 : t2.st = 6) (htg : t2.gen = s.gen)
    (h0 : GoLp 0 [2, 7, 8, 9, 10, 11, 12, 13, 14, 15] [2, 7, 8, 9, 10, 11, 12, 13, 14, 15] (goV0 (goA0 G disc i) 0) (goHN G (goA0 G disc i) (cntN G.cf) (cntN G.cf) (cntN G.cf) G.l (goQ G.cf s i disc) (goQ G.cf s i disc)) (.normal, goV0 (goA0 G disc i) (5 : Nat), goHR G (goA0 G disc i) (cntN G.cf) (cntN G.cf) t4 l3 (gEnd (gAt (gWd (gAt (gCl (goQ G.cf s i disc) c) 1) w0) 3) 0) (goQ G.cf s i disc) r4))
    {σ : Nat → Option Pl} (hr : HR (· < w.heap.size) w 0 σ (goA G) w)
    {args' : Array Value} (hv : VRA σ [G.val, .int .u8 at_, .bool disc].toArray args') : Calls Tryd.prog 11 args' w fun e w' => e = .returned (.bool true) ∧ Below w.heap.size w w' := by
  have hc := hG.right
  have hok := hG.okM
  obtain ⟨e1, e2, e3, e4⟩ := slotCell_in hc his
  obtain ⟨g1, g2, _⟩ := okM_iff.1 hok
  have hw := hc.w
  have hS := hc.s
  have hN := hc.cntN
  have hsl := slD_at hs
  have F := dec_facts hs
  have h3' : (slD G.cf G.l i).st = 3 := by rw [hsl]; exact h3
  have how' : (slD G.cf G.l i).own < G.cf.w := by rw [hsl]; exact how
  have hC : CellAt (cntN G.cf) G.l (cellC G.cf i) (cellC G.cf i).toNat := ⟨by omega, g1, e4⟩
  have hC0 : CellAt (cntN G.cf) G.l 0 0 := ⟨rfl, g1, by omega⟩
  have hcl0 : ldS (cntN G.cf) G.l 0 = c := hC0.ld.trans hcl
  have hcell : ¬ gCell (goQ G.cf s i disc) < 0 := by show ¬ cellC G.cf i < 0; omega
  have hwd : ldS (cntN G.cf) G.l (gCell (goQ G.cf s i disc)) = G.l.getD (cellC G.cf i).toNat 0 := hC.ld
  have hiS : i < G.cf.s.toNat := by omega
  have hq : goQ G.cf (slD G.cf G.l i) i disc = goQ G.cf s i disc := by rw [hsl]
  have hA : goA0 G disc i = ⟨disc, cntN G.cf, i, G.cf, c :: G.l.tail, ⟨s.st, s.own, s.str, s.brk, s.mrk, s.uses, s.gen, s.ep, s.ver⟩⟩ := by
    unfold goA0
    rw [← tail_eq (by omega) hcl, Int.toNat_natCast, hsl]
  have hlook : lookC (decS (G.l.getD (cellC G.cf i).toNat 0)) (gAt (gCl (goQ G.cf s i disc) c) 1) = bif s.str != 0 && !disc then 1 else bif disc || (s.brk || (decide (s.uses ≥ G.cf.u) || c != 0)) then 2 else 3 := by
    rw [hs]; exact look_own h3 rfl rfl
  have d2' : decS (l3.getD (cellC G.cf i).toNat 0) = some t2 := by rw [hw2]; exact d2
  have hsl3 := slD_at d2'
  have hfs : (goA0 G disc i).s = s := by show slD G.cf G.l (i : Int).toNat = s; rw [Int.toNat_natCast]; exact hsl
  have y0 : (goQ G.cf s i disc).st = 0 := rfl
  have hcb : (c == 2) = false := beq_eq_false_iff_ne.2 hc2
  have fin : ∀ {D : Nat → Slt} {e f : Int}, goFin (goA0 G disc i) G.cf.s.toNat D e f = bif s.str != 0 then (bif !disc then goAll G.cf.s.toNat D i s e f 8 else goG (goA0 G disc i) G.cf.s.toNat D e f) else goG (goA0 G disc i) G.cf.s.toNat D e f := fun {D e f} => by
    unfold goFin
    rw [show (goA0 G disc i).l0 = G.l from rfl, show (goA0 G disc i).N = cntN G.cf from rfl, ep0_of hc hok, show G.l.getD (0 + Int.toNat 0) 0 = c from hcl, hcb, hfs]; rfl
  have finG : ∀ {D : Nat → Slt} {e f : Int}, goG (goA0 G disc i) G.cf.s.toNat D e f = bif disc then goK G.cf.s.toNat D i s e f true else bif s.brk then goK G.cf.s.toNat D i s e f true else bif decide (s.uses ≥ G.cf.u) then goK G.cf.s.toNat D i s e f true else goK G.cf.s.toNat D i s e f (c != 0) := fun {D e f} => by
    unfold goG
    rw [show (goA0 G disc i).l0 = G.l from rfl, show (goA0 G disc i).N = cntN G.cf from rfl, ep0_of hc hok, show G.l.getD (0 + Int.toNat 0) 0 = c from hcl, hfs]; rfl
  obtain ⟨l3l, _, _⟩ := okM_iff.1 hok3
  have c3 : CellAt (cntN G.cf) l3 (cellC G.cf i) (cellC G.cf i).toNat := ⟨hC.hc, l3l, hC.lt⟩
  have c30 : CellAt (cntN G.cf) l3 0 0 := ⟨rfl, l3l, hC0.lt⟩
  have h2 := y_look G (goA0 G disc i) (cntN G.cf) G.cf.s.toNat (slD G.cf l3) t4 (q := goQ G.cf s i disc) (n := 5) 0 (by decide) hok3 y0
    (c30.ld.trans hz0) hc2 hcell (show ldS (cntN G.cf) l3 (gCell (goQ G.cf s i disc)) = w2 from c3.ld.trans hw2) (k := 0) (by rw [d2]; exact look_not (by rw [ht6]; decide)) (.inl rfl)
  have hK : goK G.cf.s.toNat (slD G.cf l3) i s 0 2 true = isT := goK_true hiS (by rw [hsl3]; exact ht6) (by rw [hsl3]; exact htg)
  rw [← hq] at h0
  refine go_asm (x := gEnd (gAt (gWd (gAt (gCl (goQ G.cf s i disc) c) 1) w0) 3) 0) (y := goQ G.cf s i disc) (z := gWd (gAt (gCl (goQ G.cf s i disc) c) 1) w2) (e := 0) (f := 2) (n := 5) w hT hG hi his h3' how' hok3 rfl h0 h2 (fun V0 H0 V2 H2 => ?_) ?_ hr hv
  · rw [hq]
    cases disc with
    | true =>
      rcases hc01 with rfl | rfl
      · have := go_allD0 G at_ s.str s.brk V0 H0 V2 H2 (goA0 G true i) (cntN G.cf) i G.cf G.l.tail s.st s.own s.mrk s.uses s.gen s.ep s.ver (cntN G.cf) (cntN G.cf) G.cf.s.toNat (slD G.cf l3) t4 l3 (gEnd (gAt (gWd (gAt (gCl (goQ G.cf s i true) 0) 1) w0) 3) 0) (goQ G.cf s i true) (gWd (gAt (gCl (goQ G.cf s i true) 0) 1) w2) r4 (5 : Nat)
        rw [← hA] at this
        exact this
      · have := go_allD1 G at_ s.str s.brk V0 H0 V2 H2 (goA0 G true i) (cntN G.cf) i G.cf G.l.tail s.st s.own s.mrk s.uses s.gen s.ep s.ver (cntN G.cf) (cntN G.cf) G.cf.s.toNat (slD G.cf l3) t4 l3 (gEnd (gAt (gWd (gAt (gCl (goQ G.cf s i true) 1) 1) w0) 3) 0) (goQ G.cf s i true) (gWd (gAt (gCl (goQ G.cf s i true) 1) 1) w2) r4 (5 : Nat)
        rw [← hA] at this
        exact this
    | false =>
      have hstr : s.str = 0 := by
        rw [Bool.not_false, Bool.and_true] at hb
        simpa using hb
      rw [hstr] at hA
      cases hbrk : s.brk with
      | true =>
        rw [hbrk] at hA
        rcases hc01 with rfl | rfl
        · have := go_allK0 G at_ V0 H0 V2 H2 (goA0 G false i) (cntN G.cf) i G.cf G.l.tail s.st s.own s.mrk s.uses s.gen s.ep s.ver (cntN G.cf) (cntN G.cf) G.cf.s.toNat (slD G.cf l3) t4 l3 (gEnd (gAt (gWd (gAt (gCl (goQ G.cf s i false) 0) 1) w0) 3) 0) (goQ G.cf s i false) (gWd (gAt (gCl (goQ G.cf s i false) 0) 1) w2) r4 (5 : Nat)
          rw [← hA] at this
          exact this
        · have := go_allK1 G at_ V0 H0 V2 H2 (goA0 G false i) (cntN G.cf) i G.cf G.l.tail s.st s.own s.mrk s.uses s.gen s.ep s.ver (cntN G.cf) (cntN G.cf) G.cf.s.toNat (slD G.cf l3) t4 l3 (gEnd (gAt (gWd (gAt (gCl (goQ G.cf s i false) 1) 1) w0) 3) 0) (goQ G.cf s i false) (gWd (gAt (gCl (goQ G.cf s i false) 1) 1) w2) r4 (5 : Nat)
          rw [← hA] at this
          exact this
      | false =>
        rw [hbrk] at hA
        rcases hc01 with rfl | rfl
        · have := go_allU G at_ V0 H0 V2 H2 (goA0 G false i) (cntN G.cf) i G.cf G.l.tail s.st s.own s.mrk s.uses s.gen s.ep s.ver (cntN G.cf) (cntN G.cf) G.cf.s.toNat (slD G.cf l3) t4 l3 (gEnd (gAt (gWd (gAt (gCl (goQ G.cf s i false) 0) 1) w0) 3) 0) (goQ G.cf s i false) (gWd (gAt (gCl (goQ G.cf s i false) 0) 1) w2) r4 (5 : Nat)
          rw [← hA] at this
          exact this
        · have := go_allL G at_ V0 H0 V2 H2 (goA0 G false i) (cntN G.cf) i G.cf G.l.tail s.st s.own s.mrk s.uses s.gen s.ep s.ver (cntN G.cf) (cntN G.cf) G.cf.s.toNat (slD G.cf l3) t4 l3 (gEnd (gAt (gWd (gAt (gCl (goQ G.cf s i false) 1) 1) w0) 3) 0) (goQ G.cf s i false) (gWd (gAt (gCl (goQ G.cf s i false) 1) 1) w2) r4 (5 : Nat)
          rw [← hA] at this
          exact this
  · have hgK : goG (goA0 G disc i) G.cf.s.toNat (slD G.cf l3) 0 2 = isT := by
      rw [finG, hK]
      cases disc with
      | true => rfl
      | false =>
        cases hbrk : s.brk with
        | true => rfl
        | false =>
          cases hu : decide (s.uses ≥ G.cf.u) with
          | true => rfl
          | false =>
            rw [hbrk, hu] at hgo
            have hne : (c != 0) = true := by simpa using hgo
            rw [hne, hK]; rfl
    show goFin (goA0 G disc i) G.cf.s.toNat (slD G.cf l3) 0 2 = isT
    rw [fin, hgK]
    cases disc with
    | true => cases (s.str != 0) <;> rfl
    | false =>
      rw [Bool.not_false, Bool.and_true] at hb
      rw [hb]; rfl
set_option maxRecDepth 20000 in
theorem go_open (w : World) (hT : Tab w) (G : Gv) (hG : G.OK) (at_ : Int) (ha : 0 ≤ at_ ∧ at_ ≤ 255) (disc : Bool) {i : Nat} (hi : atI G.cf.s at_ = i) (his : (i : Int) < G.cf.s) {s : Slt} (hs : decS (G.l.getD (cellC G.cf i).toNat 0) = some s) (h3 : s.st = 3) (how : s.own < G.cf.w)
    {c : Int} (hcl : G.l.getD 0 0 = c) (hc2 : c ≠ 2) (hc01 : c = 0 ∨ c = 1) {σ : Nat → Option Pl} (hr : HR (· < w.heap.size) w 0 σ (goA G) w)
    {args' : Array Value} (hv : VRA σ [G.val, .int .u8 at_, .bool disc].toArray args') : Calls Tryd.prog 11 args' w fun e w' => e = .returned (.bool true) ∧ Below w.heap.size w w' := by
  have hc := hG.right
  have hok := hG.okM
  obtain ⟨e1, e2, e3, e4⟩ := slotCell_in hc his
  obtain ⟨g1, g2, _⟩ := okM_iff.1 hok
  have hw := hc.w
  have hS := hc.s
  have hN := hc.cntN
  have hsl := slD_at hs
  have F := dec_facts hs
  have h3' : (slD G.cf G.l i).st = 3 := by rw [hsl]; exact h3
  have how' : (slD G.cf G.l i).own < G.cf.w := by rw [hsl]; exact how
  have hC : CellAt (cntN G.cf) G.l (cellC G.cf i) (cellC G.cf i).toNat := ⟨by omega, g1, e4⟩
  have hC0 : CellAt (cntN G.cf) G.l 0 0 := ⟨rfl, g1, by omega⟩
  have hcl0 : ldS (cntN G.cf) G.l 0 = c := hC0.ld.trans hcl
  have hcell : ¬ gCell (goQ G.cf s i disc) < 0 := by show ¬ cellC G.cf i < 0; omega
  have hwd : ldS (cntN G.cf) G.l (gCell (goQ G.cf s i disc)) = G.l.getD (cellC G.cf i).toNat 0 := hC.ld
  have hiS : i < G.cf.s.toNat := by omega
  have hq : goQ G.cf (slD G.cf G.l i) i disc = goQ G.cf s i disc := by rw [hsl]
  have hA : goA0 G disc i = ⟨disc, cntN G.cf, i, G.cf, c :: G.l.tail, ⟨s.st, s.own, s.str, s.brk, s.mrk, s.uses, s.gen, s.ep, s.ver⟩⟩ := by
    unfold goA0
    rw [← tail_eq (by omega) hcl, Int.toNat_natCast, hsl]
  have hlook : lookC (decS (G.l.getD (cellC G.cf i).toNat 0)) (gAt (gCl (goQ G.cf s i disc) c) 1) = bif s.str != 0 && !disc then 1 else bif disc || (s.brk || (decide (s.uses ≥ G.cf.u) || c != 0)) then 2 else 3 := by
    rw [hs]; exact look_own h3 rfl rfl
  have hfs : (goA0 G disc i).s = s := by show slD G.cf G.l (i : Int).toNat = s; rw [Int.toNat_natCast]; exact hsl
  have y0 : (goQ G.cf s i disc).st = 0 := rfl
  have hcb : (c == 2) = false := beq_eq_false_iff_ne.2 hc2
  have fin : ∀ {D : Nat → Slt} {e f : Int}, goFin (goA0 G disc i) G.cf.s.toNat D e f = bif s.str != 0 then (bif !disc then goAll G.cf.s.toNat D i s e f 8 else goG (goA0 G disc i) G.cf.s.toNat D e f) else goG (goA0 G disc i) G.cf.s.toNat D e f := fun {D e f} => by
    unfold goFin
    rw [show (goA0 G disc i).l0 = G.l from rfl, show (goA0 G disc i).N = cntN G.cf from rfl, ep0_of hc hok, show G.l.getD (0 + Int.toNat 0) 0 = c from hcl, hcb, hfs]; rfl
  have finG : ∀ {D : Nat → Slt} {e f : Int}, goG (goA0 G disc i) G.cf.s.toNat D e f = bif disc then goK G.cf.s.toNat D i s e f true else bif s.brk then goK G.cf.s.toNat D i s e f true else bif decide (s.uses ≥ G.cf.u) then goK G.cf.s.toNat D i s e f true else goK G.cf.s.toNat D i s e f (c != 0) := fun {D e f} => by
    unfold goG
    rw [show (goA0 G disc i).l0 = G.l from rfl, show (goA0 G disc i).N = cntN G.cf from rfl, ep0_of hc hok, show G.l.getD (0 + Int.toNat 0) 0 = c from hcl, hfs]; rfl
  cases hb : (s.str != 0 && !disc) with
  | true =>
    -- busy
    rw [Bool.and_eq_true, Bool.not_eq_true'] at hb
    obtain ⟨hb1, rfl⟩ := hb
    have hb2 : s.str ≠ 0 := bne_iff_ne.1 hb1
    obtain ⟨k, hk⟩ : ∃ k : Nat, s.str = ((k + 1 : Nat) : Int) := ⟨(s.str - 1).toNat, by have := F.str; omega⟩
    have hl1 : lookC (decS (G.l.getD (cellC G.cf i).toNat 0)) (gAt (gCl (goQ G.cf s i false) c) 1) = 1 := by rw [hlook, hb1]; rfl
    have h0 := x_busy G (goA0 G false i) (cntN G.cf) (cntN G.cf) (goQ G.cf s i false) hok y0 hcl0 hc2 hcell hwd hl1
    have h2 := y_look G (goA0 G false i) (cntN G.cf) G.cf.s.toNat (slD G.cf G.l) (gtch (cntN G.cf) (gAt (gCl (goQ G.cf s i false) c) 1) (gtch (cntN G.cf) (goQ G.cf s i false) (cntN G.cf))) (n := 1) 8 (by decide) hok y0 hcl0 hc2 hcell hwd hl1 (.inr rfl)
    rw [← hq] at h0
    refine go_asm (x := gEnd (gWd (gAt (gCl (goQ G.cf s i false) c) 1) (G.l.getD (cellC G.cf i).toNat 0)) 8) (y := goQ G.cf s i false) (z := gWd (gAt (gCl (goQ G.cf s i false) c) 1) (G.l.getD (cellC G.cf i).toNat 0)) (e := 8) (f := 8) (n := 1) w hT hG hi his h3' how' hok rfl h0 h2 (fun V0 H0 V2 H2 => ?_) ?_ hr hv
    · rw [hk] at hA
      rw [hq]
      rcases hc01 with rfl | rfl
      · have := go_allB0 G at_ k s.brk V0 H0 V2 H2 (goA0 G false i) (cntN G.cf) i G.cf G.l.tail s.st s.own s.mrk s.uses s.gen s.ep s.ver (cntN G.cf) (cntN G.cf) G.cf.s.toNat (slD G.cf G.l) (gtch (cntN G.cf) (gAt (gCl (goQ G.cf s i false) 0) 1) (gtch (cntN G.cf) (goQ G.cf s i false) (cntN G.cf))) G.l (gEnd (gWd (gAt (gCl (goQ G.cf s i false) 0) 1) (G.l.getD (cellC G.cf i).toNat 0)) 8) (goQ G.cf s i false) (gWd (gAt (gCl (goQ G.cf s i false) 0) 1) (G.l.getD (cellC G.cf i).toNat 0)) (1 : Nat)
        rw [← hA] at this
        exact this
      · have := go_allB1 G at_ k s.brk V0 H0 V2 H2 (goA0 G false i) (cntN G.cf) i G.cf G.l.tail s.st s.own s.mrk s.uses s.gen s.ep s.ver (cntN G.cf) (cntN G.cf) G.cf.s.toNat (slD G.cf G.l) (gtch (cntN G.cf) (gAt (gCl (goQ G.cf s i false) 1) 1) (gtch (cntN G.cf) (goQ G.cf s i false) (cntN G.cf))) G.l (gEnd (gWd (gAt (gCl (goQ G.cf s i false) 1) 1) (G.l.getD (cellC G.cf i).toNat 0)) 8) (goQ G.cf s i false) (gWd (gAt (gCl (goQ G.cf s i false) 1) 1) (G.l.getD (cellC G.cf i).toNat 0)) (1 : Nat)
        rw [← hA] at this
        exact this
    · rw [fin, hb1]
      show goAll G.cf.s.toNat (slD G.cf G.l) i s 8 8 8 = isT
      unfold goAll
      rw [ixS hiS, Int.toNat_natCast, hsl, beqS_refl]; rfl
  | false =>
    cases hgo : disc || (s.brk || (decide (s.uses ≥ G.cf.u) || c != 0)) with
    | false =>
      -- it rests
      simp only [Bool.or_eq_false_iff] at hgo
      obtain ⟨rfl, hbrk, huses, hc0⟩ := hgo
      have hc0 : c = 0 := by simpa using hc0
      subst hc0
      have hstr : s.str = 0 := by
        rw [Bool.not_false, Bool.and_true] at hb
        simpa using hb
      obtain ⟨w1, a1, d1⟩ := aft_of hs (next_rest F h3 hstr)
      have hl3 : lookC (decS (G.l.getD (cellC G.cf i).toNat 0)) (gAt (gCl (goQ G.cf s i false) 0) 1) = 3 := by rw [hlook, hb, hbrk, huses]; rfl
      obtain ⟨k1, k2⟩ := hC.cas_yes rfl w1
      have hln : (cellC G.cf i).toNat < G.l.length := by omega
      have h0 := x_rest G (goA0 G false i) (cntN G.cf) (cntN G.cf) (goQ G.cf s i false) hok y0 hcl0 hc2 hcell hwd hl3 a1 k1
      rw [show casS (cntN G.cf) G.l (gCell (goQ G.cf s i false)) (G.l.getD (cellC G.cf i).toNat 0) w1 = G.l.set (cellC G.cf i).toNat w1 from k2] at h0
      have hok1 : okM (cntN G.cf) (G.l.set (cellC G.cf i).toNat w1) = true := okM_len hok (List.length_set ..)
      have hw1 : (G.l.set (cellC G.cf i).toNat w1).getD (cellC G.cf i).toNat 0 = w1 := getD_set_eq hln w1
      have d1' : decS ((G.l.set (cellC G.cf i).toNat w1).getD (cellC G.cf i).toNat 0) = some { s with st := 2, ver := (s.ver + 1) % 32768 } := by rw [hw1]; exact d1
      have hsl1 := slD_at d1'
      have h2 := y_look G (goA0 G false i) (cntN G.cf) G.cf.s.toNat (slD G.cf (G.l.set (cellC G.cf i).toNat w1)) (gtch (cntN G.cf) (gAt (gWd (gAt (gCl (goQ G.cf s i false) 0) 1) (G.l.getD (cellC G.cf i).toNat 0)) 2) (gtch (cntN G.cf) (gAt (gCl (goQ G.cf s i false) 0) 1) (gtch (cntN G.cf) (goQ G.cf s i false) (cntN G.cf)))) (q := goQ G.cf s i false) (n := 2) 0 (by decide) hok1 y0
        (show ldS (cntN G.cf) (G.l.set (cellC G.cf i).toNat w1) 0 = 0 by rw [(hC0.set _ _).ld, getD_set_ne (by omega)]; exact hcl) hc2 hcell (show ldS (cntN G.cf) (G.l.set (cellC G.cf i).toNat w1) (gCell (goQ G.cf s i false)) = w1 from (hC.set _ _).ld.trans hw1) (k := 0) (by rw [d1]; exact look_not (by show (2 : Int) ≠ 3; decide)) (.inl rfl)
      rw [← hq] at h0
      refine go_asm (x := gEnd (gAt (gWd (gAt (gCl (goQ G.cf s i false) 0) 1) (G.l.getD (cellC G.cf i).toNat 0)) 2) 0) (y := goQ G.cf s i false) (z := gWd (gAt (gCl (goQ G.cf s i false) 0) 1) w1) (e := 0) (f := 2) (n := 2) w hT hG hi his h3' how' hok1 rfl h0 h2 (fun V0 H0 V2 H2 => ?_) ?_ hr hv
      · rw [hstr, hbrk] at hA
        rw [hq]
        have := go_allR G at_ V0 H0 V2 H2 (goA0 G false i) (cntN G.cf) i G.cf G.l.tail s.st s.own s.mrk s.uses s.gen s.ep s.ver (cntN G.cf) (cntN G.cf) G.cf.s.toNat (slD G.cf (G.l.set (cellC G.cf i).toNat w1)) (gtch (cntN G.cf) (gAt (gWd (gAt (gCl (goQ G.cf s i false) 0) 1) (G.l.getD (cellC G.cf i).toNat 0)) 2) (gtch (cntN G.cf) (gAt (gCl (goQ G.cf s i false) 0) 1) (gtch (cntN G.cf) (goQ G.cf s i false) (cntN G.cf)))) (G.l.set (cellC G.cf i).toNat w1) (gEnd (gAt (gWd (gAt (gCl (goQ G.cf s i false) 0) 1) (G.l.getD (cellC G.cf i).toNat 0)) 2) 0) (goQ G.cf s i false) (gWd (gAt (gCl (goQ G.cf s i false) 0) 1) w1) (2 : Nat)
        rw [← hA] at this
        exact this
      · rw [fin, finG, hstr, hbrk, huses]
        show goK G.cf.s.toNat (slD G.cf (G.l.set (cellC G.cf i).toNat w1)) i s 0 2 false = isT
        exact goK_false hiS (by rw [hsl1]) (by rw [hsl1]) (by rw [hsl1])
    | true =>
      -- it goes
      have hl2 : lookC (decS (G.l.getD (cellC G.cf i).toNat 0)) (gAt (gCl (goQ G.cf s i disc) c) 1) = 2 := by rw [hlook, hb, hgo]; rfl
      have hep := hG.ep
      have hn1 := next_retire F (more := 4095) (by decide) (by decide)
      rw [if_pos (.inr h3)] at hn1
      obtain ⟨w1, a1, d1⟩ := aft_of hs hn1
      have F1 := dec_facts d1
      have hn2 := next_age F1 (more := G.l.getD 2 0) hep.1 (by omega)
      rw [if_pos rfl] at hn2
      obtain ⟨w2, a2, d2⟩ := aft_of d1 hn2
      have hver := F.ver
      let R : Race := ⟨cntN G.cf, G.l, cellC G.cf i, (cellC G.cf i).toNat, G.l.getD (cellC G.cf i).toNat 0, w1, w2, G.l.getD 2 0⟩
      have hR : R.OK := ⟨hC, by show (cellC G.cf i).toNat ≠ 2; omega, by show 2 < cntN G.cf; omega, rfl, rfl, hep, a1, a2, dec_ne d1 hs (by show (s.ver + 1) % 32768 ≠ s.ver; omega), dec_ne d2 hs (by show ((s.ver + 1) % 32768 + 1) % 32768 ≠ s.ver; omega)⟩
      obtain ⟨r4, t4, h0⟩ := x_goes G (goA0 G disc i) hR (cntN G.cf) (cntN G.cf) (goQ G.cf s i disc) hok y0 hcl0 hc2 hcell rfl hl2
      have hok3 : okM (cntN G.cf) R.l3 = true := okM_len hok (by unfold Race.l3; simp only [List.length_set]; rfl)
      have hln : (cellC G.cf i).toNat < G.l.length := by omega
      have hw2 : R.l3.getD (cellC G.cf i).toNat 0 = w2 := by
        unfold Race.l3
        rw [getD_set_ne (by omega), getD_set_eq (by show (cellC G.cf i).toNat < G.l.length; omega)]
      have hz0 : R.l3.getD 0 0 = c := by
        unfold Race.l3
        rw [getD_set_ne (by decide), getD_set_ne (by show (cellC G.cf i).toNat ≠ 0; omega)]
        exact hcl
      exact go_goes w hT G hG at_ ha disc hi his hs h3 how hcl hc2 hc01 hb hgo hok3 hz0 hw2 d2 rfl rfl h0 hr hv
theorem go_go (w : World) (hT : Tab w) (G : Gv) (hG : G.OK) (at_ : Int) (ha : 0 ≤ at_ ∧ at_ ≤ 255) (disc : Bool) {σ : Nat → Option Pl} (hr : HR (· < w.heap.size) w 0 σ (goA G) w)
    {args' : Array Value} (hv : VRA σ [G.val, .int .u8 at_, .bool disc].toArray args') : Calls Tryd.prog 11 args' w fun e w' => e = .returned (.bool true) ∧ Below w.heap.size w w' := by
  have hc := hG.right
  have hok := hG.okM
  obtain ⟨i, hi, his⟩ := atI_in (m := G.cf.s) hc.s.1 ha
  obtain ⟨e1, e2, e3, e4⟩ := slotCell_in hc his
  obtain ⟨g1, g2, _⟩ := okM_iff.1 hok
  have hw := hc.w
  have hS := hc.s
  have hN := hc.cntN
  obtain ⟨s, hs⟩ := Option.isSome_iff_exists.1 (hG.D i his)
  have hsl := slD_at hs
  have F := dec_facts hs
  by_cases hl : s.st = 3 ∧ s.own < G.cf.w
  case neg =>
    refine callV_start (fuel := 60) (goEnvN_ok _ w hT.lt (bnd_self w) hT) rfl ?_ rfl hr hv
    rw [go_none, bt_of hG.made, noS_of hc, bt_of hG.ld, hi, ixS (by omega), bt_of hG.ld, Int.toNat_natCast, hsl]
    by_cases h3 : s.st = 3
    · rw [h3, bne_self_eq_false, cond_false, decide_eq_true (by have := fun h => hl ⟨h3, h⟩; omega)]; rfl
    · rw [show (s.st != 3) = true from bne_iff_ne.2 h3]; rfl
  obtain ⟨h3, how⟩ := hl
  have h3' : (slD G.cf G.l i).st = 3 := by rw [hsl]; exact h3
  have how' : (slD G.cf G.l i).own < G.cf.w := by rw [hsl]; exact how
  have hC : CellAt (cntN G.cf) G.l (cellC G.cf i) (cellC G.cf i).toNat := ⟨by omega, g1, e4⟩
  have hC0 : CellAt (cntN G.cf) G.l 0 0 := ⟨rfl, g1, by omega⟩
  have hcl0 : ldS (cntN G.cf) G.l 0 = G.l.getD 0 0 := hC0.ld
  have hcell : ¬ gCell (goQ G.cf s i disc) < 0 := by show ¬ cellC G.cf i < 0; omega
  have hwd : ldS (cntN G.cf) G.l (gCell (goQ G.cf s i disc)) = G.l.getD (cellC G.cf i).toNat 0 := hC.ld
  have hiS : i < G.cf.s.toNat := by omega
  have hq : goQ G.cf (slD G.cf G.l i) i disc = goQ G.cf s i disc := by rw [hsl]
  have hA0 : ∀ {c : Int}, G.l.getD 0 0 = c → goA0 G disc i = ⟨disc, cntN G.cf, i, G.cf, c :: G.l.tail, ⟨s.st, s.own, s.str, s.brk, s.mrk, s.uses, s.gen, s.ep, s.ver⟩⟩ := fun h => by
    unfold goA0
    rw [← tail_eq (by omega) h, Int.toNat_natCast, hsl]
  have hlook : ∀ c : Int, lookC (decS (G.l.getD (cellC G.cf i).toNat 0)) (gAt (gCl (goQ G.cf s i disc) c) 1) = bif s.str != 0 && !disc then 1 else bif disc || (s.brk || (decide (s.uses ≥ G.cf.u) || c != 0)) then 2 else 3 := fun c => by
    rw [hs]; exact look_own h3 rfl rfl
  have hfa : (goA0 G disc i).l0 = G.l := rfl
  have hfs : (goA0 G disc i).s = s := by show slD G.cf G.l (i : Int).toNat = s; rw [Int.toNat_natCast]; exact hsl
  -- closed by force
  rcases hG.cl with hcl | hcl | hcl
  case inr.inr =>
    have y0 : (goQ G.cf s i disc).st = 0 := rfl
    have h0 := x_closed G (goA0 G disc i) (cntN G.cf) (cntN G.cf) (goQ G.cf s i disc) hok y0 (hcl0.trans hcl)
    have h2 := y_closed G (goA0 G disc i) (cntN G.cf) G.cf.s.toNat (slD G.cf G.l) (gtch (cntN G.cf) (goQ G.cf s i disc) (cntN G.cf)) (n := 0) 5 (by decide) hok y0 (hcl0.trans hcl)
    rw [← hq] at h0
    refine go_asm (x := gEnd (gCl (goQ G.cf s i disc) 2) 5) (y := goQ G.cf s i disc) (z := gCl (goQ G.cf s i disc) 2) (e := 5) (f := 5) (n := 0) w hT hG hi his h3' how' hok rfl h0 h2 (fun V0 H0 V2 H2 => ?_) ?_ hr hv
    · have hA := hA0 hcl
      have := go_allC G at_ disc s.str s.brk V0 H0 V2 H2 (goA0 G disc i) (cntN G.cf) i G.cf G.l.tail s.st s.own s.mrk s.uses s.gen s.ep s.ver (cntN G.cf) (cntN G.cf) G.cf.s.toNat (slD G.cf G.l) (gtch (cntN G.cf) (goQ G.cf s i disc) (cntN G.cf)) G.l (gEnd (gCl (goQ G.cf s i disc) 2) 5) (goQ G.cf (slD G.cf G.l i) i disc) (gCl (goQ G.cf s i disc) 2) (0 : Nat)
      rw [← hA] at this
      rw [hq] at this ⊢
      exact this
    · unfold goFin
      rw [hfa, show (goA0 G disc i).N = cntN G.cf from rfl, ep0_of hc hok, show G.l.getD (0 + Int.toNat 0) 0 = 2 from hcl]
      unfold goAll
      rw [hfs, show (goA0 G disc i).i = (i : Int) from rfl, ixS hiS, Int.toNat_natCast, hsl, beqS_refl]; rfl
  all_goals
    obtain ⟨c, hcc, hc2, hc01⟩ : ∃ c : Int, G.l.getD 0 0 = c ∧ c ≠ 2 ∧ (c = 0 ∨ c = 1) := ⟨_, hcl, by omega, by omega⟩
    exact go_open w hT G hG at_ ha disc hi his hs h3 how hcc hc2 hc01 hr hv
theorem go_walk (w : World) (hT : Tab w) {v : Value} {a b c d e : Int} {A0 A1 A2 : Option Addr} {n0 c0 n1 c1 n2 c2 : Nat} {R0 R1 R2 : Go.Sx.Rows} (hg : GivenA w v a b c d e A0 n0 c0 R0 A1 n1 c1 R1 A2 n2 c2 R2) (x1 : Int) (b1 : 0 ≤ x1 ∧ x1 ≤ 255) (x2 : Bool) :
    Calls Tryd.prog 11 #[v, .int .u8 x1, .bool x2] w fun e w' => e = .returned (.bool true) ∧ Below w.heap.size w w' := by
  have hval := hg.val
  have hfi : ∀ i, i < n1 → 0 ≤ R1.gi i 0 ∧ R1.gi i 0 ≤ 255 := fun i hi => U8_of_wf (hg.r1.wf i 0 .u8 hi (by decide) (by rw [hg.k1]; rfl))
  have q0 := hg.k0; have q1 := hg.k1; have q2 := hg.k2
  obtain ⟨ks0, R0gi, R0gb⟩ := R0
  obtain ⟨ks1, R1gi, R1gb⟩ := R1
  obtain ⟨ks2, R2gi, R2gb⟩ := R2
  simp only at q0 q1 q2
  subst q0 q1 q2
  let G : Gv := ⟨n0, n1, n2, c0, c1, c2, R0gi, R1gi, R2gi, R0gb, R1gb, R2gb, a, b, c, d, e⟩
  have hG : G.OK := ⟨hg.ha, hg.hb, hg.hc, hg.hd, hg.he, hfi⟩
  let L : List ArgE := [(A0, n0, c0, 9, ⟨kSlot, R0gi, R0gb⟩), (A1, n1, c1, 1, ⟨[.it .u8], R1gi, R1gb⟩), (A2, n2, c2, 1, ⟨[.it .u8], R2gi, R2gb⟩)]
  let σ : Nat → Option Pl := fun k => (L[k]?).bind fun e : ArgE => plOf e.1 e.2.1 e.2.2.2.1
  have hL : ∀ e ∈ L, ArgRow w e.1 e.2.1 e.2.2.1 e.2.2.2.1 e.2.2.2.2 := by
    intro e he
    simp only [L, List.mem_cons, List.not_mem_nil, or_false] at he
    rcases he with rfl | rfl | rfl
    · exact hg.r0
    · exact hg.r1
    · exact hg.r2
  have hr : HR (· < w.heap.size) w 0 σ ((L.map fun e : ArgE => (e.2.2.2.1, e.2.1, e.2.2.2.2)).map fun e => .rows false false e.1 e.2.1 e.2.2) w := args_hr _ (plOfs_some L hL)
  rw [hval]
  refine go_go w hT G hG x1 b1 x2 hr (VRA.of_list ?_)
  exact .cons (.agg rfl (VRA.of_list (.cons (.int _ _) (.cons (.int _ _) (.cons (.int _ _) (.cons (.int _ _) (.cons (.int _ _) (.cons (VR.argRow (σ := σ) (k := 0) hg.r0 rfl _) (.cons (VR.argRow (σ := σ) (k := 1) hg.r1 rfl _) (.cons (VR.argRow (σ := σ) (k := 2) hg.r2 rfl _) .nil))))))))).2) (.cons (.int _ _) (.cons (.bool _) .nil))
end Go.Proofs.YthfoljgaiincdaaDoor
