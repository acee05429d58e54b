/- A region that draws its order: whatever the order, it leaves what the symbolic run leaves. No condition of its own. -/
import Derived.Test.YtjgifhegfadohaaDoorSxM
namespace Go.Sx
open Go Go.RowKit
set_option linter.unusedVariables false
section
variable {n : Nat} {w0 : World} {G : Nat} {E : Env} {callF : CallF} {ops : Array Oper} {T : List Step} {s0 sf : St}

theorem tmpsOf_mem {x : Nat} : ∀ {l : List Operand}, Operand.tmp x ∈ l → x ∈ tmpsOf l
  | .tmp t :: r, h => by
    simp only [tmpsOf]
    rcases List.mem_cons.1 h with h | h
    · cases h; exact List.mem_cons_self
    · exact List.mem_cons_of_mem _ (tmpsOf_mem h)
  | .const v :: r, h => by
    rcases List.mem_cons.1 h with h | h
    · cases h
    · exact (tmpsOf_mem (l := r) h : x ∈ tmpsOf r)
  | .global v :: r, h => by
    rcases List.mem_cons.1 h with h | h
    · cases h
    · exact (tmpsOf_mem (l := r) h : x ∈ tmpsOf r)
  | .func v :: r, h => by
    rcases List.mem_cons.1 h with h | h
    · cases h
    · exact (tmpsOf_mem (l := r) h : x ∈ tmpsOf r)

theorem ev_const {σ : Nat → Option Pl} {lh : List Blk} {w : World} (hr : HR n w0 G σ lh w) (a : Act) (tm : List Value) (x : Operand) (hx : ∀ t, x = .tmp t → VR σ (tm.getD t undef) (a.tmps.getD t undef)) : VR σ (evx G tm x) (a.eval x) := by
  cases x with
  | tmp t => exact hx t rfl
  | const v =>
    simp only [evx, Act.eval]
    cases hp : plain v with
    | true => exact VR.plain σ hp
    | false => exact VR.any _
  | global g =>
    simp only [evx, Act.eval]
    cases hb : Nat.blt g G with
    | true =>
      obtain ⟨p, h1, h2, h3⟩ := hr.glob g (blt_true hb)
      have := VR.ptr (off := 0) h1
      rw [h2, h3] at this
      exact this
    | false => exact VR.any _
  | func f => exact VR.func f rfl rfl (fun i x y hx => by simp at hx) fun i x y hx => by simp at hx

theorem wanted_of {σ : Nat → Option Pl} {o : Oper} {s : St} {a : Act} {g : Bool} (hg : GuardIs ops o s g) (hn : ∀ tt ∈ named ops o, VR σ (s.tmps.getD tt undef) (a.tmps.getD tt undef)) : Region.wanted o (yielded ops a.tmps) = g := by
  rcases hg with ⟨h1, rfl⟩ | ⟨j, want, t, b, h1, h2, h3, rfl⟩ | ⟨j, want, t, x, h1, h2, h3, rfl⟩
  · simp [Region.wanted, h1]
  · have hv := hn t (by simp [named, h1, h2])
    rw [h3] at hv
    have e := hv.plain1_eq rfl
    have hb : a.tmps[t]? = some (.bool b) := by
      rw [Array.getD_eq_getD_getElem?] at e
      cases hx : a.tmps[t]? with
      | none => rw [hx] at e; simp [undef] at e
      | some v => rw [hx] at e; simp at e; rw [e]
    simp only [Region.wanted, h1, yielded, h2, Option.bind_some, hb]
    cases b <;> cases want <;> rfl
  · have hv := hn t (by simp [named, h1, h2])
    rw [h3] at hv
    exact wanted_skip h1 h2 hv

theorem InvC.step (hE : EqsOK E) (hG : E.G = G) (hc : CallsOK E.P n w0 G callF) (h : Tr E callF ops T s0 sf) {σ0 σ : Nat → Option Pl} {c : Nat} {listed : Array Bool} {a : Act} {w : World} (hi : InvC n w0 G ops T s0 sf σ0 σ c listed a w) {i : Nat} (hlt : i < ops.size)
    (hn : listed.getD i false = false) (hdeps : ∀ j, Nat.testBit ((ancs ops.toList).getD i 0) j = true → listed.getD j false = true) (Q : Exit → Act → World → Prop) (K : Act → World → Prop)
    (hK : ∀ σ' c' a' w', InvC n w0 G ops T s0 sf σ0 σ' c' (listed.setIfInBounds i true) a' w' → K a' w') : wpOp E.P ops Q i K a w := by
  obtain ⟨q, t, ht, rfl⟩ := h.mem i hlt
  have hqlen : q < T.length := (List.getElem?_eq_some_iff.1 ht).1
  obtain ⟨o, ho, g, hg, hcase⟩ := h.ok t (mem_of_at ht)
  -- where it stands
  have hq : q < c ∨ (q = c ∧ t.k = 2) := by
    rcases Nat.lt_trichotomy q c with hh | hh | hh
    · exact .inl hh
    · right
      refine ⟨hh, ?_⟩
      rcases hi.at_ with e | ⟨u, hu, hk⟩
      · omega
      · rw [← hh, ht] at hu; cases hu; exact hk
    · rcases hi.at_ with e | ⟨u, hu, hk⟩
      · omega
      · have := hdeps u.i (h.loud c q u t hh hu ht hk)
        have := hi.below c u hu this
        omega
  -- what it names is as in the run
  have hnm : ∀ tt ∈ named ops o, VR σ (t.s.tmps.getD tt undef) (a.tmps.getD tt undef) := by
    intro tt htt
    have := hi.tm tt q (by omega) fun r u hu hdu => by
      rcases Nat.lt_trichotomy r q with hrq | hrq | hrq
      · refine ⟨fun _ => ?_, fun _ => hrq⟩
        have hor := h.tmps r q u t o tt hu ht ho htt hdu (by omega)
        simp only [ordered, Bool.or_eq_true] at hor
        rcases hor with hor | hor
        · exact hdeps _ hor
        · obtain ⟨p', u', hp', hu', e⟩ := h.before r u t.i hu hor
          have := h.inj p' q u' t hu' ht e
          omega
      · subst hrq
        rw [ht] at hu; cases hu
        exact ⟨fun hh => by omega, fun hh => by rw [hn] at hh; cases hh⟩
      · refine ⟨fun hh => by omega, fun hl => ?_⟩
        have hor := h.tmps r q u t o tt hu ht ho htt hdu (by omega)
        simp only [ordered, Bool.or_eq_true] at hor
        rcases hor with hor | hor
        · obtain ⟨p', u', hp', hu', e⟩ := h.before q t u.i ht hor
          have := h.inj p' r u' u hu' hu e
          omega
        · have := hi.closed u.i t.i hl hor
          rw [hn] at this; cases this
    rwa [stateAt_of ht] at this
  have hop : ∀ x ∈ o.op.operands, VR σ (evx E.G t.s.tmps x) (a.eval x) := fun x hx => by
    rw [hG]
    exact ev_const hi.hr a _ x fun tt e => hnm tt (by
      subst e
      simp only [named, List.mem_append]
      exact .inl (.inr (tmpsOf_mem (by simpa using hx))))
  have hdst : dstOf ops t = o.dst := by rw [dstOf, ho, Option.bind_some]
  have hw := wanted_of hg hnm
  unfold wpOp
  simp only [ho]
  -- the quiet ones
  have quiet : ∀ {σ' : Nat → Option Pl} {v' : Value} {w' : World}, t.k ≠ 2 → Ext s0.lh.length σ0 σ' → Le σ σ' → VR σ' t.v v' → HR n w0 G σ' (stateAt T sf c).lh w' →
      (∀ (p : Nat) (u : Step), T[p]? = some u → p < c → u.k = 1 → listed.getD u.i false = false → p ≠ q → σ' u.s.lh.length = none) → K (a.put o.dst v') w' := by
    intro σ' v' w' hk2 hext hle hv hhr hfree
    have hqc : q < c := hq.elim id fun hh => absurd hh.2 hk2
    rw [← hdst]
    exact hK σ' c _ _ (hi.next h ht hn hdeps hext hle hv hi.cle (fun p u hu hh => hh.elim (hi.below p u hu) fun e => by omega) (fun p u hu hp hk => .inl (hi.louds p u hu hp hk)) hi.at_ hhr hfree)
  rcases hcase with ⟨rfl, hk, hv, hl⟩ | ⟨rfl, hk, hids, hidl, hv, hl⟩ | ⟨rfl, hk, hids, r, hr, hv, hl⟩ | ⟨rfl, hk, hkind, r, hr, hv, hl⟩
  · rw [hw, if_neg (by simp)]
    exact quiet (by rw [hk]; decide) hi.ext (Le.refl _) (by rw [hv]; exact VR.skip) hi.hr fun p u hu hp hk' hl' _ => hi.free p u hu hp hk' hl'
  · rw [hw, if_pos rfl]
    left
    have hqc : q < c := hq.elim id fun hh => absurd hh.2 (by rw [hk]; decide)
    have hsame : ∀ k ∈ readsOf (evx E.G t.s.tmps) o.op, t.s.lh.getD k .dead = (stateAt T sf c).lh.getD k .dead := fun k hkr => by
      have := h.stays (p := q) (k := k) (c := c) (by rw [stateAt_of ht]; exact hidl k (by rw [hids]; exact hkr)) (by omega) hi.cle fun r u hr hrc hu hk2 => by
        rcases Nat.lt_or_ge q r with hqr | hqr
        · have hcov := List.pairwise_iff_getElem.1 h.cov q r hqlen (List.getElem?_eq_some_iff.1 hu).1 hqr
          rw [(List.getElem?_eq_some_iff.1 ht).2, (List.getElem?_eq_some_iff.1 hu).2] at hcov
          refine hcov (by rw [hk]; decide) hk2 ?_ k (by rw [hids]; exact hkr)
          cases hb : Nat.testBit ((ancs ops.toList).getD u.i 0) t.i with
          | false => rfl
          | true =>
            have := hi.closed u.i t.i (hi.louds r u hu hrc hk2) hb
            rw [hn] at this; cases this
        · obtain rfl : r = q := by omega
          rw [ht] at hu; cases hu
          rw [hk] at hk2; cases hk2
      rw [this, stateAt_of ht]
    rw [valM_congr hsame] at hv
    obtain ⟨v', h1, h2⟩ := valM_sound hE hi.hr hop hv
    unfold Oper.wp
    rw [h1, Oper.upon_value]
    exact quiet (by rw [hk]; decide) hi.ext (Le.refl _) h2 hi.hr fun p u hu hp hk' hl' _ => hi.free p u hu hp hk' hl'
  · rw [hw, if_pos rfl]
    left
    have hqc : q < c := hq.elim id fun hh => absurd hh.2 (by rw [hk]; decide)
    obtain ⟨v', ob, h1, p, hp, h2⟩ := newM_sound hi.hr.size hop hr
    have hnext : (stateAt T sf (q + 1)).lh = t.s.lh ++ [r.2] := by rw [(chain_at h.ch).2 q t ht]; exact hl
    have hal : t.s.lh.length < (stateAt T sf (q + 1)).lh.length := by rw [hnext]; simp
    have hac : t.s.lh.length < (stateAt T sf c).lh.length := Nat.lt_of_lt_of_le hal (h.len_mono (by omega) hi.cle)
    have hent : (stateAt T sf c).lh.getD t.s.lh.length .dead = r.2 := by
      have := h.stays (p := q + 1) (k := t.s.lh.length) (c := c) hal (by omega) hi.cle fun r' u hr' hrc hu hk2 => by
        have hcov := List.pairwise_iff_getElem.1 h.cov q r' hqlen (List.getElem?_eq_some_iff.1 hu).1 (by omega)
        rw [(List.getElem?_eq_some_iff.1 ht).2, (List.getElem?_eq_some_iff.1 hu).2] at hcov
        refine hcov (by rw [hk]; decide) hk2 ?_ _ (by rw [hids]; simp)
        cases hb : Nat.testBit ((ancs ops.toList).getD u.i 0) t.i with
        | false => rfl
        | true =>
          have := hi.closed u.i t.i (hi.louds r' u hu hrc hk2) hb
          rw [hn] at this; cases this
      rw [this, hnext, getD_append_new]
    have hfree := hi.free q t ht hqc hk hn
    obtain ⟨h3, h4⟩ := h2 (upd σ t.s.lh.length p) t.s.lh.length (le_upd_none hfree p) (upd_same _ _ _)
    unfold Oper.wp
    rw [h1, Oper.upon_value]
    have hs0 : s0.lh.length ≤ t.s.lh.length := by
      have := h.len_mono (Nat.zero_le q) (by omega)
      rwa [(chain_at h.ch).1, stateAt_of ht] at this
    refine quiet (by rw [hk]; decide) ⟨hi.ext.1.trans (le_upd_none hfree p), fun k hk0 => by rw [upd_other _ _ (by omega)]; exact hi.ext.2 k hk0⟩ (le_upd_none hfree p) (by rw [hv]; exact h3)
      (hi.hr.fill hac hfree p ob hp (by rw [hent]; exact h4)) fun p' u hu hp' hk' hl' hne => ?_
    rw [upd_other]
    · exact hi.free p' u hu hp' hk' hl'
    · have hup : (stateAt T sf (p' + 1)).lh.length = u.s.lh.length + 1 := by
        rw [(chain_at h.ch).2 p' u hu]
        obtain ⟨o', ho', g', hg', hcase'⟩ := h.ok u (mem_of_at hu)
        show u.lh'.length = _
        rcases hcase' with ⟨_, e, _⟩ | ⟨_, e, _⟩ | ⟨_, _, _, r', _, _, e⟩ | ⟨_, e, _⟩
        · rw [hk'] at e; cases e
        · rw [hk'] at e; cases e
        · rw [e]; simp
        · rw [hk'] at e; cases e
      rcases Nat.lt_or_ge p' q with hpq | hpq
      · have := h.len_mono (show p' + 1 ≤ q by omega) (by omega)
        rw [stateAt_of ht] at this
        omega
      · have := h.len_mono (show q + 1 ≤ p' by omega) (by have := (List.getElem?_eq_some_iff.1 hu).1; omega)
        rw [stateAt_of hu] at this
        omega
  · rw [hw, if_pos rfl]
    left
    obtain rfl : q = c := by
      rcases hq with hh | ⟨hh, _⟩
      · have := hi.louds q t ht hh hk
        rw [hn] at this; cases this
      · exact hh
    have hst := stateAt_of (sf := sf) ht
    have hhr : HR n w0 G σ t.s.lh w := by have := hi.hr; rwa [hst] at this
    refine loudM_sound hc (hhr.prot t.U) hop hr fun v' w' hgood => ?_
    obtain ⟨σ', hext, hvr, hr'⟩ := hgood
    rw [protL_length] at hext
    have hkp := loudM_keeps hc hr
    have hr2 := hr'.unprot hkp (h.ub t (mem_of_at ht) hk)
    obtain ⟨c', hc1, hc2, hc3, hc4⟩ := first_loud T (q + 1) (by omega)
    obtain ⟨N, hN⟩ := h.quiet hc1 hc2 hc3
    have hnext : (stateAt T sf (q + 1)).lh = unprotL t.U t.s.lh r.2 := by rw [(chain_at h.ch).2 q t ht]; exact hl
    have hs0 : s0.lh.length ≤ t.s.lh.length := by
      have := h.len_mono (Nat.zero_le q) (by omega)
      rwa [(chain_at h.ch).1, hst] at this
    rw [← hdst]
    refine hK σ' c' _ _ (hi.next h ht hn hdeps (hi.ext.trans hext hs0) hext.1 (by rw [hv]; exact hvr) hc2 (fun p u hu hh => ?_) (fun p u hu hp hk' => ?_) hc4 (by rw [hN, hnext]; exact hr2.extend N) fun p u hu hp hk' hl' hne => ?_)
    · rcases hh with hh | hh
      · have := hi.below p u hu hh; omega
      · omega
    · rcases Nat.lt_trichotomy p q with hh | hh | hh
      · exact .inl (hi.louds p u hu hh hk')
      · exact .inr hh
      · exact absurd hk' (hc3 p u (by omega) hp hu)
    · rcases Nat.lt_or_ge p q with hpq | hpq
      · have hlt2 : u.s.lh.length < t.s.lh.length := by
          have h1 : (stateAt T sf (p + 1)).lh.length = u.s.lh.length + 1 := by
            rw [(chain_at h.ch).2 p u hu]
            obtain ⟨o', ho', g', hg', hcase'⟩ := h.ok u (mem_of_at hu)
            show u.lh'.length = _
            rcases hcase' with ⟨_, e, _⟩ | ⟨_, e, _⟩ | ⟨_, _, _, r', _, _, e⟩ | ⟨_, e, _⟩
            · rw [hk'] at e; cases e
            · rw [hk'] at e; cases e
            · rw [e]; simp
            · rw [hk'] at e; cases e
          have := h.len_mono (show p + 1 ≤ q by omega) (by omega)
          rw [hst] at this
          omega
        rw [hext.2 _ hlt2]
        exact hi.free p u hu hpq hk' hl'
      · have := h.len_mono (show q + 1 ≤ p by omega) (by have := (List.getElem?_eq_some_iff.1 hu).1; omega)
        rw [stateAt_of hu, hnext] at this
        cases e : σ' u.s.lh.length with
        | none => rfl
        | some p0 => have := hr2.dom _ _ e; omega

theorem filter_less {p q : Nat → Bool} : ∀ {l : List Nat} {x : Nat}, x ∈ l → p x = true → q x = false → (∀ y, q y = true → p y = true) → (l.filter q).length < (l.filter p).length
  | y :: l, x, hx, hp, hq, hpq => by
    have hle : ∀ l : List Nat, (l.filter q).length ≤ (l.filter p).length := by
      intro l
      induction l with
      | nil => exact Nat.le_refl _
      | cons z l ih =>
        simp only [List.filter_cons]
        cases hz : q z with
        | true => rw [hpq z hz]; simpa using ih
        | false => cases p z <;> simp <;> omega
    rcases List.mem_cons.1 hx with rfl | hx
    · simp only [List.filter_cons, hp, hq]
      have := hle l
      simp; omega
    · have ih := filter_less hx hp hq hpq
      simp only [List.filter_cons]
      cases hz : q y with
      | true => rw [hpq y hz]; simpa using ih
      | false => cases p y <;> simp <;> omega

theorem back_ready (hb : backOK ops.toList = true) {listed : Array Bool} (hsz : listed.size = ops.size) (hr : Region.ready .any ops listed = []) : ∀ i, i < ops.size → listed.getD i false = true := by
  intro i
  induction i using Nat.strongRecOn with
  | _ i ih =>
    intro hi
    cases hl : listed.getD i false with
    | true => rfl
    | false =>
      exfalso
      have hmem : i ∈ Region.ready .any ops listed := by
        simp only [Region.ready, List.mem_filter, List.mem_range, Bool.and_eq_true, Bool.not_eq_true']
        refine ⟨hi, ?_, ?_⟩
        · rw [Array.getD_eq_getD_getElem?] at hl ⊢
          rw [Array.getElem?_eq_getElem (by omega)] at hl ⊢
          simpa using hl
        · rw [Array.getElem?_eq_getElem hi]
          simp only [Option.map_some, Option.getD_some, Array.all_eq_true]
          intro j hj
          simp only [Bool.or_eq_true, Bool.not_eq_true']
          cases hbd : Region.binds .any (ops[i].after[j]) with
          | false => exact .inl rfl
          | true =>
            right
            unfold backOK at hb
            rw [List.all_eq_true] at hb
            have h1 := hb (ops[i], i) (by rw [List.mem_zipIdx_iff_getElem?]; simp [hi])
            simp only at h1
            rw [List.all_eq_true] at h1
            have h2 := h1 (ops[i].after[j]) (by simp)
            rw [hbd] at h2
            simp at h2
            exact ih _ h2 (by omega)
      rw [hr] at hmem; cases hmem

theorem InvC.run (hE : EqsOK E) (hG : E.G = G) (hc : CallsOK E.P n w0 G callF) (hb : backOK ops.toList = true) (h : Tr E callF ops T s0 sf) {σ0 : Nat → Option Pl} {Q : Exit → Act → World → Prop}
    (hfin : ∀ σ' a' w', Ext s0.lh.length σ0 σ' → Rel n w0 G σ' sf a' w' → Q .normal a' w') : ∀ (fuel : Nat) (listed : Array Bool) (a : Act) (w : World) (σ : Nat → Option Pl) (c : Nat), InvC n w0 G ops T s0 sf σ0 σ c listed a w →
    ((List.range ops.size).filter fun i => !listed.getD i false).length ≤ fuel → wpAny E.P .any ops Q fuel listed a w := by
  have fin : ∀ (listed : Array Bool) (a : Act) (w : World) (σ : Nat → Option Pl) (c : Nat), InvC n w0 G ops T s0 sf σ0 σ c listed a w → (∀ i, i < ops.size → listed.getD i false = true) → Q .normal a w := by
    intro listed a w σ c hi hall
    have hce : c = T.length := by
      rcases hi.at_ with e | ⟨u, hu, hk⟩
      · exact e
      · have := hi.below c u hu (hall _ (h.lt u (mem_of_at hu)))
        omega
    have hhr := hi.hr
    rw [hce, stateAt_end] at hhr
    have hlen := h.tmps_len (Nat.le_refl T.length)
    rw [stateAt_end] at hlen
    refine hfin σ a w hi.ext ⟨by rw [hi.sz, hlen], fun t => ?_, hi.df, hhr⟩
    have := hi.tm t T.length (Nat.le_refl _) fun r u hu _ => ⟨fun _ => hall _ (h.lt u (mem_of_at hu)), fun _ => (List.getElem?_eq_some_iff.1 hu).1⟩
    rwa [stateAt_end] at this
  intro fuel
  induction fuel with
  | zero =>
    intro listed a w σ c hi hf
    have hall : ∀ i, i < ops.size → listed.getD i false = true := by
      intro i hlt
      have : (List.range ops.size).filter (fun i => !listed.getD i false) = [] := List.eq_nil_of_length_eq_zero (by omega)
      rw [List.filter_eq_nil_iff] at this
      have := this i (List.mem_range.2 hlt)
      simpa using this
    refine ⟨?_, fin listed a w σ c hi hall⟩
    rw [Region.ready, List.filter_eq_nil_iff]
    intro i hmem
    have hlt := List.mem_range.1 hmem
    have := hall i hlt
    rw [Array.getD_eq_getD_getElem?, Array.getElem?_eq_getElem (by rw [hi.size]; exact hlt)] at this
    have h2 : listed.getD i true = true := by
      rw [Array.getD_eq_getD_getElem?, Array.getElem?_eq_getElem (by rw [hi.size]; exact hlt)]; simpa using this
    rw [h2]; simp
  | succ fuel ih =>
    intro listed a w σ c hi hf
    refine ⟨fun hr => fin listed a w σ c hi (back_ready hb hi.size hr), fun i hmem => ?_⟩
    simp only [Region.ready, List.mem_filter, List.mem_range, Bool.and_eq_true, Bool.not_eq_true'] at hmem
    obtain ⟨hlt, hnl, hedges⟩ := hmem
    have hls : i < listed.size := by rw [hi.size]; exact hlt
    have hn : listed.getD i false = false := by
      rw [Array.getD_eq_getD_getElem?, Array.getElem?_eq_getElem hls] at hnl ⊢; simpa using hnl
    refine hi.step hE hG hc h hlt hn (fun j hj => ?_) Q _ fun σ' c' a' w' hi' => ih _ a' w' σ' c' hi' ?_
    · have ho : ops.toList[i]? = some ops[i] := by simp [hlt]
      obtain ⟨e, he, hbd, hcase⟩ := anc_edge ho hj
      rw [Array.getElem?_eq_getElem hlt] at hedges
      simp only [Option.map_some, Option.getD_some, Array.all_eq_true] at hedges
      obtain ⟨k, hk, rfl⟩ := List.mem_iff_getElem.1 he
      have := hedges k (by simpa using hk)
      rw [Array.getElem_toList] at hbd hcase
      rw [hbd] at this
      simp only [Bool.not_true, Bool.false_or] at this
      rcases hcase with rfl | hcase
      · exact this
      · exact hi.closed _ _ this hcase
    · have hlt2 := filter_less (l := List.range ops.size) (x := i) (p := fun i => !listed.getD i false) (q := fun j => !(listed.setIfInBounds i true).getD j false) (List.mem_range.2 hlt) (by simp only [hn]; rfl) (by simp only [getD_listed hls, if_true]; rfl) (fun y hy => by
        simp only [getD_listed hls] at hy
        split at hy
        · cases hy
        · exact hy)
      omega

/-- A region that draws its order. -/
theorem drawM_sound (hE : EqsOK E) (hG : E.G = G) (hm : E.P.follows .mixedOrders = true) (hc : CallsOK E.P n w0 G callF) {id : Nat} {s s' : St} (h : (drawM E callF ops s).get = some s') :
    Keeps s.lh s'.lh ∧ ∀ σ a w (Q : Exit → Act → World → Prop), Rel n w0 G σ s a w → (∀ σ' a' w', Ext s.lh.length σ σ' → Rel n w0 G σ' s' a' w' → Q .normal a' w') → (Code.region id ops true).wp E.P Q a w := by
  unfold drawM at h
  rcases M.get_br_some h with ⟨hd, h⟩ | ⟨_, h⟩
  · obtain ⟨T, hT⟩ := Tr.of_ok hc hd h
    have hb : backOK ops.toList = true := by
      simp only [drawOK, Bool.and_eq_true] at hd
      exact hd.1.1.1.1
    refine ⟨?_, fun σ a w Q hrel hfin => ?_⟩
    · have key : ∀ q, q ≤ T.length → Keeps s.lh (stateAt T s' q).lh := by
        intro q
        induction q with
        | zero => intro _; rw [(chain_at hT.ch).1]; exact Keeps.refl _
        | succ q ih =>
          intro hq
          have ht : T[q]? = some T[q] := List.getElem?_eq_getElem (by omega)
          have h1 := ih (by omega)
          rw [stateAt_of ht] at h1
          rw [(chain_at hT.ch).2 q _ ht]
          exact h1.trans (hT.kk _ (mem_of_at ht))
      have := key T.length (Nat.le_refl _)
      rwa [stateAt_end] at this
    · obtain ⟨c, hi⟩ := InvC.start hT hrel
      refine wp_region_any hm ?_
      have hi' : InvC n w0 G ops T s s' σ σ c (Array.replicate ops.size false) a w.drew := { hi with hr := hi.hr.drew }
      exact InvC.run hE hG hc hb hT hfin ops.size _ a _ σ c hi' (by
        have := List.length_filter_le (fun i => !(Array.replicate ops.size false).getD i false) (List.range ops.size)
        simpa using this)
  · cases h
end
end Go.Sx
