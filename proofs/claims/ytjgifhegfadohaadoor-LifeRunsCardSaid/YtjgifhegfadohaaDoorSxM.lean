/- A region that draws its order: the step of the proof. No condition of its own. -/
import Derived.Test.YtjgifhegfadohaaDoorSxL
namespace Go.Sx
open Go Go.RowKit
set_option linter.unusedVariables false
section
variable {n : Nat} {w0 : World} {G : Nat} {E : Env} {callF : CallF} {ops : Array Oper} {T : List Step} {s0 sf : St}

theorem Tr.of_ok (hc : CallsOK E.P n w0 G callF) (hd : drawOK ops = true) (h : (drawGo E callF ops (ancs ops.toList) (ordOf ops.toList) [] s0).get = some sf) : ∃ T, Tr E callF ops T s0 sf := by
  obtain ⟨T, hT, hch, hok, hcov, _, hin⟩ := trace_of hc _ _ _ _ (by simp) h
  simp only [drawOK, Bool.and_eq_true] at hd
  obtain ⟨⟨⟨⟨_, htm⟩, hord⟩, hmem⟩, hlt⟩ := hd
  obtain ⟨o1, o2, o3⟩ := ordOK_spec _ 0 [] (fun j => by simp) hord
  have hat : ∀ (q : Nat) (t : Step), T[q]? = some t → (ordOf ops.toList)[q]? = some t.i := fun q t hq => by rw [← hT, List.getElem?_map, hq]; rfl
  have hta : ∀ (q i : Nat), (ordOf ops.toList)[q]? = some i → ∃ t, T[q]? = some t ∧ t.i = i := fun q i hq => by
    rw [← hT, List.getElem?_map] at hq
    cases ht : T[q]? with
    | none => rw [ht] at hq; cases hq
    | some t => rw [ht] at hq; cases hq; exact ⟨t, rfl, rfl⟩
  have hinj : ∀ (p q : Nat) (t u : Step), T[p]? = some t → T[q]? = some u → t.i = u.i → p = q := by
    have key : ∀ (p q : Nat) (t u : Step), p < q → T[p]? = some t → T[q]? = some u → t.i ≠ u.i := fun p q t u hpq ht hu e => by
      refine o3 q u.i (hat q u hu) ?_
      rw [← e, List.nil_append]
      refine List.mem_of_getElem? (i := p) ?_
      rw [List.getElem?_take_of_lt hpq]; exact hat p t ht
    intro p q t u ht hu e
    rcases Nat.lt_trichotomy p q with h | h | h
    · exact absurd e (key p q t u h ht hu)
    · exact h
    · exact absurd e.symm (key q p u t h hu ht)
  refine ⟨T, hch, hok, hcov, fun t ht => (hin t ht).1, fun t ht => (hin t ht).2, fun t ht => ?_, fun i hi => ?_, hinj, fun q t j hq hj => ?_, fun p q t u hpq ht hu hk => ?_, fun p q t u o tt ht hu ho htt hdst hpq => ?_⟩
  · obtain ⟨o, ho, _⟩ := hok t ht
    exact (Array.getElem?_eq_some_iff.1 ho).1
  · rw [List.all_eq_true] at hmem
    have := hmem i (by simpa using hi)
    rw [List.any_eq_true] at this
    obtain ⟨j, hj, e⟩ := this
    obtain ⟨q, hq, hqj⟩ := List.mem_iff_getElem.1 hj
    obtain ⟨t, h1, h2⟩ := hta q j (by rw [List.getElem?_eq_getElem hq, hqj])
    exact ⟨q, t, h1, by rw [h2]; exact (beq_true e).symm⟩
  · have := o1 q t.i (hat q t hq) j hj
    rw [List.nil_append] at this
    obtain ⟨p, hp⟩ := List.mem_iff_getElem?.1 this
    rw [List.getElem?_take] at hp
    split at hp
    · rename_i hpq
      obtain ⟨u, h1, h2⟩ := hta p j hp
      exact ⟨p, u, hpq, h1, h2⟩
    · cases hp
  · refine o2 q u.i (hat q u hu) t.i ?_ ?_
    · rw [List.nil_append]
      refine List.mem_of_getElem? (i := p) ?_
      rw [List.getElem?_take_of_lt hpq]; exact hat p t ht
    · obtain ⟨o, ho, g, _, hcase⟩ := hok t (mem_of_at ht)
      have hk2 : kindOf o.op = 2 := by
        rcases hcase with ⟨_, e, _⟩ | ⟨_, e, _⟩ | ⟨_, e, _⟩ | ⟨_, _, e, _⟩
        · rw [hk] at e; cases e
        · rw [hk] at e; cases e
        · rw [hk] at e; cases e
        · exact e
      rw [List.getElem?_map, Array.getElem?_toList, ho]
      simp [hk2]
  · unfold tmpsOK at htm
    rw [List.all_eq_true] at htm
    have h1 := htm (o, u.i) (by rw [List.mem_zipIdx_iff_getElem?]; simpa using ho)
    simp only at h1
    rw [List.all_eq_true] at h1
    have h2 := h1 tt htt
    rw [List.all_eq_true] at h2
    unfold dstOf at hdst
    cases hot : ops[t.i]? with
    | none => rw [hot] at hdst; cases hdst
    | some q' =>
      rw [hot, Option.bind_some] at hdst
      have h3 := h2 (q', t.i) (by rw [List.mem_zipIdx_iff_getElem?]; simpa using hot)
      simp only [hdst, Nat.beq_refl, Bool.not_true, Bool.false_or, Bool.or_eq_true] at h3
      rcases h3 with h3 | h3
      · exact absurd (hinj p q t u ht hu (beq_true h3).symm) hpq
      · exact h3

/-- What holds when the operations 'listed' have been carried out, in whatever order. -/
structure InvC (n : Nat) (w0 : World) (G : Nat) (ops : Array Oper) (T : List Step) (s0 sf : St) (σ0 σ : Nat → Option Pl) (c : Nat) (listed : Array Bool) (a : Act) (w : World) : Prop where
  cle : c ≤ T.length
  size : listed.size = ops.size
  ext : Ext s0.lh.length σ0 σ
  closed : ∀ i j, listed.getD i false = true → Nat.testBit ((ancs ops.toList).getD i 0) j = true → listed.getD j false = true
  below : ∀ (q : Nat) (t : Step), T[q]? = some t → listed.getD t.i false = true → q < c
  louds : ∀ (q : Nat) (t : Step), T[q]? = some t → q < c → t.k = 2 → listed.getD t.i false = true
  at_ : c = T.length ∨ ∃ t, T[c]? = some t ∧ t.k = 2
  hr : HR n w0 G σ (stateAt T sf c).lh w
  free : ∀ (q : Nat) (t : Step), T[q]? = some t → q < c → t.k = 1 → listed.getD t.i false = false → σ t.s.lh.length = none
  sz : a.tmps.size = s0.tmps.length
  df : a.defers = []
  tm : ∀ (tt q : Nat), q ≤ T.length → (∀ (r : Nat) (t : Step), T[r]? = some t → dstOf ops t = some tt → (r < q ↔ listed.getD t.i false = true)) → VR σ ((stateAt T sf q).tmps.getD tt undef) (a.tmps.getD tt undef)

theorem first_loud (T : List Step) (m : Nat) (hm : m ≤ T.length) : ∃ c, m ≤ c ∧ c ≤ T.length ∧ (∀ (q : Nat) (t : Step), m ≤ q → q < c → T[q]? = some t → t.k ≠ 2) ∧ (c = T.length ∨ ∃ t, T[c]? = some t ∧ t.k = 2) := by
  obtain ⟨d, hd⟩ : ∃ d, T.length - m = d := ⟨_, rfl⟩
  induction d generalizing m with
  | zero => exact ⟨m, Nat.le_refl _, hm, fun q t h1 h2 => by omega, .inl (by omega)⟩
  | succ d ih =>
    have hT : T[m]? = some T[m] := List.getElem?_eq_getElem (by omega)
    by_cases hk : T[m].k = 2
    · exact ⟨m, Nat.le_refl _, hm, fun q t h1 h2 => by omega, .inr ⟨_, hT, hk⟩⟩
    · obtain ⟨c, h1, h2, h3, h4⟩ := ih (m + 1) (by omega) (by omega)
      refine ⟨c, by omega, h2, fun q t hq hqc ht => ?_, h4⟩
      rcases Nat.lt_or_ge m q with h | h
      · exact h3 q t h hqc ht
      · obtain rfl : q = m := by omega
        rw [hT] at ht; cases ht; exact hk

/-- Where nothing is loud entries are added alone. -/
theorem Tr.quiet (h : Tr E callF ops T s0 sf) {p c : Nat} (hpc : p ≤ c) (hc : c ≤ T.length) (hq : ∀ (q : Nat) (t : Step), p ≤ q → q < c → T[q]? = some t → t.k ≠ 2) : ∃ N, (stateAt T sf c).lh = (stateAt T sf p).lh ++ N := by
  obtain ⟨d, rfl⟩ := Nat.exists_eq_add_of_le hpc
  induction d with
  | zero => exact ⟨[], by simp⟩
  | succ d ih =>
    obtain ⟨N, hN⟩ := ih (by omega) (by omega) fun q t h1 h2 => hq q t h1 (by omega)
    have hT : T[p + d]? = some T[p + d] := List.getElem?_eq_getElem (by omega)
    rw [show p + (d + 1) = p + d + 1 by omega, (chain_at h.ch).2 _ _ hT]
    rw [stateAt_of hT] at hN
    have hk := hq _ _ (by omega) (by omega) hT
    obtain ⟨o, ho, g, hg, hcase⟩ := h.ok _ (mem_of_at hT)
    show ∃ N, T[p + d].lh' = _
    rcases hcase with ⟨_, _, _, e⟩ | ⟨_, _, _, _, _, e⟩ | ⟨_, _, _, q, _, _, e⟩ | ⟨_, h2, _⟩
    · exact ⟨N, by rw [e, hN]⟩
    · exact ⟨N, by rw [e, hN]⟩
    · exact ⟨N ++ [q.2], by rw [e, hN, List.append_assoc]⟩
    · exact absurd h2 hk

theorem InvC.start (h : Tr E callF ops T s0 sf) {σ : Nat → Option Pl} {a : Act} {w : World} (hrel : Rel n w0 G σ s0 a w) : ∃ c, InvC n w0 G ops T s0 sf σ σ c (Array.replicate ops.size false) a w := by
  obtain ⟨c, h1, h2, h3, h4⟩ := first_loud T 0 (by omega)
  have hf : ∀ i, (Array.replicate ops.size false).getD i false = false := fun i => by
    rw [Array.getD_eq_getD_getElem?, Array.getElem?_replicate]; split <;> rfl
  have h0 := (chain_at h.ch).1
  refine ⟨c, h2, by simp, Ext.refl _ _, fun i j hi => (by rw [hf] at hi; cases hi), fun q t _ hl => (by rw [hf] at hl; cases hl), fun q t ht hq hk => absurd hk (h3 q t (by omega) hq ht), h4, ?_, fun q t ht hq hk _ => ?_, hrel.sz, hrel.df, fun tt q hq hw => ?_⟩
  · obtain ⟨N, hN⟩ := h.quiet h1 h2 h3
    rw [hN, h0]
    exact hrel.hr.extend N
  · have := h.len_mono (Nat.zero_le q) (by omega)
    rw [h0, stateAt_of ht] at this
    cases e : σ t.s.lh.length with
    | none => rfl
    | some p => have := hrel.hr.dom _ _ e; omega
  · rw [h.tmp_stays (p := 0) (tt := tt) (Nat.zero_le q) hq fun r t _ hr ht hd => ?_, h0]
    · exact hrel.tm tt
    · have := (hw r t ht hd).1 hr
      rw [hf] at this; cases this

theorem getD_listed {listed : Array Bool} {i : Nat} (hi : i < listed.size) (j : Nat) : (listed.setIfInBounds i true).getD j false = if j = i then true else listed.getD j false := by
  rw [Array.getD_eq_getD_getElem?, Array.getElem?_setIfInBounds]
  by_cases e : i = j
  · subst e; simp [hi]
  · rw [if_neg e, if_neg (Ne.symm e), Array.getD_eq_getD_getElem?]

/-- One more operation has been carried out. -/
theorem InvC.next (h : Tr E callF ops T s0 sf) {σ0 σ σ' : Nat → Option Pl} {c c' : Nat} {listed : Array Bool} {a : Act} {w w' : World} (hi : InvC n w0 G ops T s0 sf σ0 σ c listed a w) {q : Nat} {t : Step} (ht : T[q]? = some t)
    (hn : listed.getD t.i false = false) (hdeps : ∀ j, Nat.testBit ((ancs ops.toList).getD t.i 0) j = true → listed.getD j false = true) {v' : Value} (hext : Ext s0.lh.length σ0 σ') (hle : Le σ σ') (hv : VR σ' t.v v')
    (hcle : c' ≤ T.length) (hbelow : ∀ (p : Nat) (u : Step), T[p]? = some u → listed.getD u.i false = true ∨ p = q → p < c')
    (hlouds : ∀ (p : Nat) (u : Step), T[p]? = some u → p < c' → u.k = 2 → listed.getD u.i false = true ∨ p = q) (hat : c' = T.length ∨ ∃ u, T[c']? = some u ∧ u.k = 2) (hhr : HR n w0 G σ' (stateAt T sf c').lh w')
    (hfree : ∀ (p : Nat) (u : Step), T[p]? = some u → p < c' → u.k = 1 → listed.getD u.i false = false → p ≠ q → σ' u.s.lh.length = none) :
    InvC n w0 G ops T s0 sf σ0 σ' c' (listed.setIfInBounds t.i true) (a.put (dstOf ops t) v') w' := by
  have hlt : t.i < listed.size := by rw [hi.size]; exact h.lt t (mem_of_at ht)
  have hL := getD_listed hlt
  have hpq : ∀ (p : Nat) (u : Step), T[p]? = some u → (u.i = t.i ↔ p = q) := fun p u hu => ⟨fun e => h.inj p q u t hu ht e, fun e => by subst e; rw [ht] at hu; cases hu; rfl⟩
  have hL2 : ∀ (p : Nat) (u : Step), T[p]? = some u → ((listed.setIfInBounds t.i true).getD u.i false = true ↔ listed.getD u.i false = true ∨ p = q) := fun p u hu => by
    rw [hL, ← hpq p u hu]
    split
    · rename_i e; simp [e]
    · rename_i e; simp [e]
  refine ⟨hcle, by simp [hi.size], hext, fun i j hij hj => ?_, fun p u hu hl => hbelow p u hu ((hL2 p u hu).1 hl), fun p u hu hp hk => (hL2 p u hu).2 (hlouds p u hu hp hk), hat, hhr, fun p u hu hp hk hl => ?_, by rw [put_size]; exact hi.sz, by rw [put_defers]; exact hi.df, fun tt p hp hw => ?_⟩
  · rw [hL] at hij ⊢
    split
    · rfl
    · split at hij
      · rename_i e; subst e; exact hdeps j hj
      · exact hi.closed i j hij hj
  · have hnl : ¬ (listed.getD u.i false = true ∨ p = q) := fun hh => by rw [(hL2 p u hu).2 hh] at hl; cases hl
    refine hfree p u hu hp hk ?_ fun e => hnl (.inr e)
    cases e : listed.getD u.i false with
    | false => rfl
    | true => exact absurd (.inl e) hnl
  · rw [getD_put, hi.sz]
    by_cases hd : dstOf ops t = some tt
    · -- t writes tt
      have hqp : q < p := (hw q t ht hd).2 ((hL2 q t ht).2 (.inr rfl))
      obtain ⟨o, ho, _⟩ := h.ok t (mem_of_at ht)
      have hlast : ∀ (r : Nat) (u : Step), q + 1 ≤ r → r < p → T[r]? = some u → dstOf ops u ≠ some tt := fun r u hr hrp hu hdu => by
        have h1 := (hL2 r u hu).1 ((hw r u hu hdu).1 hrp)
        rcases h1 with h1 | h1
        · obtain ⟨ou, hou, _⟩ := h.ok u (mem_of_at hu)
          have hn2 : tt ∈ named ops ou := by
            have : ou.dst = some tt := by rw [dstOf, hou, Option.bind_some] at hdu; exact hdu
            simp [named, this]
          have hor := h.tmps q r t u ou tt ht hu hou hn2 hd (by omega)
          simp only [ordered, Bool.or_eq_true] at hor
          rcases hor with hor | hor
          · have := hi.closed u.i t.i h1 hor
            rw [hn] at this; cases this
          · obtain ⟨p', u', hp', hu', e⟩ := h.before q t u.i ht hor
            have := h.inj p' r u' u hu' hu e
            omega
        · omega
      have hst := h.tmp_stays (p := q + 1) (tt := tt) (c := p) (by omega) hp hlast
      rw [(chain_at h.ch).2 q t ht] at hst
      have hst2 : (stateAt T sf p).tmps.getD tt undef = (putL t.s.tmps (dstOf ops t) t.v).getD tt undef := hst
      rw [hst2, getD_putL]
      have hlen : t.s.tmps.length = s0.tmps.length := by
        have := h.tmps_len (q := q) (by have := (List.getElem?_eq_some_iff.1 ht).1; omega)
        rwa [stateAt_of ht] at this
      rw [hlen]
      by_cases hb : tt < s0.tmps.length
      · rw [if_pos ⟨hd, hb⟩, if_pos ⟨hd, hb⟩]; exact hv
      · rw [if_neg (fun hh => hb hh.2), if_neg (fun hh => hb hh.2)]
        have : t.s.tmps.getD tt undef = undef := by simp [List.getElem?_eq_none (show t.s.tmps.length ≤ tt by omega)]
        rw [this]; exact VR.any _
    · rw [if_neg (fun hh => hd hh.1)]
      refine (hi.tm tt p hp fun r u hu hdu => ?_).mono hle
      rw [hw r u hu hdu, hL2 r u hu]
      constructor
      · rintro (hh | hh)
        · exact hh
        · subst hh; rw [ht] at hu; cases hu; exact absurd hdu hd
      · exact .inl
end
end Go.Sx
