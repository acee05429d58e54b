
/- Contracts over worlds of which a set of blocks is kept. No condition of its own. -/
import Derived.Test.YthfoljgaiincdaaDoorSxMd
namespace Go.Sx
open Go Go.RowKit
set_option linter.unusedVariables false
set_option linter.unusedSimpArgs false
theorem frame_okG {K : Nat → Prop} {T : World → Prop} (hT : ∀ (X : Nat → Prop) w w', (∀ k, K k → X k) → T w → Kept X w w' → T w') {P : Program} {f : FuncId} {F0 : List Value → List Blk → M (Value × List Blk)}
    (h0 : ∀ (X : Nat → Prop) (w0 : World), (∀ k, K k → X k) → Bnd X w0 → T w0 → ∀ args lh r, (F0 args lh).get = some r → CallTo P X w0 0 f args lh r) :
    ∀ (X : Nat → Prop) (w0 : World), (∀ k, K k → X k) → Bnd X w0 → T w0 → ∀ args lh r, (frameM F0 args lh).get = some r → CallTo P X w0 0 f args lh r := by
  intro X w0 hX0 hB hTw args lh r h
  unfold frameM at h
  generalize argIds args lh = ρ at h
  cases hc : nodupB ρ && ρ.all fun k => Nat.blt k lh.length with
  | false => rw [hc] at h; cases h
  | true =>
  rw [hc] at h
  rw [Bool.and_eq_true, List.all_eq_true] at hc
  obtain ⟨hnd, hlt⟩ := hc
  have hnd := nodupB_ok ρ hnd
  have hlt : ∀ j k, ρ[j]? = some k → k < lh.length := fun j k hk => blt_true (hlt k (List.mem_of_getElem? hk))
  obtain ⟨r0, hF, h⟩ := M.get_bind_some h
  cases hc : Nat.ble ρ.length r0.2.length && (r0.2.drop ρ.length).all newOK with
  | false => rw [hc] at h; cases h
  | true =>
  rw [hc] at h
  rw [Bool.and_eq_true, List.all_eq_true] at hc
  obtain ⟨hle, hnew⟩ := hc
  have hle := ble_true hle
  have hnew : ∀ j, ρ.length ≤ j → (r0.2.getD j .dead).alive = true → (r0.2.getD j .dead).owned = true := fun j hj ha => by
    by_cases hjl : j < r0.2.length
    · have := hnew (r0.2.getD j .dead) (by
        rw [List.mem_iff_getElem?]
        exact ⟨j - ρ.length, by rw [List.getElem?_drop, show ρ.length + (j - ρ.length) = j by omega, List.getD_eq_getElem?_getD, List.getElem?_eq_getElem hjl]; rfl⟩)
      simp only [newOK, ha, Bool.not_true, Bool.or_false] at this
      exact this
    · rw [List.getD_eq_getElem?_getD, List.getElem?_eq_none (by omega)] at ha; cases ha
  simp only [cond_true, M.get_ret, Option.some.injEq] at h
  subst h
  -- positions
  have pos : ∀ k j, posOf ρ 0 k = some j → ρ[j]? = some k := fun k j hp => by
    have := (posOf_spec ρ 0 k j hp).2; simpa using this
  have hkeep : ∀ k, k < lh.length → (lh.getD k .dead).mine = false → (backL ρ lh r0.2).getD k .dead = lh.getD k .dead := fun k hk hm => by
    rw [backL_get, if_pos hk]
    unfold backOld
    split
    · rw [hm]; rfl
    · rfl
  refine ⟨⟨by simp [backL], fun k hk hw => hkeep k hk (by unfold Blk.mine; rw [hw]; simp)⟩, fun σ w args' hr hargs => ?_⟩
  -- the blocks that stay
  let X' : Nat → Prop := fun b => b < w.heap.size ∧ ∀ (j k : Nat) (p : Pl), ρ[j]? = some k → (lh.getD k .dead).mine = true → σ k = some p → p.b ≠ b
  have own : ∀ k, (lh.getD k .dead).mine = true → (lh.getD k .dead).owned = true := fun k hk => by
    unfold Blk.mine at hk; rw [Bool.and_eq_true] at hk; exact hk.1
  have hXX : ∀ b, X b → X' b := fun b hb => ⟨Nat.lt_of_lt_of_le (hB b hb) hr.below.size, fun j k p _ hm hk e => ((hr.blk k p hk).1 (own k hm)).1 (e ▸ hb)⟩
  have hfoc : ∀ j k, ρ[j]? = some k → (ρ.map (focB ρ lh)).getD j .dead = focB ρ lh k := fun j k hk => by
    rw [List.getD_eq_getElem?_getD, List.getElem?_map, hk]; rfl
  have hfo : ∀ k, (focB ρ lh k).owned = true → (lh.getD k .dead).mine = true := fun k hk => by
    unfold focB at hk
    cases hm : (lh.getD k .dead).mine with
    | true => rfl
    | false => rw [hm, cond_false, weak_owned] at hk; cases hk
  have hfa : ∀ k, (focB ρ lh k).alive = (lh.getD k .dead).alive := fun k => by
    unfold focB
    cases (lh.getD k .dead).mine
    · rw [cond_false, weak_alive, renB_alive]
    · rw [cond_true, renB_alive]
  have hr0 : HR X' w 0 (pull ρ σ) (ρ.map (focB ρ lh)) w := by
    refine ⟨fun k hk => hk.1, Kept.refl _ _, fun g hg => by omega, fun k p hk => ?_, fun k p hk => ?_, fun k k' p p' hk hk' ho hl hbb => ?_, fun k p hk => ?_⟩
    · obtain ⟨k0, h1, _⟩ := pull_some hk
      simp only [List.length_map]
      exact (List.getElem?_eq_some_iff.1 h1).1
    · obtain ⟨k0, _, h2⟩ := pull_some hk
      exact hr.lt k0 p h2
    · obtain ⟨j, h1, h2⟩ := pull_some hk
      obtain ⟨j', h1', h2'⟩ := pull_some hk'
      rw [hfoc k j h1] at ho
      rw [hfoc k' j' h1', hfa] at hl
      have := hr.inj j j' p p' h2 h2' (own j (hfo j ho)) hl hbb
      subst this
      exact nodup_inj hnd h1 h1'
    · obtain ⟨j, h1, h2⟩ := pull_some hk
      rw [hfoc k j h1]
      have hb := (hr.blk j p h2).renamed (ren_pull ρ σ)
      unfold focB
      cases hm : (lh.getD j .dead).mine with
      | true => exact hb.sets fun _ hx => hx.2 k j p h1 hm h2 rfl
      | false => exact hb.weak.sets fun ho => by rw [weak_owned] at ho; cases ho
  have ha0 : VRA (pull ρ σ) (args.map (ren (posOf ρ 0) 4)).toArray args' := by
    obtain ⟨h1, h2⟩ := map_VR (σ' := pull ρ σ) (h := ren (posOf ρ 0) 4) hargs.1 fun i x y hx hy => (hargs.2 i x y hx hy).renamed (ren_pull ρ σ) 4 x y
    exact ⟨h1, h2⟩
  have hX'0 : ∀ k, K k → X' k := fun k hk => hXX k (hX0 k hk)
  obtain ⟨_, hcall⟩ := h0 X' w hX'0 (fun k hk => hk.1) (hT X w0 w hX0 hTw hr.below) _ _ _ hF
  refine (hcall (pull ρ σ) w args' hr0 ha0).mono fun e w' hh => ?_
  obtain ⟨v', rfl, σ0, hext, hv, hr'⟩ := hh
  simp only [List.length_map] at hext
  let σ' : Nat → Option Pl := fun k => if k < lh.length then σ k else σ0 (ρ.length + (k - lh.length))
  have hold : ∀ k, k < lh.length → σ' k = σ k := fun k hk => if_pos hk
  have hnw : ∀ k, lh.length ≤ k → σ' k = σ0 (ρ.length + (k - lh.length)) := fun k hk => if_neg (by omega)
  have hLe : Le σ σ' := fun k p hk => by rw [hold k (hr.dom k p hk)]; exact hk
  have hpull : ∀ j k, ρ[j]? = some k → σ0 j = σ k := fun j k hk => by
    rw [hext.2 j (List.getElem?_eq_some_iff.1 hk).1]; unfold pull; rw [hk]; rfl
  have hren : Ren (backF ρ lh.length) σ0 σ' := fun j k p hj hk => by
    unfold backF at hj
    cases hc : Nat.blt j ρ.length with
    | true =>
      rw [hc, cond_true] at hj
      rw [hold k (hlt j k hj), ← hpull j k hj]; exact hk
    | false =>
      rw [hc, cond_false, Option.some.injEq] at hj
      have : ρ.length ≤ j := by
        rcases Nat.lt_or_ge j ρ.length with hh | hh
        · rw [show Nat.blt j ρ.length = true by simpa [Nat.blt_eq] using hh] at hc; cases hc
        · exact hh
      rw [hnw k (by omega), show ρ.length + (k - lh.length) = j by omega]; exact hk
  -- which of the small blocks one is
  have small : ∀ k, (∃ j, posOf ρ 0 k = some j ∧ (lh.getD k .dead).mine = true ∧ k < lh.length) ∨ (k < lh.length ∧ (backL ρ lh r0.2).getD k .dead = lh.getD k .dead ∧ ∀ j : Nat, ρ[j]? = some k → (lh.getD k .dead).mine = false) ∨ lh.length ≤ k := by
    intro k
    by_cases hk : k < lh.length
    · cases hp : posOf ρ 0 k with
      | some j =>
        cases hm : (lh.getD k .dead).mine with
        | true => exact .inl ⟨j, rfl, rfl, hk⟩
        | false => exact .inr (.inl ⟨hk, hkeep k hk hm, fun _ _ => rfl⟩)
      | none =>
        refine .inr (.inl ⟨hk, ?_, fun j hj => ?_⟩)
        · rw [backL_get, if_pos hk]; unfold backOld; rw [hp]
        · obtain ⟨q, hq⟩ := posOf_some ρ 0 j k hj
          rw [hp] at hq; cases hq
    · exact .inr (.inr (by omega))
  have getA : ∀ k j, posOf ρ 0 k = some j → (lh.getD k .dead).mine = true → k < lh.length → (backL ρ lh r0.2).getD k .dead = renB (backF ρ lh.length) (r0.2.getD j .dead) := fun k j hp hm hk => by
    rw [backL_get, if_pos hk]; unfold backOld; rw [hp]
    simp only [hm, cond_true]
  have getC : ∀ k, lh.length ≤ k → (backL ρ lh r0.2).getD k .dead = renB (backF ρ lh.length) (r0.2.getD (ρ.length + (k - lh.length)) .dead) := fun k hk => by
    rw [backL_get, if_neg (by omega)]
  have hin : ∀ k p, k < lh.length → (∀ j : Nat, ρ[j]? = some k → (lh.getD k .dead).mine = false) → (lh.getD k .dead).alive = true → σ k = some p → X' p.b := fun k p hk hn ha hs => by
    refine ⟨hr.lt k p hs, fun j k1 p1 hj hm h1 e => ?_⟩
    have := hr.inj k1 k p1 p h1 hs (own k1 hm) ha e
    subst this
    rw [hn j hj] at hm; cases hm
  refine ⟨v', rfl, σ', ⟨hLe, fun k hk => hold k hk⟩, hv.renamed hren 4 _ _, hr.hn, hr.below.trans (hr'.below.mono hXX), fun g hg => by omega, fun k p hk => ?_, fun k p hk => ?_, fun k k' p p' hk hk' ho hl hbb => ?_, fun k p hk => ?_⟩
  · by_cases hkl : k < lh.length
    · simp [backL]; omega
    · rw [hnw k (by omega)] at hk
      have := hr'.dom _ _ hk
      simp [backL]; omega
  · by_cases hkl : k < lh.length
    · rw [hold k hkl] at hk
      exact Nat.lt_of_lt_of_le (hr.lt k p hk) hr'.below.size
    · rw [hnw k (by omega)] at hk
      exact hr'.lt _ _ hk
  · -- no two names of one block
    have own0 : ∀ j p, σ0 j = some p → (r0.2.getD j .dead).owned = true → ¬ X' p.b := fun j p hj hj2 => ((hr'.blk j p hj).1 hj2).1
    rcases small k with ⟨j, hp, hm, hkl⟩ | ⟨hkl, hge, hne⟩ | hkl
    · rw [getA k j hp hm hkl, renB_owned] at ho
      rw [hold k hkl] at hk
      have hk0 : σ0 j = some p := (hpull j k (pos k j hp)).trans hk
      rcases small k' with ⟨j', hp', hm', hkl'⟩ | ⟨hkl', hge', hne'⟩ | hkl'
      · rw [getA k' j' hp' hm' hkl', renB_alive] at hl
        rw [hold k' hkl'] at hk'
        have := hr'.inj j j' p p' hk0 ((hpull j' k' (pos k' j' hp')).trans hk') ho hl hbb
        subst this
        have e1 := pos k j hp
        rw [pos k' j hp'] at e1
        exact (Option.some.inj e1).symm
      · rw [hge'] at hl
        rw [hold k' hkl'] at hk'
        exact absurd (hbb ▸ hin k' p' hkl' hne' hl hk') (own0 j p hk0 ho)
      · rw [getC k' hkl', renB_alive] at hl
        rw [hnw k' hkl'] at hk'
        have := hr'.inj j _ p p' hk0 hk' ho hl hbb
        have hjl := (List.getElem?_eq_some_iff.1 (pos k j hp)).1
        omega
    · rw [hge] at ho
      rw [hold k hkl] at hk
      have hXp := hin k p hkl hne (owned_alive ho) hk
      rcases small k' with ⟨j', hp', hm', hkl'⟩ | ⟨hkl', hge', hne'⟩ | hkl'
      · rw [hold k' hkl'] at hk'
        exact (hr.inj k' k p' p hk' hk (own k' hm') (owned_alive ho) hbb.symm).symm
      · rw [hge'] at hl
        rw [hold k' hkl'] at hk'
        exact hr.inj k k' p p' hk hk' ho hl hbb
      · rw [getC k' hkl', renB_alive] at hl
        rw [hnw k' hkl'] at hk'
        exact absurd (hbb ▸ hXp) (own0 _ p' hk' (hnew _ (by omega) hl))
    · rw [getC k hkl, renB_owned] at ho
      rw [hnw k hkl] at hk
      rcases small k' with ⟨j', hp', hm', hkl'⟩ | ⟨hkl', hge', hne'⟩ | hkl'
      · rw [getA k' j' hp' hm' hkl', renB_alive] at hl
        rw [hold k' hkl'] at hk'
        have := hr'.inj _ j' p p' hk ((hpull j' k' (pos k' j' hp')).trans hk') ho hl hbb
        have hjl := (List.getElem?_eq_some_iff.1 (pos k' j' hp')).1
        omega
      · rw [hge'] at hl
        rw [hold k' hkl'] at hk'
        exact absurd (hbb ▸ hin k' p' hkl' hne' hl hk') (own0 _ p hk ho)
      · rw [getC k' hkl', renB_alive] at hl
        rw [hnw k' hkl'] at hk'
        have := hr'.inj _ _ p p' hk hk' ho hl hbb
        omega
  · rcases small k with ⟨j, hp, hm, hkl⟩ | ⟨hkl, hge, hne⟩ | hkl
    · rw [getA k j hp hm hkl]
      rw [hold k hkl] at hk
      have hb := (hr'.blk j p ((hpull j k (pos k j hp)).trans hk))
      exact (hb.renamed hren).sets fun ho hx => (hb.1 (by rwa [renB_owned] at ho)).1 (hXX _ hx)
    · rw [hge]
      rw [hold k hkl] at hk
      cases ha : (lh.getD k .dead).alive with
      | false =>
        cases hd : lh.getD k .dead with
        | dead => exact ⟨fun e => (by cases e), trivial⟩
        | _ => rw [hd] at ha; cases ha
      | true =>
        have hXp := hin k p hkl hne ha hk
        have hblk := hr'.below.block p.b hXp
        exact (hr.blk k p hk).mono hLe hblk
    · rw [getC k hkl]
      rw [hnw k hkl] at hk
      have hb := hr'.blk _ p hk
      exact (hb.renamed hren).sets fun ho hx => (hb.1 (by rwa [renB_owned] at ho)).1 (hXX _ hx)
def SoundG (K : Nat → Prop) (P : Program) (T : World → Prop) (f : FuncId) (F : Orc) : Prop :=
  (∃ fn, FnOK P f fn) ∧ ∀ (X : Nat → Prop) (w0 : World), (∀ k, K k → X k) → Bnd X w0 → T w0 → ∀ args lh r, (F args lh).get = some r → CallTo P X w0 0 f args lh r
theorem SoundG.frame {K : Nat → Prop} {P : Program} {T : World → Prop} (hT : ∀ (X : Nat → Prop) w w', (∀ k, K k → X k) → T w → Kept X w w' → T w') {f : FuncId} {F : Orc} (h : SoundG K P T f F) : SoundG K P T f (frameM F) := ⟨h.1, frame_okG hT h.2⟩
def SoundsG (K : Nat → Prop) (P : Program) (T : World → Prop) (l : List (FuncId × Orc)) : Prop := ∀ e ∈ l, SoundG K P T e.1 e.2
theorem sounds_nilG {K : Nat → Prop} {P : Program} {T : World → Prop} : SoundsG K P T [] := fun e he => by cases he
theorem sounds_consG {K : Nat → Prop} {P : Program} {T : World → Prop} {f : FuncId} {F : Orc} {l : List (FuncId × Orc)} (h1 : SoundG K P T f F) (h : SoundsG K P T l) : SoundsG K P T ((f, F) :: l) := by
  intro e he
  rcases List.mem_cons.1 he with rfl | he
  · exact h1
  · exact h e he
theorem sounds_appendG {K : Nat → Prop} {P : Program} {T : World → Prop} {l l' : List (FuncId × Orc)} (h1 : SoundsG K P T l) (h : SoundsG K P T l') : SoundsG K P T (l ++ l') := by
  intro e he
  rcases List.mem_append.1 he with he | he
  · exact h1 e he
  · exact h e he
theorem orcOf_okG {K : Nat → Prop} {P : Program} {T : World → Prop} {l : List (FuncId × Orc)} (h : SoundsG K P T l) {X : Nat → Prop} {w0 : World} (h0 : ∀ k, K k → X k) (hB : Bnd X w0) (hT : T w0) :
    ∀ f F, orcOf l f = some F → (∃ fn, FnOK P f fn) ∧ ∀ args lh r, (F args lh).get = some r → CallTo P X w0 0 f args lh r := by
  intro f F hf
  unfold orcOf at hf
  split at hf
  · rename_i e he
    cases hf
    have hm := h e (List.mem_of_find?_eq_some he)
    rw [beq_true (List.find?_some (p := fun e : FuncId × Orc => Nat.beq e.1 f) he)] at hm
    exact ⟨hm.1, hm.2 X w0 h0 hB hT⟩
  · cases hf
def LpSoundG (K : Nat → Prop) (P : Program) (T : World → Prop) (f : FuncId) (id : Nat) (F : Nat → St → M (Exit × St)) : Prop :=
  ∃ fn c, P.funcs[f]? = some fn ∧ fn.body = some c ∧ (onlyBlk id c).isSome = true ∧ ∀ (X : Nat → Prop) (w0 : World), (∀ k, K k → X k) → Bnd X w0 → T w0 → ∀ base s e s', base ≤ s.lh.length → (F base s).get = some (e, s') → RunsB P X w0 0 base (.block id (blkAt id c)) s e s'
def LpSoundsG (K : Nat → Prop) (P : Program) (T : World → Prop) (l : List (FuncId × Nat × (Nat → St → M (Exit × St)))) : Prop := ∀ e ∈ l, LpSoundG K P T e.1 e.2.1 e.2.2
theorem lpSounds_nilG {K : Nat → Prop} {P : Program} {T : World → Prop} : LpSoundsG K P T [] := fun e he => by cases he
theorem lpSounds_consG {K : Nat → Prop} {P : Program} {T : World → Prop} {f : FuncId} {id : Nat} {F : Nat → St → M (Exit × St)} {l : List (FuncId × Nat × (Nat → St → M (Exit × St)))} (h1 : LpSoundG K P T f id F) (h : LpSoundsG K P T l) : LpSoundsG K P T ((f, id, F) :: l) := by
  intro e he
  rcases List.mem_cons.1 he with rfl | he
  · exact h1
  · exact h e he
theorem lpsOf_okG {K : Nat → Prop} {P : Program} {T : World → Prop} {l : List (FuncId × Nat × (Nat → St → M (Exit × St)))} (h : LpSoundsG K P T l) {X : Nat → Prop} {w0 : World} (h0 : ∀ k, K k → X k) (hB : Bnd X w0) (hT : T w0) :
    ∀ f id F, lpsOf l f id = some F → ∃ fn c, P.funcs[f]? = some fn ∧ fn.body = some c ∧ (onlyBlk id c).isSome = true ∧ ∀ base s e s', base ≤ s.lh.length → (F base s).get = some (e, s') → RunsB P X w0 0 base (.block id (blkAt id c)) s e s' := by
  intro f id F hf
  unfold lpsOf at hf
  split at hf
  · rename_i e he
    cases hf
    have hb := List.find?_some (p := fun e : FuncId × Nat × (Nat → St → M (Exit × St)) => Nat.beq e.1 f && Nat.beq e.2.1 id) he
    rw [Bool.and_eq_true] at hb
    obtain ⟨fn, c, h1, h2, h3, h4⟩ := h e (List.mem_of_find?_eq_some he)
    rw [beq_true hb.1] at h1
    rw [beq_true hb.2] at h3 h4
    exact ⟨fn, c, h1, h2, h3, h4 X w0 h0 hB hT⟩
  · cases hf
theorem mkEnv_okG {K : Nat → Prop} {P : Program} {T : World → Prop} {fns : List (FuncId × Func)} {eqs : List (TypeId × List Bool)} {orcs : List (FuncId × Orc)} {lps : List (FuncId × Nat × (Nat → St → M (Exit × St)))}
    (he : ∀ e ∈ eqs, eqTypeOK P e.1 e.2 = true) (hm : P.follows .mixedOrders = true) (hf : ∀ e ∈ fns, FnOK P e.1 e.2) (ho : SoundsG K P T orcs) (hl : LpSoundsG K P T lps) {X : Nat → Prop} {w0 : World} (h0 : ∀ k, K k → X k) (hB : Bnd X w0) (hT : T w0) :
    EnvOK (mkEnv P fns eqs orcs lps) X w0 where
  eqs := he
  mixed := hm
  fns := hf
  orc := orcOf_okG ho h0 hB hT
  lps := by
    intro f id F hF fn c hmem hb b' hbm base s e s' hbs hs
    obtain ⟨fn2, c2, h1, h2, h3, h4⟩ := lpsOf_okG hl h0 hB hT f id F hF
    have h5 := (hf _ hmem).1
    rw [h1] at h5
    cases h5
    rw [h2] at hb
    cases hb
    rw [onlyBlk_eq h3 hbm]
    exact h4 base s e s' hbs hs
theorem LpSoundG.of_loop {K : Nat → Prop} {P : Program} {T : World → Prop} {f : FuncId} {fn : Func} {c : Code} {id : Nat} {N b0 : Nat} {keep keep2 : List Nat} {F : List Value → List Blk → M (Exit × List Value × List Blk)}
    (hf : P.funcs[f]? = some fn) (hb : fn.body = some c) (ho : (onlyBlk id c).isSome = true)
    (h : ∀ (X : Nat → Prop) (w0 : World), (∀ k, K k → X k) → Bnd X w0 → T w0 → ∀ vals lh e vals' lh', (F vals lh).get = some (e, vals', lh') → b0 ≤ lh.length → RunsB P X w0 0 b0 (.block id (blkAt id c)) (unpack N keep vals lh) e (unpack N keep2 vals' lh')) :
    LpSoundG K P T f id (loopV N keep keep2 F b0) :=
  ⟨fn, c, hf, hb, ho, fun X w0 h0 hB hT base s e s' hbs hs => loopV_ok (Nat.zero_le _) (h X w0 h0 hB hT) hbs hs⟩
theorem LpSoundG.of_spec {K : Nat → Prop} {P : Program} {T : World → Prop} {f : FuncId} {fn : Func} {c : Code} {id : Nat} {N b0 : Nat} {keep keep2 : List Nat} {Par : Type} {parse : List Value → List Blk → Par} {V : Par → List Value} {H : Par → List Blk} {OK : Par → Prop} {out : Par → Exit × List Value × List Blk}
    (hf : P.funcs[f]? = some fn) (hb : fn.body = some c) (ho : (onlyBlk id c).isSome = true)
    (h : ∀ (X : Nat → Prop) (w0 : World), (∀ k, K k → X k) → Bnd X w0 → T w0 → ∀ p, OK p → RunsB P X w0 0 b0 (.block id (blkAt id c)) (unpack N keep (V p) (H p)) (out p).1 (unpack N keep2 (out p).2.1 (out p).2.2)) :
    LpSoundG K P T f id (loopV N keep keep2 (specL parse V H OK out) b0) :=
  LpSoundG.of_loop hf hb ho fun X w0 h0 hB hT vals lh e vals' lh' hF _ => by
    rcases M.get_br_some hF with ⟨hc, hF2⟩ | ⟨_, hF2⟩
    · obtain ⟨e1, e2, e3⟩ := sure_iff.1 hc
      simp only [M.get_ret, Option.some.injEq] at hF2
      have := h X w0 h0 hB hT _ e3
      rw [hF2, ← e1, ← e2] at this
      exact this
    · cases hF2
theorem SoundG.of_spec {K : Nat → Prop} {P : Program} {T : World → Prop} {f : FuncId} {fn : Func} (hf : FnOK P f fn) {Par : Type} {parse : List Value → List Blk → Par} {A : Par → List Value} {H : Par → List Blk} {OK : Par → Prop} {out : Par → Value × List Blk} {E : Env} (hP : E.P = P) (hG : E.G = 0)
    (hE : ∀ (X : Nat → Prop) (w0 : World), (∀ k, K k → X k) → Bnd X w0 → T w0 → EnvOK E X w0) (fuel : Nat) (h : ∀ p, OK p → (callV E fuel f (A p) (H p)).get = some (out p)) : SoundG K P T f (specO parse A H OK out) := by
  refine ⟨⟨fn, hf⟩, fun X w0 h0 hB hT args lh r hr => ?_⟩
  rcases M.get_br_some hr with ⟨hc, hF2⟩ | ⟨_, hF2⟩
  · obtain ⟨e1, e2, e3⟩ := sure_iff.1 hc
    simp only [M.get_ret, Option.some.injEq] at hF2
    have := h _ e3
    rw [hF2, ← e1, ← e2] at this
    have := callV_ok (hE X w0 h0 hB hT) hG this
    rw [hP, hG] at this
    exact this
  · cases hF2
theorem SoundG.of_run {K : Nat → Prop} {P : Program} {T : World → Prop} {f : FuncId} {fn : Func} (hf : FnOK P f fn) {F : Orc} {E : Env} (hP : E.P = P) (hG : E.G = 0) (hE : ∀ (X : Nat → Prop) (w0 : World), (∀ k, K k → X k) → Bnd X w0 → T w0 → EnvOK E X w0) (fuel : Nat)
    (h : ∀ args lh r, (F args lh).get = some r → (callV E fuel f args lh).get = some r) : SoundG K P T f F := by
  refine ⟨⟨fn, hf⟩, fun X w0 h0 hB hT args lh r hr => ?_⟩
  have := callV_ok (hE X w0 h0 hB hT) hG (h args lh r hr)
  rw [hP, hG] at this
  exact this
theorem Sound.toG {K : Nat → Prop} {P : Program} {T T' : World → Prop} {f : FuncId} {F : Orc} (hK : K 0) (hT : ∀ w, T' w → T w) (h : Sound P T f F) : SoundG K P T' f F := ⟨h.1, fun X w0 h0 hB hT' => h.2 X w0 (h0 0 hK) hB (hT w0 hT')⟩
theorem Sounds.toG {K : Nat → Prop} {P : Program} {T T' : World → Prop} {l : List (FuncId × Orc)} (hK : K 0) (hT : ∀ w, T' w → T w) (h : Sounds P T l) : SoundsG K P T' l := fun e he => (h e he).toG hK hT
theorem LpSound.toG {K : Nat → Prop} {P : Program} {T T' : World → Prop} {f : FuncId} {id : Nat} {F : Nat → St → M (Exit × St)} (hK : K 0) (hT : ∀ w, T' w → T w) (h : LpSound P T f id F) : LpSoundG K P T' f id F := by
  obtain ⟨fn, c, h1, h2, h3, h4⟩ := h
  exact ⟨fn, c, h1, h2, h3, fun X w0 h0 hB hT' => h4 X w0 (h0 0 hK) hB (hT w0 hT')⟩
end Go.Sx
