
/- retire: the program's step and the document's tell one. No condition of its own. -/
import Derived.Test.YthfoljgaiincdaaGreatDoorRetA
import Derived.Test.YthfoljgaiincdaaGreatDoorLawGen
import Derived.Test.YthfoljgaiincdaaGreatDoorWords
namespace Go.Proofs.YthfoljgaiincdaaGreatDoor
open Go.RowKit Go.Fld Go.Sx
set_option linter.unusedVariables false
set_option linter.unusedSimpArgs false
/-! ### The program's step, by where it is -/
theorem rstep_swap {n : Nat} {l : List Int} {q : Rq} (h : q.f = fSwap) : rstep n l q = bif rHit n l q then ⟨q.cell, (rNext q).getD 0, q.ep, fLook, true, q.dn⟩ else rEnd q := by unfold rstep; rw [h]; rfl
theorem rstep_look {n : Nat} {l : List Int} {q : Rq} (h : q.f = fLook) : rstep n l q = ⟨q.cell, q.word, ldS n l 2, fAge, q.sw, q.dn⟩ := by unfold rstep; rw [h]; rfl
theorem rstep_age {n : Nat} {l : List Int} {q : Rq} (h : q.f = fAge) : rstep n l q = ⟨q.cell, q.word, q.ep, fGoOn, q.sw, q.dn⟩ := by unfold rstep; rw [h]; rfl
theorem rstep_go {n : Nat} {l : List Int} {q : Rq} (h : q.f = fGoOn) : rstep n l q = rEnd q := by unfold rstep; rw [h]; rfl
theorem rstep_end {n : Nat} {l : List Int} {q : Rq} (h : q.f = fEnd) : rstep n l q = rEnd q := by unfold rstep; rw [h]; rfl
theorem rmem_swap {n : Nat} {l : List Int} {q : Rq} (h : q.f = fSwap) : rmem n l q = bif (rNext q).isSome then casS n l q.cell q.word ((rNext q).getD 0) else l := by unfold rmem; rw [h]; rfl
theorem rmem_look {n : Nat} {l : List Int} {q : Rq} (h : q.f = fLook) : rmem n l q = l := by unfold rmem; rw [h]; rfl
theorem rmem_age {n : Nat} {l : List Int} {q : Rq} (h : q.f = fAge) : rmem n l q = bif (rAged q).isSome then casS n l q.cell q.word ((rAged q).getD 0) else l := by unfold rmem; rw [h]; rfl
theorem rmem_go {n : Nat} {l : List Int} {q : Rq} (h : q.f = fGoOn) : rmem n l q = addS n l 2 1 := by unfold rmem; rw [h]; rfl
theorem rmem_end {n : Nat} {l : List Int} {q : Rq} (h : q.f = fEnd) : rmem n l q = l := by unfold rmem; rw [h]; rfl
theorem rtch_swap {n : Nat} {q : Rq} {t : Int} (h : q.f = fSwap) : rtch n q t = bif (rNext q).isSome then tcS n q.cell t else t := by unfold rtch; rw [h]; rfl
theorem rtch_look {n : Nat} {q : Rq} {t : Int} (h : q.f = fLook) : rtch n q t = tcS n 2 t := by unfold rtch; rw [h]; rfl
theorem rtch_age {n : Nat} {q : Rq} {t : Int} (h : q.f = fAge) : rtch n q t = bif (rAged q).isSome then tcS n q.cell t else t := by unfold rtch; rw [h]; rfl
theorem rtch_go {n : Nat} {q : Rq} {t : Int} (h : q.f = fGoOn) : rtch n q t = tcS n 2 t := by unfold rtch; rw [h]; rfl
theorem rtch_end {n : Nat} {q : Rq} {t : Int} (h : q.f = fEnd) : rtch n q t = t := by unfold rtch; rw [h]; rfl
theorem rret_swap {n : Nat} {l : List Int} {q : Rq} (h : q.f = fSwap) : rret n l q = !rHit n l q := by unfold rret; rw [h]; rfl
theorem rret_look {n : Nat} {l : List Int} {q : Rq} (h : q.f = fLook) : rret n l q = false := by unfold rret; rw [h]; rfl
theorem rret_age {n : Nat} {l : List Int} {q : Rq} (h : q.f = fAge) : rret n l q = false := by unfold rret; rw [h]; rfl
theorem rret_go {n : Nat} {l : List Int} {q : Rq} (h : q.f = fGoOn) : rret n l q = true := by unfold rret; rw [h]; rfl
theorem rret_end {n : Nat} {l : List Int} {q : Rq} (h : q.f = fEnd) : rret n l q = true := by unfold rret; rw [h]; rfl
theorem rOK_of {f : Nat} (h : f = fSwap ∨ f = fLook ∨ f = fAge ∨ f = fGoOn ∨ f = fEnd) : rOK f = true := by
  rcases h with rfl | rfl | rfl | rfl | rfl <;> rfl
theorem rstep_f (n : Nat) (l : List Int) (q : Rq) : rOK (rstep n l q).f = true := by
  unfold rstep
  cases Nat.beq q.f fSwap with
  | true => simp only [cond_true]; cases rHit n l q <;> rfl
  | false =>
    cases Nat.beq q.f fLook with
    | true => rfl
    | false => cases Nat.beq q.f fAge <;> rfl
theorem rmem_length (n : Nat) (l : List Int) (q : Rq) : (rmem n l q).length = l.length := by
  unfold rmem
  cases Nat.beq q.f fSwap with
  | true => simp only [cond_true]; cases (rNext q).isSome; rfl; exact casS_length _ _ _ _ _
  | false =>
    cases Nat.beq q.f fLook with
    | true => rfl
    | false =>
      cases Nat.beq q.f fAge with
      | true => simp only [cond_true, cond_false]; cases (rAged q).isSome; rfl; exact casS_length _ _ _ _ _
      | false =>
        cases Nat.beq q.f fGoOn with
        | true => exact addS_length _ _ _ _
        | false => rfl
theorem okM_r (n : Nat) (l : List Int) (q : Rq) : okM n (rmem n l q) = okM n l := by unfold okM; rw [rmem_length]
/-! ### Words behind a step -/
theorem optI {o : Option Slt} : I64i ((o.bind encS).getD 0) := by
  cases o with
  | none => exact ⟨by decide, by decide⟩
  | some s => exact encS_I
theorem aft_I (d : Int → Option Slt) (w k own more : Int) : I64i ((aftS d w k own more).getD 0) := optI
theorem aft_dec {w : Int} (h : I64i w) (k own more : Int) : aftS decA w k own more = aftS decS w k own more := by unfold aftS; rw [decA_eq w h]
theorem AllI.cas {l : List Int} (h : AllI l) (n : Nat) (i a : Int) {v : Int} (hv : I64i v) : AllI (casS n l i a v) := by
  unfold casS
  split
  · exact h.st _ _ hv
  · exact h
theorem AllI.add {l : List Int} (h : AllI l) (n : Nat) (i d : Int) : AllI (addS n l i d) := h.st _ _ (w64_I _)
theorem AllI.rmem {l : List Int} (h : AllI l) (n : Nat) (q : Rq) : AllI (rmem n l q) := by
  unfold Go.Proofs.YthfoljgaiincdaaGreatDoor.rmem
  cases Nat.beq q.f fSwap with
  | true => simp only [cond_true]; cases (rNext q).isSome; exact h; exact h.cas _ _ _ (aft_I _ _ _ _ _)
  | false =>
    cases Nat.beq q.f fLook with
    | true => exact h
    | false =>
      cases Nat.beq q.f fAge with
      | true => simp only [cond_true, cond_false]; cases (rAged q).isSome; exact h; exact h.cas _ _ _ (aft_I _ _ _ _ _)
      | false =>
        cases Nat.beq q.f fGoOn with
        | true => exact h.add _ _ _
        | false => exact h
/-! ### One as the other -/
structure RpInv (N : Nat) (l : List Int) (q : Rq) (h : Rr) : Prop where
  ok : okM N l = true
  I : AllI l
  cell : q.cell = cellC h.cf h.i
  sw : q.sw = h.sw
  dn : q.dn = h.dn
  ph : (q.f = fSwap ∧ h.st = 0 ∧ q.dn = false ∧ q.sw = false ∧ q.word = h.w ∧ I64i q.word) ∨ (q.f = fLook ∧ h.st = 1 ∧ q.dn = false ∧ q.word = h.w ∧ I64i q.word) ∨
    (q.f = fAge ∧ h.st = 2 ∧ q.dn = false ∧ q.word = h.w ∧ I64i q.word ∧ q.ep = h.e) ∨ (q.f = fGoOn ∧ h.st = 3 ∧ q.dn = false) ∨ (q.f = fEnd ∧ q.dn = true)
theorem RpInv.f {N : Nat} {l : List Int} {q : Rq} {h : Rr} (H : RpInv N l q h) : rOK q.f = true := by
  rcases H.ph with ⟨e, _⟩ | ⟨e, _⟩ | ⟨e, _⟩ | ⟨e, _⟩ | ⟨e, _⟩ <;> (rw [e]; rfl)
theorem RpInv.wrs {N : Nat} {l : List Int} {q : Rq} {h : Rr} (H : RpInv N l q h) {gi : Nat → Nat → Int} {nl : Nat} (hw : WrI gi nl) (i : Int) : RpInv N (wrsL N gi i nl l) q h :=
  ⟨by rw [okM_wrs]; exact H.ok, H.I.wrs N gi i nl hw, H.cell, H.sw, H.dn, H.ph⟩
theorem st0 : (w64 ((0 : Int) + 1) == 1) = true := by kernel_rfl
theorem st1 : (w64 ((1 : Int) + 1) == 1) = false ∧ (w64 ((1 : Int) + 1) == 2) = true := ⟨by kernel_rfl, by kernel_rfl⟩
theorem st2 : (w64 ((2 : Int) + 1) == 1) = false ∧ (w64 ((2 : Int) + 1) == 2) = false ∧ (w64 ((2 : Int) + 1) == 3) = true ∧ (w64 ((2 : Int) + 1) == 4) = false := ⟨by kernel_rfl, by kernel_rfl, by kernel_rfl, by kernel_rfl⟩
theorem st3 : (w64 ((3 : Int) + 1) == 1) = false ∧ (w64 ((3 : Int) + 1) == 2) = false ∧ (w64 ((3 : Int) + 1) == 3) = false ∧ (w64 ((3 : Int) + 1) == 4) = true := ⟨by kernel_rfl, by kernel_rfl, by kernel_rfl, by kernel_rfl⟩
theorem tc_eq (n : Nat) (i t u : Int) : w64 (tcS n i t - t) = w64 (tcS n i u - u) := by
  unfold tcS
  split
  · obtain ⟨a, ha⟩ := w64_mod (t + 1)
    obtain ⟨b, hb⟩ := w64_mod (u + 1)
    exact w64_congr (q := a - b) (by show w64 (t + 1) - t = w64 (u + 1) - u + _; omega)
  · rw [Int.sub_self, Int.sub_self]
structure RpStep (N : Nat) (l : List Int) (q : Rq) (h : Rr) : Prop where
  ret : rret N l q = (rrstep N l h).dn
  mem : rmem N l q = rrmem N l h
  tch : ∀ t u, w64 (rtch N q t - t) = w64 (rrtch N h u - u)
  inv : RpInv N (rmem N l q) (rstep N l q) (rrstep N l h)
theorem bt_tc (c : Bool) (n : Nat) (i t u : Int) : w64 ((bif c then tcS n i t else t) - t) = w64 ((bif c then tcS n i u else u) - u) := by
  cases c
  · simp only [cond_false, Int.sub_self]
  · exact tc_eq n i t u
theorem rp_step {N : Nat} {l : List Int} {q : Rq} {h : Rr} (H : RpInv N l q h) : RpStep N l q h := by
  have hok : okM N (rmem N l q) = true := by rw [okM_r]; exact H.ok
  have hI := H.I.rmem N q
  rcases H.ph with ⟨hf, hst, hd, hs, hw, hwI⟩ | ⟨hf, hst, hd, hw, hwI⟩ | ⟨hf, hst, hd, hw, hwI, he⟩ | ⟨hf, hst, hd⟩ | ⟨hf, hd⟩
  · have hd' : h.dn = false := H.dn.symm.trans hd
    have hs' : h.sw = false := H.sw.symm.trans hs
    have hn : rrNext h = rNext q := by unfold rrNext rNext; rw [← hw, aft_dec hwI]
    have hh : rrHit N l h = rHit N l q := by unfold rrHit rHit; rw [hn, ← H.cell, ← hw, hs']
    have e1 : rrstep N l h = ⟨h.cf, h.i, (rNext q).getD 0, h.e, w64 (0 + 1), rHit N l q, !rHit N l q⟩ := by unfold rrstep; rw [hd', hst, st0, hh, hn]; rfl
    have e2 : rrmem N l h = rmem N l q := by rw [rmem_swap hf]; unfold rrmem; rw [hd', hst, st0, hn, ← H.cell, ← hw]; rfl
    refine ⟨by rw [rret_swap hf, e1], e2.symm, fun t u => ?_, ?_⟩
    · rw [rtch_swap hf]
      have : rrtch N h u = bif (rNext q).isSome then tcS N q.cell u else u := by unfold rrtch; rw [hd', hst, st0, hn, ← H.cell]; rfl
      rw [this]
      exact bt_tc _ _ _ _ _
    · rw [e1, rstep_swap hf]
      cases hq : rHit N l q with
      | true => exact ⟨hok, hI, H.cell, rfl, hd, .inr (.inl ⟨rfl, by kernel_rfl, hd, rfl, aft_I _ _ _ _ _⟩)⟩
      | false => exact ⟨hok, hI, H.cell, hs, rfl, .inr (.inr (.inr (.inr ⟨rfl, rfl⟩)))⟩
  · have hd' : h.dn = false := H.dn.symm.trans hd
    have e1 : rrstep N l h = ⟨h.cf, h.i, h.w, ldS N l 2, w64 (1 + 1), h.sw, h.dn⟩ := by unfold rrstep; rw [hd', hst, st1.1, st1.2]; rfl
    have e2 : rrmem N l h = rmem N l q := by rw [rmem_look hf]; unfold rrmem; rw [hd', hst, st1.1, st1.2]; rfl
    refine ⟨by rw [rret_look hf, e1]; exact hd'.symm, e2.symm, fun t u => ?_, ?_⟩
    · rw [rtch_look hf]
      have : rrtch N h u = tcS N 2 u := by unfold rrtch; rw [hd', hst, st1.1, st1.2]; rfl
      rw [this]
      exact tc_eq _ _ _ _
    · rw [e1, rstep_look hf]
      exact ⟨hok, hI, H.cell, H.sw, H.dn, .inr (.inr (.inl ⟨rfl, by kernel_rfl, hd, hw, hwI, rfl⟩))⟩
  · have hd' : h.dn = false := H.dn.symm.trans hd
    obtain ⟨s1, s2, s3, s4⟩ := st2
    have hn : rrAged h = rAged q := by unfold rrAged rAged; rw [← hw, ← he, aft_dec hwI]
    have e1 : rrstep N l h = ⟨h.cf, h.i, h.w, h.e, w64 (2 + 1), h.sw, h.dn⟩ := by unfold rrstep; rw [hd', hst, s1, s2, s4]; rfl
    have e2 : rrmem N l h = rmem N l q := by rw [rmem_age hf]; unfold rrmem; rw [hd', hst, s1, s2, s3, hn, ← H.cell, ← hw]; rfl
    refine ⟨by rw [rret_age hf, e1]; exact hd'.symm, e2.symm, fun t u => ?_, ?_⟩
    · rw [rtch_age hf]
      have : rrtch N h u = bif (rAged q).isSome then tcS N q.cell u else u := by unfold rrtch; rw [hd', hst, s1, s2, s3, hn, ← H.cell]; rfl
      rw [this]
      exact bt_tc _ _ _ _ _
    · rw [e1, rstep_age hf]
      exact ⟨hok, hI, H.cell, H.sw, H.dn, .inr (.inr (.inr (.inl ⟨rfl, by kernel_rfl, hd⟩)))⟩
  · have hd' : h.dn = false := H.dn.symm.trans hd
    obtain ⟨s1, s2, s3, s4⟩ := st3
    have e1 : rrstep N l h = ⟨h.cf, h.i, h.w, h.e, w64 (3 + 1), h.sw, true⟩ := by unfold rrstep; rw [hd', hst, s1, s2, s4]; rfl
    have e2 : rrmem N l h = rmem N l q := by rw [rmem_go hf]; unfold rrmem; rw [hd', hst, s1, s2, s3, s4]; rfl
    refine ⟨by rw [rret_go hf, e1], e2.symm, fun t u => ?_, ?_⟩
    · rw [rtch_go hf]
      have : rrtch N h u = tcS N 2 u := by unfold rrtch; rw [hd', hst, s1, s2, s3, s4]; rfl
      rw [this]
      exact tc_eq _ _ _ _
    · rw [e1, rstep_go hf]
      exact ⟨hok, hI, H.cell, H.sw, rfl, .inr (.inr (.inr (.inr ⟨rfl, rfl⟩)))⟩
  · have hd' : h.dn = true := H.dn.symm.trans hd
    have e1 : rrstep N l h = h := by unfold rrstep; rw [hd']; rfl
    have e2 : rrmem N l h = rmem N l q := by rw [rmem_end hf]; unfold rrmem; rw [hd']; rfl
    refine ⟨by rw [rret_end hf, e1]; exact hd'.symm, e2.symm, fun t u => ?_, ?_⟩
    · rw [rtch_end hf]
      have : rrtch N h u = u := by unfold rrtch; rw [hd']; rfl
      rw [this, Int.sub_self, Int.sub_self]
    · rw [e1, rstep_end hf]
      exact ⟨hok, hI, H.cell, H.sw, hd'.symm, .inr (.inr (.inr (.inr ⟨rfl, rfl⟩)))⟩
end Go.Proofs.YthfoljgaiincdaaGreatDoor
