
/- StreamRace: the plain law. No condition of its own. -/
import Derived.Test.YthfoljgaiincdaaDoorStrB
namespace Go.Proofs.YthfoljgaiincdaaDoor
open Go.RowKit Go.Fld Go.Sx
set_option linter.unusedVariables false
set_option linter.unusedSimpArgs false
def rcf (S : Int) : Cf := ⟨1, 1, S, 0, 1⟩
/-- The streams that are open behind k that were opened. -/
def nK (n0 : Int) : Nat → Int
  | 0 => n0
  | k + 1 => nK n0 k + 2 ^ (lowI (nK n0 k)).toNat
def slK (n0 : Int) (k : Nat) : Slt := ⟨3, 0, nK n0 k, false, false, 0, 1, 0, k⟩
def wvK (n0 : Int) (k : Nat) : Int := (encS (slK n0 k)).getD 0
def memK (n0 : Int) (k : Nat) : List Int := [0, 0, 0, 0, 0, wvK n0 k]
/-- One that opens: where it is, what it looked at last, what it would swap. -/
structure Ap where
  ph : Nat
  jw : Nat
  js : Nat
def stA : Nat → Int
  | 0 => 0
  | 1 => 1
  | 2 => 2
  | _ => 3
def eA (p : Nat) : Int := bif Nat.beq p 4 then 10 else 0
def wA (n0 : Int) : Nat → Int
  | 0 => 0
  | j + 1 => wvK n0 j
def nxA (n0 : Int) : Nat → Int
  | 0 => 0
  | j + 1 => wvK n0 (j + 1)
def nuA (n0 : Int) : Nat → Int
  | 0 => 0
  | j + 1 => lowI (nK n0 j)
def conQ (S n0 : Int) (a : Ap) : Sq := ⟨rcf S, 0, 0, 1, stA a.ph, wA n0 a.jw, nxA n0 a.js, nuA n0 a.js, eA a.ph⟩
def aQ (m k : Nat) (a : Ap) : Ap :=
  bif Nat.beq a.ph 0 then ⟨1, a.jw, a.js⟩ else bif Nat.beq a.ph 1 then (bif Nat.blt k m then ⟨2, k + 1, k + 1⟩ else ⟨4, k + 1, a.js⟩) else
  bif Nat.beq a.ph 2 then (bif Nat.beq a.jw (k + 1) then ⟨3, a.jw, a.js⟩ else ⟨1, a.jw, a.js⟩) else a
def aK (k : Nat) (a : Ap) : Nat := bif Nat.beq a.ph 2 then (bif Nat.beq a.jw (k + 1) then k + 1 else k) else k
def gA (m k : Nat) (a : Ap) : Bool := Nat.ble a.ph 4 && Nat.ble k m && (bif Nat.beq a.ph 1 then Nat.blt k m || Nat.beq k m && Nat.blt m 2 else true) && (bif Nat.beq a.ph 2 then Nat.beq a.jw a.js && Nat.ble 1 a.jw && Nat.ble a.jw (k + 1) && Nat.ble a.jw m else true)
structure RcOK (S n0 : Int) (m : Nat) : Prop where
  m2 : m ≤ 2
  rng : ∀ k, k ≤ m → 0 ≤ nK n0 k ∧ nK n0 k ≤ 255
  more : ∀ k, k < m → lowI (nK n0 k) < S
  full : m < 2 → ¬ lowI (nK n0 m) < S
  S8 : 0 ≤ S ∧ S ≤ 8
theorem RcOK.facts {S n0 : Int} {m : Nat} (h : RcOK S n0 m) {k : Nat} (hk : k ≤ m) : Facts (slK n0 k) := by
  have := h.rng k hk
  have := h.m2
  refine ⟨?_, ?_, ?_, ?_, ?_, ?_, ?_, .inr rfl, .inl rfl, .inl rfl, .inl rfl, .inl rfl, .inl rfl⟩ <;> unfold slK <;> simp only <;> omega
theorem RcOK.enc {S n0 : Int} {m : Nat} (h : RcOK S n0 m) {k : Nat} (hk : k ≤ m) : encS (slK n0 k) = some (wvK n0 k) := by
  obtain ⟨w, h1, h2⟩ := enc_facts (h.facts hk)
  unfold wvK
  rw [h1]; rfl
theorem RcOK.dec {S n0 : Int} {m : Nat} (h : RcOK S n0 m) {k : Nat} (hk : k ≤ m) : decS (wvK n0 k) = some (slK n0 k) := dec_of_enc (h.enc hk)
theorem RcOK.next {S n0 : Int} {m : Nat} (h : RcOK S n0 m) {k : Nat} (hk : k < m) : nextS (slK n0 k) 14 0 S = some (slK n0 (k + 1)) := by
  have h1 := h.more k hk
  have h2 := h.S8
  have h3 := h.m2
  rw [next_of (h.facts (by omega)) (by decide) (by decide)]
  rw [show rowS (slK n0 k) 14 0 S = row14 (slK n0 k) 0 S from rfl]
  unfold row14
  rw [if_pos ⟨rfl, rfl, rfl, h1, by show lowI (nK n0 k) < 8; omega⟩]
  unfold slK
  simp only [Option.map_some, Option.some.injEq, Slt.mk.injEq, true_and]
  exact ⟨rfl, by omega⟩
theorem RcOK.none {S n0 : Int} {m : Nat} (h : RcOK S n0 m) (hm : m < 2) : nextS (slK n0 m) 14 0 S = none := by
  have h1 := h.full hm
  rw [next_of (h.facts (Nat.le_refl _)) (by decide) (by decide)]
  rw [show rowS (slK n0 m) 14 0 S = row14 (slK n0 m) 0 S from rfl]
  unfold row14
  rw [if_neg (fun hh => h1 hh.2.2.2.1)]; rfl
theorem memK_ld (n0 : Int) (k : Nat) : ldS 6 (memK n0 k) 5 = wvK n0 k := rfl
theorem rcf_cell (S : Int) : cellC (rcf S) 0 = 5 := rfl
theorem RcOK.cas {S n0 : Int} {m : Nat} (h : RcOK S n0 m) {k j : Nat} (hk : k ≤ m) (hj : j ≤ m) : casB 6 (memK n0 k) 5 (wvK n0 j) = Nat.beq j k := by
  unfold casB
  rw [memK_ld, show inR 6 5 = true from rfl, Bool.true_and]
  cases hb : Nat.beq j k with
  | true => rw [Nat.eq_of_beq_eq_true hb]; exact beq_self_eq_true _
  | false =>
    rw [beq_eq_false_iff_ne]
    refine dec_ne (h.dec hk) (h.dec hj) fun e => ?_
    have e : (k : Int) = (j : Int) := e
    rw [show j = k by omega, Nat.beq_refl] at hb; cases hb
theorem gA_parts {m k : Nat} {a : Ap} (h : gA m k a = true) : a.ph ≤ 4 ∧ k ≤ m ∧ (a.ph = 1 → k < m ∨ k = m ∧ m < 2) ∧ (a.ph = 2 → a.jw = a.js ∧ 1 ≤ a.jw ∧ a.jw ≤ k + 1 ∧ a.jw ≤ m) := by
  unfold gA at h
  rw [Bool.and_eq_true, Bool.and_eq_true, Bool.and_eq_true] at h
  obtain ⟨⟨⟨h1, h2⟩, h3⟩, h4⟩ := h
  refine ⟨Nat.le_of_ble_eq_true h1, Nat.le_of_ble_eq_true h2, fun e => ?_, fun e => ?_⟩
  · rw [e, show Nat.beq 1 1 = true from rfl, cond_true, Bool.or_eq_true, Bool.and_eq_true, Nat.blt_eq, Nat.blt_eq] at h3
    rcases h3 with h3 | ⟨h3, h5⟩
    · exact .inl h3
    · exact .inr ⟨Nat.eq_of_beq_eq_true h3, h5⟩
  · rw [e, show Nat.beq 2 2 = true from rfl, cond_true, Bool.and_eq_true, Bool.and_eq_true, Bool.and_eq_true] at h4
    exact ⟨Nat.eq_of_beq_eq_true h4.1.1.1, Nat.le_of_ble_eq_true h4.1.1.2, Nat.le_of_ble_eq_true h4.1.2, Nat.le_of_ble_eq_true h4.2⟩
/-- A step, told of what it stands for. -/
theorem RcOK.step {S n0 : Int} {m : Nat} (h : RcOK S n0 m) {k : Nat} {a : Ap} (hg : gA m k a = true) : sq (.op 0 (rcf S)) 6 (memK n0 k) (conQ S n0 a) = conQ S n0 (aQ m k a) ∧ smem 6 (memK n0 k) (conQ S n0 a) = memK n0 (aK k a) := by
  obtain ⟨g1, g2, g3, g4⟩ := gA_parts hg
  obtain ⟨ph, jw, js⟩ := a
  simp only at g1 g3 g4
  have hc : ∀ p jw js, sCell (conQ S n0 ⟨p, jw, js⟩) = 5 := fun _ _ _ => rfl
  obtain e | e | e | e | e : ph = 0 ∨ ph = 1 ∨ ph = 2 ∨ ph = 3 ∨ ph = 4 := by omega
  · subst e
    rw [sq_0 rfl, smem_0 rfl]
    exact ⟨rfl, rfl⟩
  · subst e
    rw [sq_1 rfl, smem_1 rfl]
    refine ⟨?_, rfl⟩
    unfold sLook sAft slookK
    rw [hc, memK_ld, h.dec g2]
    rcases g3 rfl with g | ⟨g, gm⟩
    · rw [show slt0 (some (slK n0 k)) = slK n0 k from rfl, show kNext (.op 0 (rcf S)) (slK n0 k) = nextS (slK n0 k) 14 0 S from rfl, h.next g]
      unfold aQ
      simp only [show Nat.blt k m = true by rw [Nat.blt_eq]; exact g]
      rw [show slt0 (some (slK n0 (k + 1))) = slK n0 (k + 1) from rfl, h.enc (k := k + 1) (by omega)]
      rfl
    · subst g
      rw [show slt0 (some (slK n0 k)) = slK n0 k from rfl, show kNext (.op 0 (rcf S)) (slK n0 k) = nextS (slK n0 k) 14 0 S from rfl, h.none gm]
      unfold aQ
      simp only [show Nat.blt k k = false from by cases hb : Nat.blt k k; rfl; rw [Nat.blt_eq] at hb; omega]
      rfl
  · subst e
    obtain ⟨q1, q2, q3, q4⟩ := g4 rfl
    subst q1
    rw [sq_2 rfl, smem_2 rfl]
    obtain ⟨j, rfl⟩ : ∃ j, jw = j + 1 := ⟨jw - 1, by omega⟩
    rw [hc]
    have hcas : casB 6 (memK n0 k) 5 (conQ S n0 ⟨2, j + 1, j + 1⟩).wd = Nat.beq j k := h.cas g2 (by omega)
    unfold casS
    rw [hcas]
    unfold aQ aK
    simp only [show Nat.beq (j + 1) (k + 1) = Nat.beq j k from rfl]
    cases hb : Nat.beq j k with
    | true =>
      obtain rfl := Nat.eq_of_beq_eq_true hb
      exact ⟨rfl, rfl⟩
    | false => exact ⟨rfl, rfl⟩
  · subst e
    rw [sq_3 rfl, smem_3 rfl]
    exact ⟨rfl, rfl⟩
  · subst e
    rw [sq_3 rfl, smem_3 rfl]
    exact ⟨rfl, rfl⟩
/-! ### All that can be reached -/
structure As where
  k : Nat
  a : Ap
  b : Ap
def aX (m : Nat) (s : As) : As := ⟨aK s.k s.a, aQ m s.k s.a, s.b⟩
def aY (m : Nat) (s : As) : As := ⟨aK s.k s.b, s.a, aQ m s.k s.b⟩
def apB (x y : Ap) : Bool := Nat.beq x.ph y.ph && Nat.beq x.jw y.jw && Nat.beq x.js y.js
def asB (s r : As) : Bool := Nat.beq s.k r.k && apB s.a r.a && apB s.b r.b
theorem apB_eq {x y : Ap} (h : apB x y = true) : x = y := by
  unfold apB at h
  rw [Bool.and_eq_true, Bool.and_eq_true] at h
  obtain ⟨a, b, c⟩ := x
  obtain ⟨a', b', c'⟩ := y
  obtain ⟨⟨h1, h2⟩, h3⟩ := h
  have h1 := Nat.eq_of_beq_eq_true h1
  have h2 := Nat.eq_of_beq_eq_true h2
  have h3 := Nat.eq_of_beq_eq_true h3
  show (⟨a, b, c⟩ : Ap) = ⟨a', b', c'⟩
  rw [show a = a' from h1, show b = b' from h2, show c = c' from h3]
theorem asB_eq {s r : As} (h : asB s r = true) : s = r := by
  unfold asB at h
  rw [Bool.and_eq_true, Bool.and_eq_true] at h
  obtain ⟨a, b, c⟩ := s
  obtain ⟨a', b', c'⟩ := r
  obtain ⟨⟨h1, h2⟩, h3⟩ := h
  have h1 := Nat.eq_of_beq_eq_true h1
  have h2 := apB_eq h2
  have h3 := apB_eq h3
  show (⟨a, b, c⟩ : As) = ⟨a', b', c'⟩
  rw [show a = a' from h1, show b = b' from h2, show c = c' from h3]
def inL (L : List As) (s : As) : Bool := L.any fun r => asB s r
theorem inL_mem {L : List As} {s : As} (h : inL L s = true) : s ∈ L := by
  obtain ⟨r, h1, h2⟩ := List.any_eq_true.1 h
  rw [asB_eq h2]; exact h1
def it9 (f : As → As) (s : As) : As := f (f (f (f (f (f (f (f (f s))))))))
def dnA (a : Ap) : Bool := Nat.beq a.ph 3 || Nat.beq a.ph 4
def gotA (a : Ap) : Nat := bif Nat.beq a.ph 3 then 1 else 0
def finA (m : Nat) (s : As) : Bool := dnA s.a && dnA s.b && Nat.beq (gotA s.a + gotA s.b) m && (bif Nat.beq s.a.ph 3 then (bif Nat.beq s.b.ph 3 then Nat.beq s.a.js 1 && Nat.beq s.b.js 2 || Nat.beq s.a.js 2 && Nat.beq s.b.js 1 else true) else true)
def atA (m : Nat) (L : List As) (s : As) : Bool := gA m s.k s.a && gA m s.k s.b && inL L (aX m s) && inL L (aY m s) && finA m (it9 (aY m) (it9 (aX m) s))
def rL0 : List As := [⟨0, ⟨0, 0, 0⟩, ⟨0, 0, 0⟩⟩, ⟨0, ⟨1, 0, 0⟩, ⟨0, 0, 0⟩⟩, ⟨0, ⟨0, 0, 0⟩, ⟨1, 0, 0⟩⟩, ⟨0, ⟨4, 1, 0⟩, ⟨0, 0, 0⟩⟩, ⟨0, ⟨1, 0, 0⟩, ⟨1, 0, 0⟩⟩, ⟨0, ⟨0, 0, 0⟩, ⟨4, 1, 0⟩⟩, ⟨0, ⟨4, 1, 0⟩, ⟨1, 0, 0⟩⟩, ⟨0, ⟨1, 0, 0⟩, ⟨4, 1, 0⟩⟩, ⟨0, ⟨4, 1, 0⟩, ⟨4, 1, 0⟩⟩]
theorem rL0_ok : rL0.all (atA 0 rL0) = true := by kernel_rfl
def rL1 : List As := [⟨0, ⟨0, 0, 0⟩, ⟨0, 0, 0⟩⟩, ⟨0, ⟨1, 0, 0⟩, ⟨0, 0, 0⟩⟩, ⟨0, ⟨0, 0, 0⟩, ⟨1, 0, 0⟩⟩, ⟨0, ⟨2, 1, 1⟩, ⟨0, 0, 0⟩⟩, ⟨0, ⟨1, 0, 0⟩, ⟨1, 0, 0⟩⟩, ⟨0, ⟨0, 0, 0⟩, ⟨2, 1, 1⟩⟩, ⟨1, ⟨3, 1, 1⟩, ⟨0, 0, 0⟩⟩, ⟨0, ⟨2, 1, 1⟩, ⟨1, 0, 0⟩⟩, ⟨0, ⟨1, 0, 0⟩, ⟨2, 1, 1⟩⟩, ⟨1, ⟨0, 0, 0⟩, ⟨3, 1, 1⟩⟩, ⟨1, ⟨3, 1, 1⟩, ⟨1, 0, 0⟩⟩, ⟨0, ⟨2, 1, 1⟩, ⟨2, 1, 1⟩⟩, ⟨1, ⟨1, 0, 0⟩, ⟨3, 1, 1⟩⟩, ⟨1, ⟨3, 1, 1⟩, ⟨4, 2, 0⟩⟩, ⟨1, ⟨3, 1, 1⟩, ⟨2, 1, 1⟩⟩, ⟨1, ⟨2, 1, 1⟩, ⟨3, 1, 1⟩⟩, ⟨1, ⟨4, 2, 0⟩, ⟨3, 1, 1⟩⟩, ⟨1, ⟨3, 1, 1⟩, ⟨1, 1, 1⟩⟩, ⟨1, ⟨1, 1, 1⟩, ⟨3, 1, 1⟩⟩, ⟨1, ⟨3, 1, 1⟩, ⟨4, 2, 1⟩⟩, ⟨1, ⟨4, 2, 1⟩, ⟨3, 1, 1⟩⟩]
theorem rL1_ok : rL1.all (atA 1 rL1) = true := by kernel_rfl
def rL2 : List As := [⟨0, ⟨0, 0, 0⟩, ⟨0, 0, 0⟩⟩, ⟨0, ⟨1, 0, 0⟩, ⟨0, 0, 0⟩⟩, ⟨0, ⟨0, 0, 0⟩, ⟨1, 0, 0⟩⟩, ⟨0, ⟨2, 1, 1⟩, ⟨0, 0, 0⟩⟩, ⟨0, ⟨1, 0, 0⟩, ⟨1, 0, 0⟩⟩, ⟨0, ⟨0, 0, 0⟩, ⟨2, 1, 1⟩⟩, ⟨1, ⟨3, 1, 1⟩, ⟨0, 0, 0⟩⟩, ⟨0, ⟨2, 1, 1⟩, ⟨1, 0, 0⟩⟩, ⟨0, ⟨1, 0, 0⟩, ⟨2, 1, 1⟩⟩, ⟨1, ⟨0, 0, 0⟩, ⟨3, 1, 1⟩⟩, ⟨1, ⟨3, 1, 1⟩, ⟨1, 0, 0⟩⟩, ⟨0, ⟨2, 1, 1⟩, ⟨2, 1, 1⟩⟩, ⟨1, ⟨1, 0, 0⟩, ⟨3, 1, 1⟩⟩, ⟨1, ⟨3, 1, 1⟩, ⟨2, 2, 2⟩⟩, ⟨1, ⟨3, 1, 1⟩, ⟨2, 1, 1⟩⟩, ⟨1, ⟨2, 1, 1⟩, ⟨3, 1, 1⟩⟩, ⟨1, ⟨2, 2, 2⟩, ⟨3, 1, 1⟩⟩, ⟨2, ⟨3, 1, 1⟩, ⟨3, 2, 2⟩⟩, ⟨1, ⟨3, 1, 1⟩, ⟨1, 1, 1⟩⟩, ⟨1, ⟨1, 1, 1⟩, ⟨3, 1, 1⟩⟩, ⟨2, ⟨3, 2, 2⟩, ⟨3, 1, 1⟩⟩]
theorem rL2_ok : rL2.all (atA 2 rL2) = true := by kernel_rfl
def rL (m : Nat) : List As := bif Nat.beq m 0 then rL0 else bif Nat.beq m 1 then rL1 else rL2
theorem rL_ok {m : Nat} (hm : m ≤ 2) : (rL m).all (atA m (rL m)) = true := by
  obtain e | e | e : m = 0 ∨ m = 1 ∨ m = 2 := by omega
  · subst e; exact rL0_ok
  · subst e; exact rL1_ok
  · subst e; exact rL2_ok
theorem rL_start {m : Nat} (hm : m ≤ 2) : (⟨0, ⟨0, 0, 0⟩, ⟨0, 0, 0⟩⟩ : As) ∈ rL m := by
  obtain e | e | e : m = 0 ∨ m = 1 ∨ m = 2 := by omega
  · subst e; exact List.mem_cons_self
  · subst e; exact List.mem_cons_self
  · subst e; exact List.mem_cons_self
structure AtA (m : Nat) (s : As) : Prop where
  ga : gA m s.k s.a = true
  gb : gA m s.k s.b = true
  x : aX m s ∈ rL m
  y : aY m s ∈ rL m
  fin : finA m (it9 (aY m) (it9 (aX m) s)) = true
theorem atA_of {m : Nat} (hm : m ≤ 2) {s : As} (hs : s ∈ rL m) : AtA m s := by
  have h := List.all_eq_true.1 (rL_ok hm) s hs
  unfold atA at h
  rw [Bool.and_eq_true, Bool.and_eq_true, Bool.and_eq_true, Bool.and_eq_true] at h
  exact ⟨h.1.1.1.1, h.1.1.1.2, inL_mem h.1.1.2, inL_mem h.1.2, h.2⟩
/-! ### Two that open -/
structure S2 where
  l : List Int
  t : Int
  x : Sq
  y : Sq
def s2X (K : Kd) (n : Nat) (s : S2) : S2 := ⟨smem n s.l s.x, stch n s.x s.t, sq K n s.l s.x, s.y⟩
def s2Y (K : Kd) (n : Nat) (s : S2) : S2 := ⟨smem n s.l s.y, stch n s.y s.t, s.x, sq K n s.l s.y⟩
/-- It stands for that. -/
structure Rep (S n0 : Int) (m : Nat) (s : S2) (r : As) : Prop where
  l : s.l = memK n0 r.k
  x : s.x = conQ S n0 r.a
  y : s.y = conQ S n0 r.b
  mem : r ∈ rL m
theorem Rep.X {S n0 : Int} {m : Nat} (h : RcOK S n0 m) {s : S2} {r : As} (hr : Rep S n0 m s r) : Rep S n0 m (s2X (.op 0 (rcf S)) 6 s) (aX m r) := by
  have g := atA_of h.m2 hr.mem
  obtain ⟨e1, e2⟩ := h.step g.ga
  refine ⟨?_, ?_, hr.y, g.x⟩
  · show smem 6 s.l s.x = memK n0 (aK r.k r.a)
    rw [hr.l, hr.x]; exact e2
  · show sq (.op 0 (rcf S)) 6 s.l s.x = conQ S n0 (aQ m r.k r.a)
    rw [hr.l, hr.x]; exact e1
theorem Rep.Y {S n0 : Int} {m : Nat} (h : RcOK S n0 m) {s : S2} {r : As} (hr : Rep S n0 m s r) : Rep S n0 m (s2Y (.op 0 (rcf S)) 6 s) (aY m r) := by
  have g := atA_of h.m2 hr.mem
  obtain ⟨e1, e2⟩ := h.step g.gb
  refine ⟨?_, hr.x, ?_, g.y⟩
  · show smem 6 s.l s.y = memK n0 (aK r.k r.b)
    rw [hr.l, hr.y]; exact e2
  · show sq (.op 0 (rcf S)) 6 s.l s.y = conQ S n0 (aQ m r.k r.b)
    rw [hr.l, hr.y]; exact e1
theorem stA_ok (p : Nat) : sOK (stA p) = true := by
  unfold stA
  split <;> rfl
theorem Rep.ok {S n0 : Int} {m : Nat} {s : S2} {r : As} (hr : Rep S n0 m s r) : okM 6 s.l = true ∧ sOK s.x.st = true ∧ sOK s.y.st = true := by
  rw [hr.l, hr.x, hr.y]
  exact ⟨rfl, stA_ok _, stA_ok _⟩
def s29 (f : S2 → S2) (s : S2) : S2 := f (f (f (f (f (f (f (f (f s))))))))
theorem Rep.X9 {S n0 : Int} {m : Nat} (h : RcOK S n0 m) {s : S2} {r : As} (hr : Rep S n0 m s r) : Rep S n0 m (s29 (s2X (.op 0 (rcf S)) 6) s) (it9 (aX m) r) :=
  ((((((((hr.X h).X h).X h).X h).X h).X h).X h).X h).X h
theorem Rep.Y9 {S n0 : Int} {m : Nat} (h : RcOK S n0 m) {s : S2} {r : As} (hr : Rep S n0 m s r) : Rep S n0 m (s29 (s2Y (.op 0 (rcf S)) 6) s) (it9 (aY m) r) :=
  ((((((((hr.Y h).Y h).Y h).Y h).Y h).Y h).Y h).Y h).Y h
end Go.Proofs.YthfoljgaiincdaaDoor
