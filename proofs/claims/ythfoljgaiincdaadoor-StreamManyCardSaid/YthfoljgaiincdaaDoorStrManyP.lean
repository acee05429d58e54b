
/- StreamMany: the plain law: what one call does to the word. No condition of its own. -/
import Derived.Test.YthfoljgaiincdaaDoorStrL
namespace Go.Proofs.YthfoljgaiincdaaDoor
open Go.RowKit Go.Fld Go.Sx
set_option linter.unusedVariables false
set_option linter.unusedSimpArgs false
def mcf (S : Int) : Cf := ⟨1, 1, S, 0, 1⟩
/-- The slot, its word, the memory. -/
def slM (u : Nat) (v : Nat) : Slt := ⟨3, 0, u, false, false, 0, 1, 0, v⟩
def wvM (u v : Nat) : Int := (encS (slM u v)).getD 0
def memM (u v : Nat) : List Int := [0, 0, 0, 0, 0, wvM u v]
def q0M (S : Int) : Sq := ⟨mcf S, 0, 0, 1, 0, 0, 0, 0, 0⟩
theorem slM_facts {u v : Nat} (hu : u ≤ 255) (hv : v ≤ 1000) : Facts (slM u v) := by
  refine ⟨?_, ?_, ?_, ?_, ?_, ?_, ?_, .inr rfl, .inl rfl, .inl rfl, .inl rfl, .inl rfl, .inl rfl⟩ <;> unfold slM <;> simp only <;> omega
theorem wvM_enc {u v : Nat} (hu : u ≤ 255) (hv : v ≤ 1000) : encS (slM u v) = some (wvM u v) := by
  obtain ⟨w, h1, h2⟩ := enc_facts (slM_facts hu hv)
  unfold wvM
  rw [h1]; rfl
theorem wvM_dec {u v : Nat} (hu : u ≤ 255) (hv : v ≤ 1000) : decS (wvM u v) = some (slM u v) := dec_of_enc (wvM_enc hu hv)
theorem wvM_I {u v : Nat} : I64i (wvM u v) := encS_I
theorem wvM_decA {u v : Nat} (hu : u ≤ 255) (hv : v ≤ 1000) : decA (wvM u v) = some (slM u v) := (decA_eq _ wvM_I).trans (wvM_dec hu hv)
/-- A call that succeeds. -/
theorem s14_ok {K : Kd} {S : Int} {u v u' : Nat} (hu : u ≤ 255) (hv : v ≤ 999) (hu' : u' ≤ 255) (hb : kBrk K (slM u v) = false) (hn : kNext K (slM u v) = some (slM u' (v + 1))) (t : Int) :
    (s14 K 6 ⟨memM u v, t, q0M S⟩).l = memM u' (v + 1) ∧ (s14 K 6 ⟨memM u v, t, q0M S⟩).q = ⟨mcf S, 0, 0, 1, 3, wvM u v, wvM u' (v + 1), kNum K (slM u v), 0⟩ := by
  have e1 : s1N K 6 ⟨memM u v, t, q0M S⟩ = ⟨memM u v, tcS 6 0 t, sAt (q0M S) 1⟩ := rfl
  have e2 : s1N K 6 ⟨memM u v, tcS 6 0 t, sAt (q0M S) 1⟩ = ⟨memM u v, tcS 6 5 (tcS 6 0 t), ⟨mcf S, 0, 0, 1, 2, wvM u v, wvM u' (v + 1), kNum K (slM u v), 0⟩⟩ := by
    unfold s1N
    simp only
    rw [sq_1 rfl, smem_1 rfl, stch_1 rfl, show sCell (sAt (q0M S) 1) = 5 from rfl]
    unfold sLook sAft slookK
    rw [show sCell (sAt (q0M S) 1) = 5 from rfl, show ldS 6 (memM u v) 5 = wvM u v from rfl, wvM_dec hu (by omega), show slt0 (some (slM u v)) = slM u v from rfl, hn, hb, show slt0 (some (slM u' (v + 1))) = slM u' (v + 1) from rfl, wvM_enc hu' (by omega)]
    rfl
  have hc : casB 6 (memM u v) 5 (wvM u v) = true := by
    unfold casB
    rw [show ldS 6 (memM u v) 5 = wvM u v from rfl, beq_self_eq_true]; rfl
  have e3 : ∀ t, s1N K 6 ⟨memM u v, t, ⟨mcf S, 0, 0, 1, 2, wvM u v, wvM u' (v + 1), kNum K (slM u v), 0⟩⟩ = ⟨memM u' (v + 1), tcS 6 5 t, ⟨mcf S, 0, 0, 1, 3, wvM u v, wvM u' (v + 1), kNum K (slM u v), 0⟩⟩ := fun t => by
    unfold s1N
    simp only
    rw [sq_2 rfl, smem_2 rfl, stch_2 rfl]
    unfold casS
    rw [show sCell ⟨mcf S, 0, 0, 1, 2, wvM u v, wvM u' (v + 1), kNum K (slM u v), 0⟩ = 5 from rfl, hc]
    rfl
  have e4 : ∀ t, s1N K 6 ⟨memM u' (v + 1), t, ⟨mcf S, 0, 0, 1, 3, wvM u v, wvM u' (v + 1), kNum K (slM u v), 0⟩⟩ = ⟨memM u' (v + 1), t, ⟨mcf S, 0, 0, 1, 3, wvM u v, wvM u' (v + 1), kNum K (slM u v), 0⟩⟩ := fun t => rfl
  unfold s14
  rw [e1, e2, e3, e4]
  exact ⟨rfl, rfl⟩
/-- A call that can't be. -/
theorem s14_no {K : Kd} {S : Int} {u v : Nat} (hu : u ≤ 255) (hv : v ≤ 999) (hb : kBrk K (slM u v) = false) (hn : kNext K (slM u v) = none) (t : Int) :
    (s14 K 6 ⟨memM u v, t, q0M S⟩).l = memM u v ∧ (s14 K 6 ⟨memM u v, t, q0M S⟩).q = ⟨mcf S, 0, 0, 1, 3, wvM u v, 0, 0, kErr K⟩ := by
  have e1 : s1N K 6 ⟨memM u v, t, q0M S⟩ = ⟨memM u v, tcS 6 0 t, sAt (q0M S) 1⟩ := rfl
  have e2 : s1N K 6 ⟨memM u v, tcS 6 0 t, sAt (q0M S) 1⟩ = ⟨memM u v, tcS 6 5 (tcS 6 0 t), ⟨mcf S, 0, 0, 1, 3, wvM u v, 0, 0, kErr K⟩⟩ := by
    unfold s1N
    simp only
    rw [sq_1 rfl, smem_1 rfl, stch_1 rfl, show sCell (sAt (q0M S) 1) = 5 from rfl]
    unfold sLook sAft slookK
    rw [show sCell (sAt (q0M S) 1) = 5 from rfl, show ldS 6 (memM u v) 5 = wvM u v from rfl, wvM_dec hu (by omega), show slt0 (some (slM u v)) = slM u v from rfl, hn, hb]
    rfl
  have e3 : ∀ t, s1N K 6 ⟨memM u v, t, ⟨mcf S, 0, 0, 1, 3, wvM u v, 0, 0, kErr K⟩⟩ = ⟨memM u v, t, ⟨mcf S, 0, 0, 1, 3, wvM u v, 0, 0, kErr K⟩⟩ := fun t => rfl
  unfold s14
  rw [e1, e2, e3, e3]
  exact ⟨rfl, rfl⟩
/-! ### Bits -/
def low8 (u : Nat) : Nat := (lowI (u : Int)).toNat
def bitM (u k : Nat) : Bool := u / 2 ^ k % 2 == 1
def popM (u : Nat) : Nat := ((List.range 8).filter (bitM u)).length
def upM (u : Nat) : Nat := u + 2 ^ low8 u
def dnM (u n : Nat) : Nat := u - 2 ^ n
def chkU (S u : Nat) : Bool := Nat.ble (2 ^ S) u || (bif Nat.blt (low8 u) S then Nat.blt (popM u) S && Nat.blt (upM u) (2 ^ S) && Nat.beq (popM (upM u)) (popM u + 1) && Nat.blt (low8 u) 8 && !bitM u (low8 u) && ((List.range 8).all fun k => bitM (upM u) k == bif Nat.beq k (low8 u) then true else bitM u k) else Nat.beq (popM u) S)
theorem chkU_all : (List.range 9).all (fun S => (List.range 256).all fun u => chkU S u) = true := by kernel_rfl
def chkD (S u n : Nat) : Bool := Nat.ble (2 ^ S) u || (bif bitM u n then Nat.blt (dnM u n) (2 ^ S) && Nat.beq (popM (dnM u n) + 1) (popM u) && Nat.ble (2 ^ n) u && ((List.range 8).all fun k => bitM (dnM u n) k == bif Nat.beq k n then false else bitM u k) else true)
theorem chkD_all : (List.range 9).all (fun S => (List.range 256).all fun u => (List.range 8).all fun n => chkD S u n) = true := by kernel_rfl
theorem lowI_cast (u : Nat) : lowI (u : Int) = ((low8 u : Nat) : Int) := by
  unfold low8
  have : 0 ≤ lowI (u : Int) := by
    unfold lowI
    split; omega; split; omega; split; omega; split; omega; split; omega; split; omega; split; omega; split; omega; omega
  omega
structure OpenM (S u : Nat) : Prop where
  few : popM u < S
  lt : upM u < 2 ^ S
  pop : popM (upM u) = popM u + 1
  low : low8 u < 8
  was : bitM u (low8 u) = false
  bits : ∀ k, k < 8 → bitM (upM u) k = if k = low8 u then true else bitM u k
theorem openM {S u : Nat} (hS : S ≤ 8) (hu : u < 2 ^ S) (hl : low8 u < S) : OpenM S u := by
  have h256 : u < 256 := Nat.lt_of_lt_of_le hu (show 2 ^ S ≤ 2 ^ 8 from Nat.pow_le_pow_right (by decide) hS)
  have h := List.all_eq_true.1 (List.all_eq_true.1 chkU_all S (List.mem_range.2 (by omega))) u (List.mem_range.2 h256)
  unfold chkU at h
  rw [show Nat.ble (2 ^ S) u = false from by cases hb : Nat.ble (2 ^ S) u; rfl; exact absurd (Nat.le_of_ble_eq_true hb) (by omega), Bool.false_or, show Nat.blt (low8 u) S = true by rw [Nat.blt_eq]; exact hl, cond_true] at h
  simp only [Bool.and_eq_true, Nat.blt_eq] at h
  obtain ⟨⟨⟨⟨⟨h1, h2⟩, h3⟩, h4⟩, h5⟩, h6⟩ := h
  refine ⟨h1, h2, Nat.eq_of_beq_eq_true h3, h4, by simpa using h5, fun k hk => ?_⟩
  have h7 := List.all_eq_true.1 h6 k (List.mem_range.2 hk)
  rw [beq_iff_eq] at h7
  rw [h7]
  by_cases e : k = low8 u
  · rw [if_pos e, e, Nat.beq_refl]; rfl
  · rw [if_neg e, show Nat.beq k (low8 u) = false from by cases hb : Nat.beq k (low8 u); rfl; exact absurd (Nat.eq_of_beq_eq_true hb) e]; rfl
theorem fullM {S u : Nat} (hS : S ≤ 8) (hu : u < 2 ^ S) (hl : ¬ low8 u < S) : popM u = S := by
  have h256 : u < 256 := Nat.lt_of_lt_of_le hu (show 2 ^ S ≤ 2 ^ 8 from Nat.pow_le_pow_right (by decide) hS)
  have h := List.all_eq_true.1 (List.all_eq_true.1 chkU_all S (List.mem_range.2 (by omega))) u (List.mem_range.2 h256)
  unfold chkU at h
  rw [show Nat.ble (2 ^ S) u = false from by cases hb : Nat.ble (2 ^ S) u; rfl; exact absurd (Nat.le_of_ble_eq_true hb) (by omega), Bool.false_or, show Nat.blt (low8 u) S = false from by cases hb : Nat.blt (low8 u) S; rfl; rw [Nat.blt_eq] at hb; exact absurd hb hl, cond_false] at h
  exact Nat.eq_of_beq_eq_true h
structure ShutM (S u n : Nat) : Prop where
  lt : dnM u n < 2 ^ S
  pop : popM (dnM u n) + 1 = popM u
  le : 2 ^ n ≤ u
  bits : ∀ k, k < 8 → bitM (dnM u n) k = if k = n then false else bitM u k
theorem shutM {S u n : Nat} (hS : S ≤ 8) (hu : u < 2 ^ S) (hn : n < 8) (hb : bitM u n = true) : ShutM S u n := by
  have h256 : u < 256 := Nat.lt_of_lt_of_le hu (show 2 ^ S ≤ 2 ^ 8 from Nat.pow_le_pow_right (by decide) hS)
  have h := List.all_eq_true.1 (List.all_eq_true.1 (List.all_eq_true.1 chkD_all S (List.mem_range.2 (by omega))) u (List.mem_range.2 h256)) n (List.mem_range.2 hn)
  unfold chkD at h
  rw [show Nat.ble (2 ^ S) u = false from by cases hb : Nat.ble (2 ^ S) u; rfl; exact absurd (Nat.le_of_ble_eq_true hb) (by omega), Bool.false_or, hb, cond_true] at h
  simp only [Bool.and_eq_true, Nat.blt_eq] at h
  obtain ⟨⟨⟨h1, h2⟩, h3⟩, h4⟩ := h
  refine ⟨h1, Nat.eq_of_beq_eq_true h2, Nat.le_of_ble_eq_true h3, fun k hk => ?_⟩
  have h7 := List.all_eq_true.1 h4 k (List.mem_range.2 hk)
  rw [beq_iff_eq] at h7
  rw [h7]
  by_cases e : k = n
  · rw [if_pos e, e, Nat.beq_refl]; rfl
  · rw [if_neg e, show Nat.beq k n = false from by cases hb : Nat.beq k n; rfl; exact absurd (Nat.eq_of_beq_eq_true hb) e]; rfl
/-! ### What becomes of the slot -/
theorem next_open {S : Int} {u v : Nat} (hu : u ≤ 255) (hv : v ≤ 999) (hl : ((low8 u : Nat) : Int) < S) (h8 : low8 u < 8) : kNext (.op 0 (mcf S)) (slM u v) = some (slM (upM u) (v + 1)) := by
  show nextS (slM u v) 14 0 S = _
  rw [next_of (slM_facts hu (by omega)) (by decide) (by decide), show rowS (slM u v) 14 0 S = row14 (slM u v) 0 S from rfl]
  unfold row14
  rw [if_pos ⟨rfl, rfl, rfl, by show lowI (u : Int) < S; rw [lowI_cast]; exact hl, by show lowI (u : Int) < 8; rw [lowI_cast]; omega⟩]
  unfold slM upM
  simp only [Option.map_some, Option.some.injEq, Slt.mk.injEq, true_and]
  refine ⟨?_, by omega⟩
  rw [Int.natCast_add, Int.natCast_pow]; rfl
theorem next_full {S : Int} {u v : Nat} (hu : u ≤ 255) (hv : v ≤ 999) (hl : ¬ ((low8 u : Nat) : Int) < S) : kNext (.op 0 (mcf S)) (slM u v) = none := by
  show nextS (slM u v) 14 0 S = _
  rw [next_of (slM_facts hu (by omega)) (by decide) (by decide), show rowS (slM u v) 14 0 S = row14 (slM u v) 0 S from rfl]
  unfold row14
  rw [if_neg (fun hh => hl (by have := hh.2.2.2.1; rw [show (slM u v).str = (u : Int) from rfl, lowI_cast] at this; exact this))]; rfl
theorem bit_int (u n : Nat) : ((u : Int) / 2 ^ n % 2 = 1) ↔ bitM u n = true := by
  unfold bitM
  rw [beq_iff_eq, show ((2 : Int) ^ n) = ((2 ^ n : Nat) : Int) by rw [Int.natCast_pow]; rfl]
  omega
theorem next_shut {u v n : Nat} (hu : u ≤ 255) (hv : v ≤ 999) (hn : n < 8) (hb : bitM u n = true) (hle : 2 ^ n ≤ u) : kNext (.sh 0 (n : Int)) (slM u v) = some (slM (dnM u n) (v + 1)) := by
  show nextS (slM u v) 15 0 n = _
  rw [next_of (slM_facts hu (by omega)) (by decide) (by decide), show rowS (slM u v) 15 0 n = row15 (slM u v) 0 n from rfl]
  unfold row15
  rw [if_pos ⟨rfl, rfl, by omega, by omega, by rw [Int.toNat_natCast]; exact (bit_int u n).2 hb⟩]
  unfold slM dnM
  simp only [Option.map_some, Option.some.injEq, Slt.mk.injEq, true_and, Int.toNat_natCast]
  refine ⟨?_, by omega⟩
  rw [Int.natCast_sub hle, Int.natCast_pow]; rfl
theorem next_none {u v n : Nat} (hu : u ≤ 255) (hv : v ≤ 999) (hb : bitM u n = false) : kNext (.sh 0 (n : Int)) (slM u v) = none := by
  show nextS (slM u v) 15 0 n = _
  rw [next_of (slM_facts hu (by omega)) (by decide) (by decide), show rowS (slM u v) 15 0 n = row15 (slM u v) 0 n from rfl]
  unfold row15
  rw [if_neg (fun hh => by
    have := hh.2.2.2.2
    rw [Int.toNat_natCast, show (slM u v).str = (u : Int) from rfl] at this
    rw [(bit_int u n).1 this] at hb; cases hb)]; rfl
end Go.Proofs.YthfoljgaiincdaaDoor
