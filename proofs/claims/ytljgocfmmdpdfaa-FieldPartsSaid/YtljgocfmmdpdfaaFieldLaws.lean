import Derived.Test.YtljgocfmmdpdfaaFieldPacksW
namespace Go.Proofs.Ytljgocfmmdpdfaa
open Go.RowKit Go.Fld
set_option linter.unusedVariables false

/-- Two fields that are apart. -/
def Far (f g : Int × Int) : Prop := f.1.toNat + f.2.toNat ≤ g.1.toNat ∨ g.1.toNat + g.2.toNat ≤ f.1.toNat
abbrev gz (w : Int) (f : Int × Int) : Int := getZ w f.1.toNat f.2.toNat
abbrev pz (w : Int) (f : Int × Int) (v : Int) : Int := putZ w f.1.toNat f.2.toNat v

theorem packGo_far {l : List ((Int × Int) × Int)} {w z : Int} (h : packGo w l = some z) {g : Int × Int} (hg : ∀ p ∈ l, Far p.1 g) : gz z g = gz w g := by
  induction l generalizing w with
  | nil => simp [packGo] at h; rw [h]
  | cons p r ih =>
    obtain ⟨f, v⟩ := p
    simp only [packGo] at h
    split at h
    · cases h
    · rw [ih h (fun q hq => hg q (by simp [hq]))]
      exact get_put_far _ _ _ _ _ _ (hg (f, v) (by simp))
theorem packGo_get {l : List ((Int × Int) × Int)} {w z : Int} (h : packGo w l = some z) (hp : l.Pairwise fun p q => Far p.1 q.1) : ∀ p ∈ l, gz z p.1 = p.2 := by
  induction l generalizing w with
  | nil => simp
  | cons p r ih =>
    obtain ⟨f, v⟩ := p
    rw [List.pairwise_cons] at hp
    simp only [packGo] at h
    split at h
    · cases h
    · rename_i hv
      intro q hq
      rcases List.mem_cons.1 hq with rfl | hq
      · rw [packGo_far h (fun q hq => (hp.1 q hq).symm)]
        show gz (pz w f v) f = v
        unfold gz pz
        rw [get_put]
        exact Int.emod_eq_of_lt (by omega) (by omega)
      · exact ih h hp.2 q hq
theorem putZ_nonneg {w : Int} (hw : 0 ≤ w) (a d : Nat) (v : Int) : 0 ≤ putZ w a d v := by
  rw [putZ_eq]
  have h1 := low_bd (a := a) (emod_bd v d).1 (emod_bd v d).2 (emod_bd w a).1 (emod_bd w a).2
  have h2 : 0 ≤ w / 2 ^ (a + d) := Int.ediv_nonneg hw (by have := two_pow_pos' (a + d); omega)
  have h3 := Int.mul_nonneg h2 (Int.le_of_lt (two_pow_pos' (a + d)))
  omega
theorem packGo_bd {l : List ((Int × Int) × Int)} {w z : Int} (h : packGo w l = some z) (hl : ∀ p ∈ l, p.1.1.toNat + p.1.2.toNat ≤ 62) (h0 : 0 ≤ w) (h1 : w < 4611686018427387904) : 0 ≤ z ∧ z < 4611686018427387904 := by
  induction l generalizing w with
  | nil => simp [packGo] at h; omega
  | cons p r ih =>
    obtain ⟨f, v⟩ := p
    simp only [packGo] at h
    split at h
    · cases h
    · have hn := putZ_nonneg h0 f.1.toNat f.2.toNat v
      have hd := putZ_div w f.1.toNat f.2.toNat v 62 (hl (f, v) (by simp))
      have e62 : (2 : Int) ^ 62 = 4611686018427387904 := rfl
      rw [e62] at hd
      exact ih h (fun q hq => hl q (by simp [hq])) hn (by omega)
theorem packGo_some {l : List ((Int × Int) × Int)} (w : Int) (h : ∀ p ∈ l, 0 ≤ p.2 ∧ p.2 < 2 ^ p.1.2.toNat) : ∃ z, packGo w l = some z := by
  induction l generalizing w with
  | nil => exact ⟨w, rfl⟩
  | cons p r ih =>
    obtain ⟨f, v⟩ := p
    have := h (f, v) (by simp)
    simp only [packGo]
    rw [if_neg (by simp only at this; omega)]
    exact ih _ fun q hq => h q (by simp [hq])

theorem apart_far {fs : List (Int × Int)} (h : apartB fs = true) : fs.Pairwise Far := by
  obtain ⟨h1, h2⟩ := (apartB_iff fs).1 h
  refine h2.imp_of_mem fun {f g} hf hg hm => ?_
  exact (meet_far (h1 f hf) (h1 g hg)).1 hm
theorem zip_far {fs : List (Int × Int)} {vs : List Int} (h : fs.Pairwise Far) : (fs.zip vs).Pairwise fun p q => Far p.1 q.1 := by
  have := (h.sublist (List.Sublist.refl fs))
  induction fs generalizing vs with
  | nil => simp
  | cons f r ih =>
    cases vs with
    | nil => simp
    | cons v s =>
      rw [List.zip_cons_cons, List.pairwise_cons]
      rw [List.pairwise_cons] at h
      refine ⟨fun q hq => h.1 _ (List.of_mem_zip hq).1, ih h.2 h.2⟩
theorem pack_apart {fs : List (Int × Int)} {vs : List Int} {z : Int} (h : packZ fs vs = some z) : vs.length = fs.length ∧ apartB fs = true ∧ packGo 0 (fs.zip vs) = some z := by
  unfold packZ at h
  split at h
  · rename_i hc; exact ⟨hc.1, hc.2, h⟩
  · cases h
theorem apart_right {fs : List (Int × Int)} (h : apartB fs = true) : allRight fs = true := by
  unfold apartB at h
  rw [Bool.and_eq_true] at h
  exact h.1
/-- What is packed is parted. -/
theorem parts_pack {fs : List (Int × Int)} {vs : List Int} {z : Int} (h : packZ fs vs = some z) : partsZ z fs = vs := by
  obtain ⟨hl, ha, hgo⟩ := pack_apart h
  unfold partsZ
  rw [if_pos (apart_right ha)]
  have hget := packGo_get hgo (zip_far (apart_far ha))
  apply List.ext_getElem
  · simp [hl]
  · intro i h1 h2
    rw [List.getElem_map]
    have hz : i < (fs.zip vs).length := by simp; omega
    have := hget _ (List.getElem_mem hz)
    rw [List.getElem_zip] at this
    exact this
theorem right_62 {fs : List (Int × Int)} (h : apartB fs = true) : ∀ f ∈ fs, f.1.toNat + f.2.toNat ≤ 62 := by
  intro f hf
  have := rightB_t.1 (((apartB_iff fs).1 h).1 f hf)
  omega
theorem pack_bd {fs : List (Int × Int)} {vs : List Int} {z : Int} (h : packZ fs vs = some z) : 0 ≤ z ∧ z < 4611686018427387904 := by
  obtain ⟨hl, ha, hgo⟩ := pack_apart h
  exact packGo_bd hgo (fun p hp => right_62 ha _ (List.of_mem_zip hp).1) (by omega) (by omega)
/-- What is parted is packed again. -/
theorem pack_parts {fs : List (Int × Int)} (h : apartB fs = true) (x : Int) : ∃ y, packZ fs (partsZ x fs) = some y := by
  unfold packZ
  have hp : partsZ x fs = fs.map fun f => getZ x f.1.toNat f.2.toNat := by unfold partsZ; rw [if_pos (apart_right h)]
  rw [if_pos ⟨by rw [hp]; simp, h⟩]
  apply packGo_some
  intro p hp'
  rw [hp, List.mem_iff_getElem] at hp'
  obtain ⟨i, hi, rfl⟩ := hp'
  rw [List.getElem_zip, List.getElem_map]
  exact ⟨getZ_nonneg _ _ _, getZ_lt _ _ _⟩

/-- A word is the sum. -/
def sumZ : List ((Int × Int) × Int) → Int
  | [] => 0
  | (f, v) :: r => v * 2 ^ f.1.toNat + sumZ r
theorem packGo_sum {l : List ((Int × Int) × Int)} {w z : Int} (h : packGo w l = some z) (hp : l.Pairwise fun p q => Far p.1 q.1) (h0 : ∀ p ∈ l, gz w p.1 = 0) : z = w + sumZ l := by
  induction l generalizing w with
  | nil => simp [packGo] at h; simp [sumZ, h]
  | cons p r ih =>
    obtain ⟨f, v⟩ := p
    rw [List.pairwise_cons] at hp
    simp only [packGo] at h
    split at h
    · cases h
    · rename_i hv
      have hf0 := h0 (f, v) (by simp)
      have h2 : ∀ q ∈ r, gz (pz w f v) q.1 = 0 := fun q hq => by
        rw [show gz (pz w f v) q.1 = gz w q.1 from get_put_far _ _ _ _ _ _ (hp.1 q hq)]
        exact h0 q (by simp [hq])
      have hm : v % 2 ^ f.2.toNat = v := Int.emod_eq_of_lt (by omega) (by omega)
      have e : pz w f v = w + v * 2 ^ f.1.toNat := by
        unfold pz putZ
        rw [hm]
        have : getZ w f.1.toNat f.2.toNat = 0 := hf0
        rw [this]; omega
      have := ih h hp.2 h2
      rw [this]
      show pz w f v + sumZ r = w + (v * 2 ^ f.1.toNat + sumZ r)
      rw [e]; omega
theorem gz_zero (f : Int × Int) : gz 0 f = 0 := by simp [gz, getZ]
def okV (p : (Int × Int) × Int) : Bool := decide (0 ≤ p.2 ∧ p.2 ≤ 2 ^ p.1.2.toNat - 1)
theorem packGo_closed {l : List ((Int × Int) × Int)} (hp : l.Pairwise fun p q => Far p.1 q.1) : packGo 0 l = if l.all okV then some (sumZ l) else none := by
  by_cases h : l.all okV = true
  · rw [if_pos h]
    rw [List.all_eq_true] at h
    obtain ⟨z, hz⟩ := packGo_some 0 (l := l) fun p hp => by have := h p hp; unfold okV at this; simp at this; omega
    have := packGo_sum hz hp fun p _ => gz_zero _
    rw [hz, this]; simp
  · rw [if_neg h]
    cases hz : packGo 0 l with
    | none => rfl
    | some z =>
      exfalso
      apply h
      clear hp h
      generalize (0 : Int) = w at hz
      induction l generalizing w with
      | nil => rfl
      | cons p r ih =>
        obtain ⟨f, v⟩ := p
        simp only [packGo] at hz
        split at hz
        · cases hz
        · rename_i hv
          rw [List.all_cons, ih _ hz]
          simp [okV]
          omega
theorem sumZ_append (l r : List ((Int × Int) × Int)) : sumZ (l ++ r) = sumZ l + sumZ r := by
  induction l with
  | nil => simp [sumZ]
  | cons p l ih => obtain ⟨f, v⟩ := p; simp only [List.cons_append, sumZ, ih]; omega
/-- Turned round, with their numbers. -/
theorem packZ_turn (fs : List (Int × Int)) (vs : List Int) (hl : vs.length = fs.length) (r : Nat) : packZ (fs.drop r ++ fs.take r) (vs.drop r ++ vs.take r) = packZ fs vs := by
  have hperm : (fs.drop r ++ fs.take r).Perm fs := by
    have := List.perm_append_comm (l₁ := fs.drop r) (l₂ := fs.take r)
    rw [List.take_append_drop] at this
    exact this
  have hap := apart_perm hperm
  unfold packZ
  rw [hap]
  by_cases ha : apartB fs = true
  · rw [if_pos ⟨by simp [hl], ha⟩, if_pos ⟨hl, ha⟩]
    rw [packGo_closed (zip_far (apart_far ha)), packGo_closed (zip_far (apart_far (hap.trans ha)))]
    have hz : (fs.drop r ++ fs.take r).zip (vs.drop r ++ vs.take r) = (fs.zip vs).drop r ++ (fs.zip vs).take r := by
      rw [List.zip_append (by simp [hl])]
      simp only [List.zip_eq_zipWith, List.drop_zipWith, List.take_zipWith]
    rw [hz, List.all_append, sumZ_append]
    have e1 : (fs.zip vs).all okV = (((fs.zip vs).drop r).all okV && ((fs.zip vs).take r).all okV) := by
      conv => lhs; rw [← List.take_append_drop r (fs.zip vs), List.all_append]
      rw [Bool.and_comm]
    have e2 : sumZ (fs.zip vs) = sumZ ((fs.zip vs).drop r) + sumZ ((fs.zip vs).take r) := by
      conv => lhs; rw [← List.take_append_drop r (fs.zip vs), sumZ_append]
      omega
    rw [e1, e2]
  · rw [if_neg (fun h => ha h.2), if_neg (fun h => ha h.2)]
end Go.Proofs.Ytljgocfmmdpdfaa
