
import Derived.Test.YthfoljgaiincdaaDoorFieldE
namespace Go.Proofs.YthfoljgaiincdaaDoor
open Go.RowKit Go.Fld
set_option linter.unusedVariables false

theorem pairsOf_cons (a : Int × Int) (l : List (Int × Int)) : pairsOf (a :: l) = l.map (fun g => (a, g)) ++ pairsOf l := by
  unfold pairsOf
  rw [List.length_cons, List.range_succ_eq_map, List.flatMap_cons, List.flatMap_map]
  simp
theorem pairs_all (P : (Int × Int) × (Int × Int) → Bool) : ∀ l : List (Int × Int), (pairsOf l).all P = true ↔ l.Pairwise fun f g => P (f, g) = true
  | [] => by simp [pairsOf]
  | a :: l => by
    rw [pairsOf_cons, List.all_append, Bool.and_eq_true, pairs_all P l, List.pairwise_cons, List.all_map, List.all_eq_true]
    simp
theorem apartB_iff (l : List (Int × Int)) : apartB l = true ↔ (∀ f ∈ l, rightB f.1 f.2 = true) ∧ l.Pairwise fun f g => meetB (f, g) = false := by
  unfold apartB
  rw [Bool.and_eq_true, pairs_all]
  unfold allRight
  rw [List.all_eq_true]
  simp

/-- Field f takes bit k. -/
def cov (f : Int × Int) (k : Nat) : Bool := decide (f.1.toNat ≤ k ∧ k < f.1.toNat + f.2.toNat)
theorem bitZ_getZ (w : Int) (b e k : Nat) (h1 : b ≤ k) (h2 : k < b + e) : bitZ (getZ w b e) (k - b) = bitZ w k := by
  have e1 : bitZ w k = getZ (w / 2 ^ b) (k - b) 1 := by
    unfold bitZ getZ
    rw [← ediv_pow_add, show b + (k - b) = k by omega]
    rfl
  have e2 : ∀ y : Int, bitZ y (k - b) = getZ y (k - b) 1 := fun y => rfl
  rw [e1, e2, getZ_eq_mod, getZ_eq_mod (w / 2 ^ b)]
  unfold getZ
  rw [Int.emod_emod_of_dvd _ (pow_dvd (by omega))]
theorem bitZ_ones (d j : Nat) (h : j < d) : bitZ (2 ^ d - 1) j = 1 := by
  rw [← getZ_neg1 0 d]
  have := bitZ_getZ (-1) 0 d j (by omega) (by omega)
  rw [Nat.sub_zero] at this
  rw [this]
  unfold bitZ
  have h1 : (-1 : Int) / 2 ^ j = -1 := by
    have := two_pow_pos' j
    rw [Int.ediv_eq_iff_of_pos this]
    omega
  rw [h1]; rfl
theorem bitZ_zero (j : Nat) : bitZ 0 j = 0 := by unfold bitZ; simp
theorem mask_put (a d : Nat) : ((2 : Int) ^ d - 1) * 2 ^ a = putZ 0 a d (2 ^ d - 1) := by
  have hp := two_pow_pos' d
  have : ((2 : Int) ^ d - 1) % 2 ^ d = 2 ^ d - 1 := Int.emod_eq_of_lt (by omega) (by omega)
  unfold putZ
  rw [this]
  simp [getZ]
theorem mul_pow_zero {x : Int} {a : Nat} (h : x * 2 ^ a = 0) : x = 0 := by
  have := two_pow_pos' a
  rcases Int.mul_eq_zero.1 h with h | h
  · exact h
  · omega
theorem meet_far {f g : Int × Int} (hf : rightB f.1 f.2 = true) (hg : rightB g.1 g.2 = true) : meetB (f, g) = false ↔ (f.1.toNat + f.2.toNat ≤ g.1.toNat ∨ g.1.toNat + g.2.toNat ≤ f.1.toNat) := by
  have h1 := rightB_t.1 hf
  have h2 := rightB_t.1 hg
  have hd : ((2 : Int) ^ f.2.toNat - 1) % 2 ^ f.2.toNat = 2 ^ f.2.toNat - 1 := by
    have hp := two_pow_pos' f.2.toNat
    exact Int.emod_eq_of_lt (by omega) (by omega)
  unfold meetB maskZ
  show (bits .and .i64 ((2 ^ f.2.toNat - 1) * 2 ^ f.1.toNat) ((2 ^ g.2.toNat - 1) * 2 ^ g.1.toNat) != 0) = false ↔ _
  rw [bne_eq_false_iff_eq, and_shifted _ _ _ (by omega), mask_put f.1.toNat]
  constructor
  · intro h0
    have h3 := mul_pow_zero h0
    rcases Nat.lt_or_ge (max f.1.toNat g.1.toNat) (min (f.1.toNat + f.2.toNat) (g.1.toNat + g.2.toNat)) with hk | hk
    · exfalso
      obtain ⟨k, hk'⟩ : ∃ k, k = max f.1.toNat g.1.toNat := ⟨_, rfl⟩
      have e1 := bitZ_getZ (putZ 0 f.1.toNat f.2.toNat (2 ^ f.2.toNat - 1)) g.1.toNat g.2.toNat k (by omega) (by omega)
      have e2 := bitZ_getZ (putZ 0 f.1.toNat f.2.toNat (2 ^ f.2.toNat - 1)) f.1.toNat f.2.toNat k (by omega) (by omega)
      rw [h3, bitZ_zero] at e1
      rw [get_put, hd, bitZ_ones _ _ (by omega), ← e1] at e2
      omega
    · omega
  · intro h0
    rw [get_put_far _ _ _ _ _ _ (by omega)]
    simp [getZ]
theorem meet_comm (f g : Int × Int) : meetB (f, g) = meetB (g, f) := by
  unfold meetB
  have : bits .and .i64 (maskZ f) (maskZ g) = bits .and .i64 (maskZ g) (maskZ f) := by rw [and_bv, and_bv, BitVec.and_comm]
  simp only [this]
theorem apart_perm {l m : List (Int × Int)} (h : l.Perm m) : apartB l = apartB m := by
  rw [Bool.eq_iff_iff, apartB_iff, apartB_iff]
  have h1 : l.Pairwise (fun f g => meetB (f, g) = false) ↔ m.Pairwise fun f g => meetB (f, g) = false :=
    h.pairwise_iff (fun {x y} e => by rw [meet_comm]; exact e)
  rw [h1]
  constructor
  · rintro ⟨a, b⟩; exact ⟨fun f hf => a f (h.mem_iff.2 hf), b⟩
  · rintro ⟨a, b⟩; exact ⟨fun f hf => a f (h.mem_iff.1 hf), b⟩

theorem packR_eq (o : Option Int) : packR o = .tuple #[.int .i64 (o.getD 0), .bool o.isSome] := by cases o <;> rfl
theorem partsZ_len (x : Int) (fs : List (Int × Int)) : (partsZ x fs).length ≤ fs.length := by unfold partsZ; split <;> simp

/-- Two fields that are apart. -/
def Far (f g : Int × Int) : Prop := f.1.toNat + f.2.toNat ≤ g.1.toNat ∨ g.1.toNat + g.2.toNat ≤ f.1.toNat
abbrev gz (w : Int) (f : Int × Int) : Int := getZ w f.1.toNat f.2.toNat
abbrev pz (w : Int) (f : Int × Int) (v : Int) : Int := putZ w f.1.toNat f.2.toNat v

theorem packGo_far {l : List ((Int × Int) × Int)} {w z : Int} (h : packGo w l = some z) {g : Int × Int} (hg : ∀ p ∈ l, Far p.1 g) : gz z g = gz w g := by
  induction l generalizing w with
  | nil => simp [packGo] at h; rw [h]
  | cons p r ih =>
    obtain ⟨f, v⟩ := p
    simp only [packGo] at h
    split at h
    · cases h
    · rw [ih h (fun q hq => hg q (by simp [hq]))]
      exact get_put_far _ _ _ _ _ _ (hg (f, v) (by simp))
theorem packGo_get {l : List ((Int × Int) × Int)} {w z : Int} (h : packGo w l = some z) (hp : l.Pairwise fun p q => Far p.1 q.1) : ∀ p ∈ l, gz z p.1 = p.2 := by
  induction l generalizing w with
  | nil => simp
  | cons p r ih =>
    obtain ⟨f, v⟩ := p
    rw [List.pairwise_cons] at hp
    simp only [packGo] at h
    split at h
    · cases h
    · rename_i hv
      intro q hq
      rcases List.mem_cons.1 hq with rfl | hq
      · rw [packGo_far h (fun q hq => (hp.1 q hq).symm)]
        show gz (pz w f v) f = v
        unfold gz pz
        rw [get_put]
        exact Int.emod_eq_of_lt (by omega) (by omega)
      · exact ih h hp.2 q hq
theorem putZ_nonneg {w : Int} (hw : 0 ≤ w) (a d : Nat) (v : Int) : 0 ≤ putZ w a d v := by
  rw [putZ_eq]
  have h1 := low_bd (a := a) (emod_bd v d).1 (emod_bd v d).2 (emod_bd w a).1 (emod_bd w a).2
  have h2 : 0 ≤ w / 2 ^ (a + d) := Int.ediv_nonneg hw (by have := two_pow_pos' (a + d); omega)
  have h3 := Int.mul_nonneg h2 (Int.le_of_lt (two_pow_pos' (a + d)))
  omega
theorem packGo_bd {l : List ((Int × Int) × Int)} {w z : Int} (h : packGo w l = some z) (hl : ∀ p ∈ l, p.1.1.toNat + p.1.2.toNat ≤ 62) (h0 : 0 ≤ w) (h1 : w < 4611686018427387904) : 0 ≤ z ∧ z < 4611686018427387904 := by
  induction l generalizing w with
  | nil => simp [packGo] at h; omega
  | cons p r ih =>
    obtain ⟨f, v⟩ := p
    simp only [packGo] at h
    split at h
    · cases h
    · have hn := putZ_nonneg h0 f.1.toNat f.2.toNat v
      have hd := putZ_div w f.1.toNat f.2.toNat v 62 (hl (f, v) (by simp))
      have e62 : (2 : Int) ^ 62 = 4611686018427387904 := rfl
      rw [e62] at hd
      exact ih h (fun q hq => hl q (by simp [hq])) hn (by omega)
theorem packGo_some {l : List ((Int × Int) × Int)} (w : Int) (h : ∀ p ∈ l, 0 ≤ p.2 ∧ p.2 < 2 ^ p.1.2.toNat) : ∃ z, packGo w l = some z := by
  induction l generalizing w with
  | nil => exact ⟨w, rfl⟩
  | cons p r ih =>
    obtain ⟨f, v⟩ := p
    have := h (f, v) (by simp)
    simp only [packGo]
    rw [if_neg (by simp only at this; omega)]
    exact ih _ fun q hq => h q (by simp [hq])

theorem apart_far {fs : List (Int × Int)} (h : apartB fs = true) : fs.Pairwise Far := by
  obtain ⟨h1, h2⟩ := (apartB_iff fs).1 h
  refine h2.imp_of_mem fun {f g} hf hg hm => ?_
  exact (meet_far (h1 f hf) (h1 g hg)).1 hm
theorem zip_far {fs : List (Int × Int)} {vs : List Int} (h : fs.Pairwise Far) : (fs.zip vs).Pairwise fun p q => Far p.1 q.1 := by
  have := (h.sublist (List.Sublist.refl fs))
  induction fs generalizing vs with
  | nil => simp
  | cons f r ih =>
    cases vs with
    | nil => simp
    | cons v s =>
      rw [List.zip_cons_cons, List.pairwise_cons]
      rw [List.pairwise_cons] at h
      refine ⟨fun q hq => h.1 _ (List.of_mem_zip hq).1, ih h.2 h.2⟩
theorem pack_apart {fs : List (Int × Int)} {vs : List Int} {z : Int} (h : packZ fs vs = some z) : vs.length = fs.length ∧ apartB fs = true ∧ packGo 0 (fs.zip vs) = some z := by
  unfold packZ at h
  split at h
  · rename_i hc; exact ⟨hc.1, hc.2, h⟩
  · cases h
theorem apart_right {fs : List (Int × Int)} (h : apartB fs = true) : allRight fs = true := by
  unfold apartB at h
  rw [Bool.and_eq_true] at h
  exact h.1
/-- What is packed is parted. -/
theorem parts_pack {fs : List (Int × Int)} {vs : List Int} {z : Int} (h : packZ fs vs = some z) : partsZ z fs = vs := by
  obtain ⟨hl, ha, hgo⟩ := pack_apart h
  unfold partsZ
  rw [if_pos (apart_right ha)]
  have hget := packGo_get hgo (zip_far (apart_far ha))
  apply List.ext_getElem
  · simp [hl]
  · intro i h1 h2
    rw [List.getElem_map]
    have hz : i < (fs.zip vs).length := by simp; omega
    have := hget _ (List.getElem_mem hz)
    rw [List.getElem_zip] at this
    exact this
theorem right_62 {fs : List (Int × Int)} (h : apartB fs = true) : ∀ f ∈ fs, f.1.toNat + f.2.toNat ≤ 62 := by
  intro f hf
  have := rightB_t.1 (((apartB_iff fs).1 h).1 f hf)
  omega
theorem pack_bd {fs : List (Int × Int)} {vs : List Int} {z : Int} (h : packZ fs vs = some z) : 0 ≤ z ∧ z < 4611686018427387904 := by
  obtain ⟨hl, ha, hgo⟩ := pack_apart h
  exact packGo_bd hgo (fun p hp => right_62 ha _ (List.of_mem_zip hp).1) (by omega) (by omega)
/-- What is parted is packed again. -/
theorem pack_parts {fs : List (Int × Int)} (h : apartB fs = true) (x : Int) : ∃ y, packZ fs (partsZ x fs) = some y := by
  unfold packZ
  have hp : partsZ x fs = fs.map fun f => getZ x f.1.toNat f.2.toNat := by unfold partsZ; rw [if_pos (apart_right h)]
  rw [if_pos ⟨by rw [hp]; simp, h⟩]
  apply packGo_some
  intro p hp'
  rw [hp, List.mem_iff_getElem] at hp'
  obtain ⟨i, hi, rfl⟩ := hp'
  rw [List.getElem_zip, List.getElem_map]
  exact ⟨getZ_nonneg _ _ _, getZ_lt _ _ _⟩

/-- A word is the sum. -/
def sumZ : List ((Int × Int) × Int) → Int
  | [] => 0
  | (f, v) :: r => v * 2 ^ f.1.toNat + sumZ r
theorem packGo_sum {l : List ((Int × Int) × Int)} {w z : Int} (h : packGo w l = some z) (hp : l.Pairwise fun p q => Far p.1 q.1) (h0 : ∀ p ∈ l, gz w p.1 = 0) : z = w + sumZ l := by
  induction l generalizing w with
  | nil => simp [packGo] at h; simp [sumZ, h]
  | cons p r ih =>
    obtain ⟨f, v⟩ := p
    rw [List.pairwise_cons] at hp
    simp only [packGo] at h
    split at h
    · cases h
    · rename_i hv
      have hf0 := h0 (f, v) (by simp)
      have h2 : ∀ q ∈ r, gz (pz w f v) q.1 = 0 := fun q hq => by
        rw [show gz (pz w f v) q.1 = gz w q.1 from get_put_far _ _ _ _ _ _ (hp.1 q hq)]
        exact h0 q (by simp [hq])
      have hm : v % 2 ^ f.2.toNat = v := Int.emod_eq_of_lt (by omega) (by omega)
      have e : pz w f v = w + v * 2 ^ f.1.toNat := by
        unfold pz putZ
        rw [hm]
        have : getZ w f.1.toNat f.2.toNat = 0 := hf0
        rw [this]; omega
      have := ih h hp.2 h2
      rw [this]
      show pz w f v + sumZ r = w + (v * 2 ^ f.1.toNat + sumZ r)
      rw [e]; omega
theorem gz_zero (f : Int × Int) : gz 0 f = 0 := by simp [gz, getZ]
def okV (p : (Int × Int) × Int) : Bool := decide (0 ≤ p.2 ∧ p.2 ≤ 2 ^ p.1.2.toNat - 1)
theorem packGo_closed {l : List ((Int × Int) × Int)} (hp : l.Pairwise fun p q => Far p.1 q.1) : packGo 0 l = if l.all okV then some (sumZ l) else none := by
  by_cases h : l.all okV = true
  · rw [if_pos h]
    rw [List.all_eq_true] at h
    obtain ⟨z, hz⟩ := packGo_some 0 (l := l) fun p hp => by have := h p hp; unfold okV at this; simp at this; omega
    have := packGo_sum hz hp fun p _ => gz_zero _
    rw [hz, this]; simp
  · rw [if_neg h]
    cases hz : packGo 0 l with
    | none => rfl
    | some z =>
      exfalso
      apply h
      clear hp h
      generalize (0 : Int) = w at hz
      induction l generalizing w with
      | nil => rfl
      | cons p r ih =>
        obtain ⟨f, v⟩ := p
        simp only [packGo] at hz
        split at hz
        · cases hz
        · rename_i hv
          rw [List.all_cons, ih _ hz]
          simp [okV]
          omega
theorem sumZ_append (l r : List ((Int × Int) × Int)) : sumZ (l ++ r) = sumZ l + sumZ r := by
  induction l with
  | nil => simp [sumZ]
  | cons p l ih => obtain ⟨f, v⟩ := p; simp only [List.cons_append, sumZ, ih]; omega
theorem rowAt_two {w : World} {b : Nat} {a d : Int} (h0 : w.cell? ⟨b, 0, none⟩ = some (.int .i64 a)) (h1 : w.cell? ⟨b, 1, none⟩ = some (.int .i64 d)) : RowAt encF 2 w w.heap.size (some ⟨b, 0, none⟩) [(a, d)] := fun _ => by
  refine ⟨b, 0, rfl, cell_lt h0, fun k x hx j u hu => ?_⟩
  match k, hx with
  | 0, hx =>
    simp at hx; subst hx
    match j, hu with
    | 0, hu => simp [encF] at hu; subst hu; simpa using h0
    | 1, hu => simp [encF] at hu; subst hu; simpa using h1
    | j + 2, hu => simp [encF] at hu
  | k + 1, hx => simp at hx
theorem rowAt_one {w : World} {b : Nat} {n : Int} (h0 : w.cell? ⟨b, 0, none⟩ = some (.int .i64 n)) : RowAt encI 1 w w.heap.size (some ⟨b, 0, none⟩) [n] := fun _ => by
  refine ⟨b, 0, rfl, cell_lt h0, fun k x hx j u hu => ?_⟩
  match k, hx with
  | 0, hx =>
    simp at hx; subst hx
    match j, hu with
    | 0, hu => simp [encI] at hu; subst hu; simpa using h0
    | j + 1, hu => simp [encI] at hu
  | k + 1, hx => simp at hx

theorem cell_more {w : World} {b i : Nat} {v : Value} (h : w.cell? ⟨b, i, none⟩ = some v) (o : Obj) : (w.alloc o).cell? ⟨b, i, none⟩ = some v :=
  (World.cell?_alloc_lt w o ⟨b, i, none⟩ (cell_lt h)).trans h
theorem cell_new {w : World} {cs : Array Value} {t : TypeId} {g i : Nat} {v : Value} (hg : g = w.heap.size) (h : cs[i]? = some v) : (w.alloc (.cells cs t)).cell? ⟨g, i, none⟩ = some v := by
  subst hg
  unfold World.cell?
  rw [World.alloc_heap_new w (.cells cs t)]
  simpa using h

def Blk (w : World) (g : Nat) (t : TypeId) (cs : Array Value) : Prop := w.heap[g]? = some (.cells cs t (0, 0))
section
variable {w w' : World} {g : Nat} {t : TypeId} {cs : Array Value}
theorem Blk.lt (h : Blk w g t cs) : g < w.heap.size := (Array.getElem?_eq_some_iff.1 h).1
theorem Blk.cell (h : Blk w g t cs) (i : Nat) : w.cell? ⟨g, i, none⟩ = cs[i]? := by simp [World.cell?, show w.heap[g]? = _ from h]
theorem Blk.frozen (h : Blk w g t cs) (i : Nat) : w.frozen? ⟨g, i, none⟩ = false := by
  unfold Blk at h
  simp [World.frozen?, h]
theorem Blk.new (w : World) (t : TypeId) (cs : Array Value) : Blk (w.alloc (.cells cs t)) w.heap.size t cs := World.alloc_heap_new w _
theorem Blk.drewN (h : Blk w g t cs) (n : Nat) : Blk (w.drewN n) g t cs := h
theorem Blk.set_ (h : Blk w g t cs) (i : Nat) (u : Value) : Blk (w.setCell ⟨g, i, none⟩ u) g t (cs.setIfInBounds i u) := by
  unfold Blk at h ⊢
  simp [World.setCell, Array.getElem?_modify, h]
theorem Blk.below {B : Nat} (h : Blk w g t cs) (hb : Below B w w') (hg : g < B) : Blk w' g t cs := (hb.block g hg).trans h
end

theorem flat_get {α : Type} (enc : α → List Value) (size : Nat) (hs : ∀ x, (enc x).length = size) : ∀ (xs : List α) (k j : Nat) (x : α) (u : Value), xs[k]? = some x → (enc x)[j]? = some u → (xs.flatMap enc)[k * size + j]? = some u
  | [], k, j, x, u, hx, _ => by simp at hx
  | y :: r, 0, j, x, u, hx, hu => by
    simp at hx; subst hx
    have hj : j < (enc y).length := (List.getElem?_eq_some_iff.1 hu).1
    rw [List.flatMap_cons, Nat.zero_mul, Nat.zero_add, List.getElem?_append_left hj]
    exact hu
  | y :: r, k + 1, j, x, u, hx, hu => by
    simp at hx
    have := flat_get enc size hs r k j x u hx hu
    rw [List.flatMap_cons, List.getElem?_append_right (by rw [hs, Nat.add_mul]; omega), hs]
    rw [show (k + 1) * size + j - size = k * size + j by rw [Nat.add_mul]; omega]
    exact this
/-- A row of the call's own, of elements of whatever size, reads. -/
theorem rowAt_own {α : Type} {enc : α → List Value} {size : Nat} (hs : ∀ x, (enc x).length = size) {w : World} {base : Nat} {e : TypeId} {v : Value} {xs : List α} (h : w.ownsRow base e size v xs.length (xs.flatMap enc)) :
    ∃ A cap, v = .slice A xs.length cap ∧ xs.length ≤ cap ∧ RowAt enc size w w.heap.size A xs := by
  rcases h.2 with ⟨rfl, h0⟩ | ⟨g, cap, cur, rfl, hg, hh, hc, _, hsz, htake⟩
  · obtain rfl : xs = [] := List.eq_nil_of_length_eq_zero h0
    exact ⟨none, 0, rfl, Nat.le_refl _, fun h => absurd rfl h⟩
  · refine ⟨_, cap, rfl, hc, fun _ => ⟨g, 0, rfl, (Array.getElem?_eq_some_iff.1 hh).1, fun k x hx j u hu => ?_⟩⟩
    have h1 := flat_get enc size hs xs k j x u hx hu
    have hlt := (List.getElem?_eq_some_iff.1 h1).1
    have hfl : (xs.flatMap enc).length = xs.length * size := h.1
    rw [← htake, List.getElem?_take_of_lt (by omega)] at h1
    simp only [World.cell?, hh]
    simp
    rw [← h1]; simp
theorem own_grown {w w' : World} {base : Nat} {e : TypeId} {size : Nat} {v : Value} {n : Nat} {xs : List Value} {row : Option Nat} (h : w.ownsRow base e size v n xs) (hg : w.grownBy w' row) (hne : ∀ g, v.ownBlock = some g → some g ≠ row) : w'.ownsRow base e size v n xs := by
  refine ⟨h.1, ?_⟩
  rcases h.2 with h2 | ⟨g, cap, cur, rfl, hb, hh, r⟩
  · exact .inl h2
  · exact .inr ⟨g, cap, cur, rfl, hb, by rw [hg.block g (Array.getElem?_eq_some_iff.1 hh).1 (hne g rfl)]; exact hh, r⟩
theorem own_ne {w : World} {base base' : Nat} {e e' : TypeId} {size size' : Nat} {v v' : Value} {n n' : Nat} {xs xs' : List Value} (h : w.ownsRow base e size v n xs) (h' : w.ownsRow base' e' size' v' n' xs') (hne : e ≠ e') : ∀ g, v.ownBlock = some g → some g ≠ v'.ownBlock := by
  rintro g hg hg'
  rcases h.2 with ⟨rfl, _⟩ | ⟨b, cap, cur, rfl, _, hh, _⟩
  · simp [Value.ownBlock] at hg
  rcases h'.2 with ⟨rfl, _⟩ | ⟨b', cap', cur', rfl, _, hh', _⟩
  · simp [Value.ownBlock] at hg'
  simp [Value.ownBlock] at hg hg'
  subst hg hg'
  rw [hh] at hh'
  injection hh' with hh'
  injection hh' with _ ht
  exact hne ht
theorem own_from {w : World} {base : Nat} {e : TypeId} {size : Nat} {v : Value} {n : Nat} {xs : List Value} (h : w.ownsRow base e size v n xs) : ∀ k, v.ownBlock = some k → base ≤ k := by
  intro k hk
  rcases h.2 with ⟨rfl, _⟩ | ⟨b, cap, cur, rfl, hb, _⟩
  · simp [Value.ownBlock] at hk
  · simp [Value.ownBlock] at hk; omega

end Go.Proofs.YthfoljgaiincdaaDoor
