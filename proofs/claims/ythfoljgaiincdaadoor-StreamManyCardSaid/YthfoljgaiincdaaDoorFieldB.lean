
import Derived.Test.YthfoljgaiincdaaDoorFieldA
namespace Go.Proofs.YthfoljgaiincdaaDoor
open Go.RowKit Go.Fld Go.Shelf
set_option linter.unusedVariables false
attribute [local go_sem] Oper.semAt_some

/-- Every block of cells lies as it lay. -/
structure KeepsCells (W W' : World) : Prop where
  size : W.heap.size ≤ W'.heap.size
  same : ∀ (b : Nat) (o : Obj), W.heap[b]? = some o → o.isCells = true → W'.heap[b]? = some o
theorem KeepsCells.refl (W : World) : KeepsCells W W := ⟨Nat.le_refl _, fun _ _ h _ => h⟩
theorem KeepsCells.trans {A B C : World} (h : KeepsCells A B) (k : KeepsCells B C) : KeepsCells A C := ⟨Nat.le_trans h.size k.size, fun b o hb ho => k.same b o (h.same b o hb ho) ho⟩
theorem KeepsCells.put {w : World} (W : World) (l : Nat) (o o' : Obj) (_ : w.heap.size ≤ l) (h : W.heap[l]? = some o) (ho : o.isCells = false) (_ : o.isWalk = false) : KeepsCells W (W.putObj l o') := by
  refine ⟨by simp [World.putObj], ?_⟩
  intro b x hb hx
  have hne : b ≠ l := by rintro rfl; rw [h] at hb; cases hb; rw [ho] at hx; cases hx
  simp [World.putObj, hne.symm, hb]
theorem KeepsCells.cell {W W' : World} (h : KeepsCells W W') {p : Addr} {v : Value} (hc : W.cell? p = some v) : W'.cell? p = some v := by
  unfold World.cell? at hc ⊢
  split at hc
  · rename_i c t f e
    rw [h.same _ _ e rfl]; exact hc
  · cases hc
theorem KeepsCells.of_below {W W' : World} (h : Below W.heap.size W W') : KeepsCells W W' := ⟨h.size, fun b o hb _ => by
  rw [h.block b (Array.getElem?_eq_some_iff.1 hb).1]; exact hb⟩
theorem KeepsCells.rowAt {α : Type} {enc : α → List Value} {size : Nat} {w w' : World} {B : Nat} {A : Option Addr} {xs : List α} (h : KeepsCells w w') (hr : RowAt enc size w B A xs) : RowAt enc size w' B A xs := fun hn => by
  obtain ⟨b, off, e, hb, hc⟩ := hr hn
  exact ⟨b, off, e, hb, fun k x hx j u hu => h.cell (hc k x hx j u hu)⟩
theorem rowAt_alloc {α : Type} {enc : α → List Value} {size : Nat} {w : World} {B : Nat} {A : Option Addr} {xs : List α} (h : RowAt enc size w B A xs) (hB : B ≤ w.heap.size) (o : Obj) : RowAt enc size (w.alloc o) B A xs :=
  h.keep fun p hp => World.cell?_alloc_lt w o p (by omega)

theorem cell_lt {w : World} {b o : Nat} {v : Value} (h : w.cell? ⟨b, o, none⟩ = some v) : b < w.heap.size := by
  rcases Nat.lt_or_ge b w.heap.size with h1 | h1
  · exact h1
  · unfold World.cell? at h; simp [Array.getElem?_eq_none h1] at h
/-- x[k:] reads as the rest of the list; the address that it has hangs on the capacity: it stands under one name. -/
theorem slice_from {P : Program} {t e : TypeId} {sz : Nat} (ht : P.underlying t = some (.slice (P.elem t))) (he : P.elem t = e) (hs : ∀ w, (sizeOf e).run P w = .ok sz w) {α : Type} {enc : α → List Value} {A : Option Addr} {n cap : Nat} {xs : List α} (hn : n = xs.length) (hc : n ≤ cap) (k : Nat) (hk : k ≤ n) :
    ∃ A' , (∀ w, (Instr.slice t (.slice A n cap) (some (.int .i64 k)) none none).run P w = .ok (.slice A' (n - k) (cap - k)) w) ∧ ∀ w B, RowAt enc sz w B A xs → RowAt enc sz w B A' (xs.drop k) := by
  refine ⟨if cap = k then A else A.map (·.add (k * sz)), fun w => ?_, fun w B h hne => ?_⟩
  · rw [run_slice_l (P := P) w t A n cap ht .i64 k (by omega) (by omega), he, hs]
    simp [Result.andThen, sliced]
  · obtain ⟨b, off, rfl, hb, hcs⟩ := h (by rintro rfl; simp at hne)
    have hkl : k < xs.length := by
      rcases Nat.lt_or_ge k xs.length with h1 | h1
      · exact h1
      · exact absurd (List.drop_eq_nil_of_le h1) hne
    rw [if_neg (by omega)]
    refine ⟨b, off + k * sz, ?_, hb, fun j x hx i u hu => ?_⟩
    · simp only [Option.map_some, Addr.add]
      split
      · rename_i h0; simp [h0]
      · rfl
    · have := hcs (k + j) x (by rw [← hx, List.getElem?_drop]) i u hu
      rw [Nat.add_mul] at this
      rw [Nat.add_assoc off]
      exact this

/-- The pairs of a list, the one ahead first. -/
def pairsOf (l : List (Int × Int)) : List ((Int × Int) × (Int × Int)) := (List.range l.length).flatMap fun i => (l.drop (i + 1)).map fun g => (l[i]?.getD (0, 0), g)
def pairsTo (l : List (Int × Int)) (k : Nat) : List ((Int × Int) × (Int × Int)) := (List.range k).flatMap fun i => (l.drop (i + 1)).map fun g => (l[i]?.getD (0, 0), g)
def pairsIn (l : List (Int × Int)) (k m : Nat) : List ((Int × Int) × (Int × Int)) := pairsTo l k ++ ((l.drop (k + 1)).take m).map fun g => (l[k]?.getD (0, 0), g)
theorem pairsTo_succ (l : List (Int × Int)) (k : Nat) : pairsTo l (k + 1) = pairsIn l k (l.length - (k + 1)) := by
  unfold pairsTo pairsIn pairsTo
  rw [List.range_succ, List.flatMap_append]
  simp
  rw [List.take_of_length_le (by simp)]
theorem pairsIn_zero (l : List (Int × Int)) (k : Nat) : pairsIn l k 0 = pairsTo l k := by simp [pairsIn]
theorem pairsIn_succ (l : List (Int × Int)) (k m : Nat) (h : k + 1 + m < l.length) : pairsIn l k (m + 1) = pairsIn l k m ++ [(l[k]?.getD (0, 0), l[k + 1 + m])] := by
  unfold pairsIn
  rw [List.take_succ_eq_append_getElem (by simp; omega)]
  simp
theorem pairsTo_sub (l : List (Int × Int)) {k : Nat} (hk : k ≤ l.length) : pairsTo l k <+: pairsOf l := by
  unfold pairsTo pairsOf
  refine ⟨((List.range' k (l.length - k)).flatMap fun i => (l.drop (i + 1)).map fun g => (l[i]?.getD (0, 0), g)), ?_⟩
  rw [← List.flatMap_append]
  congr 1
  rw [List.range_eq_range', List.range_eq_range']
  have := List.range'_append_1 (s := 0) (m := k) (n := l.length - k)
  rw [Nat.zero_add] at this
  rw [this]
  congr 1
  omega
theorem pairsIn_sub (l : List (Int × Int)) {k m : Nat} (hk : k < l.length) : pairsIn l k m <+: pairsOf l := by
  refine List.IsPrefix.trans ?_ (pairsTo_sub l (k := k + 1) hk)
  rw [pairsTo_succ]
  unfold pairsIn
  refine (List.prefix_append_right_inj _).2 ?_
  apply List.IsPrefix.map
  rw [List.take_of_length_le (i := l.length - (k + 1)) (by simp)]
  exact List.take_prefix _ _
theorem mem_pairs {l : List (Int × Int)} {p : (Int × Int) × (Int × Int)} (h : p ∈ pairsOf l) : p.1 ∈ l ∧ p.2 ∈ l := by
  unfold pairsOf at h
  rw [List.mem_flatMap] at h
  obtain ⟨i, hi, h⟩ := h
  rw [List.mem_map] at h
  obtain ⟨g, hg, rfl⟩ := h
  rw [List.mem_range] at hi
  refine ⟨?_, List.mem_of_mem_drop hg⟩
  rw [List.getElem?_eq_getElem hi]
  exact List.getElem_mem hi
def encP (x : (Int × Int) × (Int × Int)) : Array Value := #[.agg #[.int .i64 x.1.1, .int .i64 x.1.2], .agg #[.int .i64 x.2.1, .int .i64 x.2.2]]

set_option maxRecDepth 100000 in
set_option maxHeartbeats 2000000 in
theorem pairs1_in (F : Fence) (n : Nat) (h30 : F.fn 126) (hro : F.round = none) (hn : 1 ≤ n) (l Bs n₀ : Nat) (A : Option Addr) (cap : Nat) (fs : List (Int × Int)) (hcap : fs.length ≤ cap) (hmax : fs.length ≤ 1000)
    (W : World) (hn0 : n₀ ≤ W.heap.size) (J Jx : List ((Int × Int) × (Int × Int)) → World → Prop) (hJa : AbidesFrom W.heap.size J)
    (hY : ∀ pre x W1, J pre W1 → pre ++ [x] <+: pairsOf fs → YieldAt F (n - 1) Tryd.prog l (encP x) W1 fun e W' =>
      (e = .returned (.bool true) ∧ J (pre ++ [x]) W' ∧ KeepsCells W1 W') ∨ (e = .returned (.bool false) ∧ Jx (pre ++ [x]) W'))
    (hBs : W.cell? ⟨Bs, 0, none⟩ = some (.slice A fs.length cap)) (hR : RowAt encF 2 W n₀ A fs) (h0 : J [] W) :
    CallsIn F n Tryd.prog 126 #[.func (.yield l) #[] #[], .pointer (some ⟨Bs, 0, none⟩)] W fun e W' => (∃ v, e = .returned v) ∧
      ((∃ ys, ys = pairsOf fs ∧ J ys W') ∨ (∃ pre, pre <+: pairsOf fs ∧ Jx pre W')) := by
  refine callsIn_of_wp Tryd.func126 rfl h30 ?_ hro
  simp only [Tryd.ntmps126, List.size_toArray, List.length_cons, List.length_nil, Nat.reduceAdd, Nat.reduceSub, Array.replicate_succ, Array.replicate_zero, List.push_toArray, List.append_toArray, List.nil_append, List.cons_append]
  gi_wp2
  gi_loopw [9] (fun i wr => ∃ k : Nat, k ≤ fs.length ∧ i = .int .i64 k ∧ J (pairsTo fs k) wr ∧ KeepsCells W wr)
    (fun i _ => fs.length - (intOf i).toNat)
  case atStart => exact ⟨0, Nat.zero_le _, rfl, h0, KeepsCells.refl _⟩
  case round =>
    obtain ⟨k, hk, rfl, hJs, hK⟩ := hrel
    have hsz := hK.size
    by_cases hlt : k < fs.length
    · obtain ⟨b, off, rfl, hb, hc0, hc1⟩ := fieldAt (hK.rowAt hR) hlt
      have hBs' := hK.cell hBs
      have hBlt : Bs < wr.heap.size := Nat.lt_of_lt_of_le (cell_lt hBs) hsz
      obtain ⟨A2, hsl, hR2⟩ := slice_from (P := Tryd.prog) (t := 107) (e := 104) (sz := 2) Tryd.underlying107 (by kernel_rfl) (fun w => by kernel_rfl) (enc := encF) (A := some ⟨b, off, none⟩) (xs := fs) rfl hcap (k + 1) hlt
      have hR3 := hR2 _ _ (hK.rowAt hR)
      rw [show ((k + 1 : Nat) : Int) = (k : Int) + 1 by omega] at hsl
      gi_wp2
      obtain ⟨W0, hW0⟩ : ∃ W0, wr.alloc (.cells #[.int .i64 fs[k].1, .int .i64 fs[k].2] 104) = W0 := ⟨_, rfl⟩
      have hJ0 : J (pairsIn fs k 0) W0 := by rw [pairsIn_zero, ← hW0]; exact hJa _ _ _ none hJs (World.grownBy_alloc wr _ none) (by simp)
      have hK0 : KeepsCells W W0 := by rw [← hW0]; exact hK.trans (KeepsCells.of_below ((Below.refl _ _).alloc (Nat.le_refl _) _))
      have hf0 : W0.cell? ⟨wr.heap.size, 0, none⟩ = some (.int .i64 fs[k].1) := by rw [← hW0]; simp
      have hf1 : W0.cell? ⟨wr.heap.size, 1, none⟩ = some (.int .i64 fs[k].2) := by rw [← hW0]; simp
      have hR0 : RowAt encF 2 W0 n₀ A2 (fs.drop (k + 1)) := by rw [← hW0]; exact rowAt_alloc hR3 (by omega) _
      have hsz0 : W.heap.size ≤ W0.heap.size := by rw [← hW0]; simp; omega
      rw [hW0]
      clear hW0 hsl hc0 hc1 hBs' hR2 hR3
      obtain ⟨fb, hfb⟩ : ∃ fb, fb = wr.heap.size := ⟨_, rfl⟩
      rw [← hfb] at hf0 hf1 ⊢
      clear hfb
      obtain ⟨p0, hp0⟩ : ∃ p0, p0 = fs[k] := ⟨_, rfl⟩
      rw [← hp0] at hf0 hf1 ⊢
      have HP := Lib.hid hp0
      clear hp0
      gi_loopw [19] (fun i wi => ∃ m : Nat, m ≤ fs.length - (k + 1) ∧ i = .int .i64 m ∧ J (pairsIn fs k m) wi ∧ KeepsCells W0 wi)
        (fun i _ => fs.length - (k + 1) - (intOf i).toNat)
      case atStart => exact ⟨0, Nat.zero_le _, rfl, hJ0, KeepsCells.refl _⟩
      case round =>
        obtain ⟨m, hm, rfl, hJi, hKi⟩ := hrel
        have hszi := hKi.size
        by_cases hlm : m < fs.length - (k + 1)
        · obtain ⟨b2, off2, rfl, hb2, hd0, hd1⟩ := fieldAt (hKi.rowAt hR0) (k := m) (by simp; omega)
          have hg0 := hKi.cell hf0
          have hg1 := hKi.cell hf1
          have hglt := cell_lt hg0
          have hlm' : m < (fs.drop (k + 1)).length := by simp; omega
          obtain ⟨q0, hq0⟩ : ∃ q0, q0 = (fs.drop (k + 1))[m]'hlm' := ⟨_, rfl⟩
          rw [← hq0] at hd0 hd1
          have hps := pairsIn_succ fs k m (by omega)
          have hpe : (fs[k]?.getD (0, 0), fs[k + 1 + m]'(by omega)) = (p0, q0) := by
            rw [HP.out, hq0]
            simp [List.getElem?_eq_getElem hlt]
          rw [hpe] at hps
          have HQ := Lib.hid hps
          have hln : pairsIn fs k m ++ [(p0, q0)] <+: pairsOf fs := by rw [← hps]; exact pairsIn_sub fs (m := m + 1) hlt
          clear hps hpe hq0
          obtain ⟨fn, tmps, assign, body, hy, hYR⟩ := hY _ (p0, q0) (wr.alloc (.cells #[.int .i64 q0.1, .int .i64 q0.2] 104)) (hJa _ _ _ none hJi (World.grownBy_alloc wr _ none) (by simp)) hln
          simp only [encP] at hy
          gi_wp2
          refine hYR.mono ?_
          rintro e W3 (⟨rfl, hJ3, hk3⟩ | ⟨rfl, hJx3⟩)
          · gi_wp2
            go_roundw
            case rel => exact ⟨m + 1, by omega, by go_num, by rw [HQ.out]; exact hJ3, (hKi.trans (KeepsCells.of_below ((Below.refl _ _).alloc (Nat.le_refl _) _))).trans hk3⟩
            case measure => simp [intOf]; omega
          · gi_wp2
            refine bodyPost_ret (results_none rfl _ _ _) rfl ?_
            exact ⟨⟨_, rfl⟩, .inr ⟨_, pairsIn_sub fs (m := m + 1) hlt, by rw [HQ.out]; exact hJx3⟩⟩
        · obtain rfl : m = fs.length - (k + 1) := by omega
          gi_wp2
          go_roundw
          case rel => exact ⟨k + 1, by omega, by go_num, by rw [pairsTo_succ]; exact hJi, hK0.trans hKi⟩
          case measure => simp [intOf]; omega
    · obtain rfl : k = fs.length := by omega
      gi_wp2
      go_end0
      exact ⟨⟨_, rfl⟩, .inl ⟨_, rfl, hJs⟩⟩
end Go.Proofs.YthfoljgaiincdaaDoor
