
import Derived.Test.YthfoljgaiincdaaDoorFieldB
namespace Go.Proofs.YthfoljgaiincdaaDoor
open Go.RowKit Go.Fld Go.Shelf
set_option linter.unusedVariables false
attribute [local go_sem] Oper.semAt_some

def maskZ (f : Int × Int) : Int := (2 ^ f.2.toNat - 1) * 2 ^ f.1.toNat
def meetB (p : (Int × Int) × (Int × Int)) : Bool := bits .and .i64 (maskZ p.1) (maskZ p.2) != 0
def allRight (l : List (Int × Int)) : Bool := l.all fun f => rightB f.1 f.2
def apartB (l : List (Int × Int)) : Bool := allRight l && (pairsOf l).all fun p => !meetB p

theorem boxed_below {W W' : World} {B : Nat} {t : TypeId} {v : Value} {n : Nat} (h : Boxed W B t v) (hb : Below n W W') (hn : B < n) : Boxed W' B t v :=
  (hb.block B hn).trans h

/-- Block b is a field's box. -/
def Two (W : World) (b : Nat) (x y : Value) : Prop := W.heap[b]? = some (.cells #[x, y] 104 (0, 0))
theorem Two.new (W : World) (x y : Value) : Two (W.alloc (.cells #[x, y] 104)) W.heap.size x y := World.alloc_heap_new W _
theorem Two.lt {W : World} {b : Nat} {x y : Value} (h : Two W b x y) : b < W.heap.size := (Array.getElem?_eq_some_iff.1 h).1
theorem Two.alloc {W : World} {b : Nat} {x y : Value} (h : Two W b x y) (o : Obj) : Two (W.alloc o) b x y := (Below.heap_alloc W o b h.lt).trans h
theorem Two.below {W W' : World} {b n : Nat} {x y : Value} (h : Two W b x y) (hb : Below n W W') (hn : b < n) : Two W' b x y := (hb.block b hn).trans h
theorem Two.cell0 {W : World} {b : Nat} {x y : Value} (h : Two W b x y) : W.cell? ⟨b, 0, none⟩ = some x := by simp [World.cell?, show W.heap[b]? = _ from h]
theorem Two.cell1 {W : World} {b : Nat} {x y : Value} (h : Two W b x y) : W.cell? ⟨b, 1, none⟩ = some y := by simp [World.cell?, show W.heap[b]? = _ from h]
theorem Two.own {W W' : World} {b : Nat} {x y : Value} {row : Option Nat} (h : Two W b x y) (hg : W.grownBy W' row) (hr : ∀ r, row = some r → ∃ o : Obj, W.heap[r]? = some o ∧ o.isCells = false) : Two W' b x y := by
  refine (hg.block b h.lt ?_).trans h
  rintro rfl
  obtain ⟨o, ho, hc⟩ := hr b rfl
  rw [show W.heap[b]? = _ from h] at ho
  cases ho
  cases hc

/-- A pair of right fields. -/
abbrev RPair := { p : (Int × Int) × (Int × Int) // rightB p.1.1 p.1.2 = true ∧ rightB p.2.1 p.2.2 = true }
theorem right_pairs {fs : List (Int × Int)} (har : allRight fs = true) {p : (Int × Int) × (Int × Int)} (h : p ∈ pairsOf fs) : rightB p.1.1 p.1.2 = true ∧ rightB p.2.1 p.2.2 = true := by
  unfold allRight at har
  rw [List.all_eq_true] at har
  exact ⟨har _ (mem_pairs h).1, har _ (mem_pairs h).2⟩
theorem pairs_stops (A : Option Addr) (cap : Nat) (fs : List (Int × Int)) (hcap : fs.length ≤ cap) (hmax : fs.length ≤ 1000) (har : allRight fs = true) (nb n₀ : Nat) (w : World) (hn : n₀ ≤ w.heap.size) (hnb : nb < w.heap.size)
    (hc : w.cell? ⟨nb, 0, none⟩ = some (.slice A fs.length cap)) (hR : RowAt encF 2 w n₀ A fs) :
    SeqStopsK Fence.wide 5 Tryd.prog 126 #[.pointer (some ⟨nb, 0, none⟩)] (fun x : RPair => encP x.1) KeepsCells (fun ys => ys.map (·.1) = pairsOf fs) (fun pre => pre.map (·.1) <+: pairsOf fs) (pairsOf fs).length w := by
  intro l J Jx W hW hJ _ hY h0
  have h := pairs1_in Fence.wide 5 trivial rfl (by omega) l nb n₀ A cap fs hcap hmax W (by have := hW.size; omega) (fun pre W => ∃ q : List RPair, q.map (·.1) = pre ∧ J q W) (fun pre W => ∃ q : List RPair, q.map (·.1) = pre ∧ Jx q W)
    (fun s A B row hs hg hr => by obtain ⟨q, hq, hJq⟩ := hs; exact ⟨q, hq, hJ q A B row hJq hg hr⟩)
    (by
      rintro pre x W1 ⟨q, rfl, hJq⟩ hpre
      have hx := right_pairs har (hpre.subset (List.mem_append.2 (.inr (List.mem_singleton.2 rfl))))
      have hl := hpre.length_le
      simp at hl
      obtain ⟨fn, tmps, assign, body, h1, h2⟩ := hY q ⟨x, hx⟩ W1 hJq (by omega)
      refine ⟨fn, tmps, assign, body, h1, h2.mono ?_⟩
      rintro e W' (⟨he, hJ', hk⟩ | ⟨he, hJ'⟩)
      · exact .inl ⟨he, ⟨_, by simp, hJ'⟩, hk⟩
      · exact .inr ⟨he, ⟨_, by simp, hJ'⟩⟩)
    ((hW.cell (p := ⟨nb, 0, none⟩) hnb).trans hc) (hR.below (hW.mono hn)) ⟨[], rfl, h0⟩
  refine h.mono ?_
  rintro e W' ⟨he, ⟨ys, rfl, q, hq, hJq⟩ | ⟨pre, hpre, q, rfl, hJq⟩⟩
  · exact ⟨he, .inl ⟨q, hq, hJq⟩⟩
  · exact ⟨he, .inr ⟨q, hpre, hJq⟩⟩

set_option maxRecDepth 100000 in
set_option maxHeartbeats 2000000 in
theorem apart_any (A : Option Addr) (cap : Nat) (fs : List (Int × Int)) (hcap : fs.length ≤ cap) (hmax : fs.length ≤ 1000) (w : World) (hR : RowAt encF 2 w w.heap.size A fs) :
    Calls Tryd.prog 112 #[.slice A fs.length cap] w fun e w' => e = .returned (.bool (apartB fs)) ∧ Below w.heap.size w w' := by
  refine (callsIn_wide (n := 6)).1 ?_
  refine callsIn_of_wp_marks Tryd.func112 rfl trivial ?_ rfl
  simp only [Tryd.ntmps112, List.size_toArray, List.length_cons, List.length_nil, Nat.reduceAdd, Nat.reduceSub, Array.replicate_succ, Array.replicate_zero, List.push_toArray, List.append_toArray, List.nil_append, List.cons_append]
  gi_wp2
  gi_loopw [9] (fun i wr => ∃ k : Nat, k ≤ fs.length ∧ i = .int .i64 k ∧ allRight (fs.take k) = true ∧ Below w.heap.size w wr ∧ Boxed wr w.heap.size 4 (.bool false))
    (fun i _ => fs.length - (intOf i).toNat)
  case atStart => exact ⟨0, Nat.zero_le _, rfl, by simp [allRight], (Below.refl _ _).alloc (Nat.le_refl _) _, Boxed.new w 4 _⟩
  case round =>
    obtain ⟨k, hk, rfl, har, hB, hb⟩ := hrel
    have hsz := hB.size
    have hbl := hb.lt
    by_cases hlt : k < fs.length
    · obtain ⟨b, off, rfl, hbl2, hc0, hc1⟩ := fieldAt (hR.below hB) hlt
      have hcb := hb.cell
      have hfb := hb.frozen
      by_cases hri : rightB fs[k].1 fs[k].2 = true
      · gi_wp2_with (refine ⟨trivial, ?_⟩; gi_at_call 85; refine (callsIn_wide.2 (right_any _ _ _)).mono ?_; rintro e w1 ⟨rfl, hb1⟩; obtain ⟨hc, hf⟩ := bcell hb1)
        go_roundw
        case rel =>
          refine ⟨k + 1, by omega, by go_num, ?_, ?_, ?_⟩
          · rw [List.take_succ_eq_append_getElem hlt]
            unfold allRight at har ⊢
            rw [List.all_append, har]
            simp [hri]
          · exact (hB.alloc hB.size _).trans (hb1.mono (by simp; omega))
          · exact boxed_below (hb.alloc _) hb1 (by simp; omega)
        case measure => simp [intOf]; omega
      · gi_wp2_with (refine ⟨trivial, ?_⟩; gi_at_call 85; refine (callsIn_wide.2 (right_any _ _ _)).mono ?_; rintro e w1 ⟨rfl, hb1⟩; obtain ⟨hc, hf⟩ := bcell hb1)
        have hb2 : Boxed (w1.setCell ⟨w.heap.size, 0, none⟩ (.bool false)) w.heap.size 4 (.bool false) := (boxed_below (hb.alloc (.cells #[.int .i64 fs[k].1, .int .i64 fs[k].2] 104)) hb1 (by simp; omega)).set _
        have hc2 := hb2.cell
        have hna : apartB fs = false := by
          have : allRight fs = false := by
            unfold allRight
            rw [List.all_eq_false]
            exact ⟨_, List.getElem_mem hlt, hri⟩
          simp [apartB, this]
        refine ⟨.bool false, ?_, by rw [hna], ?_⟩
        · simp [results, Tryd.f112, go_sem, hc2]
        · exact ((hB.alloc hB.size _).trans (hb1.mono (by simp; omega))).setCell (p := ⟨w.heap.size, 0, none⟩) (Nat.le_refl _) _
    · obtain rfl : k = fs.length := by omega
      have har' : allRight fs = true := by rw [List.take_length] at har; exact har
      gi_wp2_with (refine ⟨trivial, ?_⟩; gi_at_call 123; refine (pairs_in Fence.wide 5 trivial rfl _ _ _ _).mono ?_; rintro e w1 ⟨rfl, rfl⟩)
      have hlen30 : (pairsOf fs).length = (pairsOf fs).length := rfl
      have hb0 : Boxed (wr.alloc (.cells #[.slice A fs.length cap] 107)) w.heap.size 4 (.bool false) := hb.alloc _
      have bN := Boxed.new wr 107 (.slice A fs.length cap)
      have hB0 : Below w.heap.size w (wr.alloc (.cells #[.slice A fs.length cap] 107)) := hB.alloc hB.size _
      have hsz0 : (wr.alloc (.cells #[.slice A fs.length cap] 107)).heap.size = wr.heap.size + 1 := by simp
      obtain ⟨nb, hnb⟩ : ∃ nb, nb = wr.heap.size := ⟨_, rfl⟩
      obtain ⟨W0, hW0⟩ : ∃ W0, wr.alloc (.cells #[.slice A fs.length cap] 107) = W0 := ⟨_, rfl⟩
      rw [hW0] at hb0 bN hB0 hsz0 ⊢
      rw [← hnb] at bN hsz0 hsz hbl ⊢
      clear hW0 hnb hb hB har
      refine wpIn_rangeFunc_ownH (F := Fence.wide) rfl (by omega) (gf := 126) (lb := #[.pointer (some ⟨nb, 0, none⟩)]) rfl trivial (enters_of Tryd.func126 (by kernel_rfl) rfl)
        (S := fun ys => ys.map (·.1) = pairsOf fs) (Sp := fun pre => pre.map (·.1) <+: pairsOf fs) (N := (pairsOf fs).length) (encs := fun x : RPair => encP x.1) (Kp := KeepsCells) (w0 := W0)
        (pairs_stops A cap fs hcap hmax har' nb w.heap.size W0 (by omega) bN.lt bN.cell (hR.below hB0))
        KeepsCells.trans (KeepsCells.put (w := W0)) (Below.refl _ _) (fun _ => rfl)
        (fun pre W => ((∀ p ∈ pre, meetB p.1 = false) ∧ Boxed W w.heap.size 4 (.bool false)) ∧ Below w.heap.size w W)
        (fun c pre W => (c = .ret ∧ (∃ p ∈ pre, meetB p.1 = true) ∧ Boxed W w.heap.size 4 (.bool false)) ∧ Below w.heap.size w W)
        (OwnFrom.and (Own.from (fun s A B row hs hg hr => ⟨hs.1, boxed_own _ 4 (fun (_ : Unit) => Value.bool false) () A B row hs.2 hg hr⟩) _) (ownFrom_below (Nat.le_refl _) (by omega)))
        (fun c => OwnFrom.and (Own.from (fun s A B row hs hg hr => ⟨hs.1, hs.2.1, boxed_own _ 4 (fun (_ : Unit) => Value.bool false) () A B row hs.2.2 hg hr⟩) _) (ownFrom_below (Nat.le_refl _) (by omega)))
        ⟨⟨by simp, hb0⟩, hB0⟩
        (fun y a' W => ∃ Bf Bg, w.heap.size < Bf ∧ w.heap.size < Bg ∧ Bf ≠ Bg ∧ Two W Bf (.int .i64 y.1.1.1) (.int .i64 y.1.1.2) ∧ Two W Bg (.int .i64 y.1.2.1) (.int .i64 y.1.2.2) ∧ a' = { tmps := #[.slice A fs.length cap, undef, .pointer (some ⟨w.heap.size, 0, none⟩), undef, u4, .pointer (some ⟨Bf, 0, none⟩), .pointer (some ⟨Bg, 0, none⟩), .slice A fs.length cap, .int .i64 fs.length, .int .i64 fs.length, .bool false, u11, u12, u13, u14, u15, u16, .slice A fs.length cap, .func (.func 126) #[] #[.pointer (some ⟨nb, 0, none⟩)], .agg #[.int .i64 y.1.1.1, .int .i64 y.1.1.2], .agg #[.int .i64 y.1.2.1, .int .i64 y.1.2.2], undef, undef, undef, undef, undef, undef], defers := [] })
        (fun x a' _ X Y row hs hg hr => by obtain ⟨Bf, Bg, h1, h2, h3, h4, h5, h6⟩ := hs; exact ⟨Bf, Bg, h1, h2, h3, h4.own hg (fun r e => (hr r e).2), h5.own hg (fun r e => (hr r e).2), h6⟩)
        ?assign ?body ?done ?stop
      case assign =>
        rintro l pre x W K ⟨⟨hp, hbW⟩, hBW⟩ hK
        have hlW := hbW.lt
        have hsW := hBW.size
        dsimp only [encP]
        gi_wp2
        have k1 : Below w.heap.size W ((W.alloc (.cells #[.int .i64 x.1.1.1, .int .i64 x.1.1.2] 104)).alloc (.cells #[.int .i64 x.1.2.1, .int .i64 x.1.2.2] 104)) := ((Below.refl _ W).alloc hsW _).alloc (by simp; omega) _
        have k2 : KeepsOthers W ((W.alloc (.cells #[.int .i64 x.1.1.1, .int .i64 x.1.1.2] 104)).alloc (.cells #[.int .i64 x.1.2.1, .int .i64 x.1.2.2] 104)) := (KeepsOthers.alloc _ _).trans (KeepsOthers.alloc _ _)
        have k3 : KeepsCells W ((W.alloc (.cells #[.int .i64 x.1.1.1, .int .i64 x.1.1.2] 104)).alloc (.cells #[.int .i64 x.1.2.1, .int .i64 x.1.2.2] 104)) := KeepsCells.of_below (((Below.refl _ W).alloc (Nat.le_refl _) _).alloc (by simp) _)
        have t1 := (Two.new W (.int .i64 x.1.1.1) (.int .i64 x.1.1.2)).alloc (.cells #[.int .i64 x.1.2.1, .int .i64 x.1.2.2] 104)
        have t2 := Two.new (W.alloc (.cells #[.int .i64 x.1.1.1, .int .i64 x.1.1.2] 104)) (.int .i64 x.1.2.1) (.int .i64 x.1.2.2)
        rw [World.size_alloc] at t2
        exact hK _ _ (k2.from _) k3 ⟨⟨hp, (hbW.alloc _).alloc _⟩, hBW.trans k1⟩ ⟨W.heap.size, W.heap.size + 1, hlW, by omega, by omega, t1, t2, rfl⟩
      case body =>
        rintro l pre x a' W hl ⟨r, hr⟩ ⟨⟨hp, hbW⟩, hBW⟩ ⟨Bf, Bg, h1, h2, h3, h4, h5, rfl⟩ hlt
        have hx := hbW.cell
        have hx2 := hbW.frozen
        have c0 := h4.cell0
        have c1 := h4.cell1
        have d0 := h5.cell0
        have d1 := h5.cell1
        have l1 := h4.lt
        have l2 := h5.lt
        have hmx : Tryd.prog.follows .mixedOrders = true := by kernel_rfl
        gi_wp2
        have HX1 := Lib.hid x.2.1
        have HX2 := Lib.hid x.2.2
        gi_region_with_o (refine ⟨trivial, ?_⟩; gi_at_call 124; refine (CallsIn.inRound l (callsIn_wide.2 (mask_yes _ _ _ ?_))).mono ?_; (first | exact HX1.out | exact HX2.out); rintro e w' ⟨rfl, hb⟩; try (have q0 := (hb.cell (p := ⟨Bg, 0, none⟩) l2).trans d0; have q1 := (hb.cell (p := ⟨Bg, 1, none⟩) l2).trans d1))
        all_goals
          have hA1 := ‹Below W.drew.heap.size W.drew _›
          have hBB : Below W.heap.size W w' := ((Below.refl _ W).drew.trans hA1).trans (hb.mono hA1.size)
          have hw1 := boxed_below hbW hBB (by omega)
          have hw2 := hw1.cell
          have hw3 := hw1.frozen
          have hK1 : KeepsOthers W w' := ⟨hBB.size, fun k o ho _ => (hBB.block k (Array.getElem?_eq_some_iff.1 ho).1).trans ho⟩
          have hK2 := KeepsCells.of_below hBB
          have hB2 := hBW.trans (hBB.mono hBW.size)
          have HHP := Lib.hid hp
          clear hA1 hb hp hBB hBW
          by_cases hm : meetB x.1 = true
          · have hm' : (bits BinOp.and IntKind.i64 ((2 ^ x.1.1.2.toNat - 1) * 2 ^ x.1.1.1.toNat) ((2 ^ x.1.2.2.toNat - 1) * 2 ^ x.1.2.1.toNat) != 0) = true := hm
            gi_wp2
            exact ⟨(hK1.trans (KeepsOthers.setCell _ _ _)).from _, ⟨rfl, ⟨x, List.mem_append.2 (.inr (by simp)), hm⟩, hw1.set _⟩, hB2.setCell (p := ⟨w.heap.size, 0, none⟩) (Nat.le_refl _) _⟩
          · have hm2 : meetB x.1 = false := by simpa using hm
            have hm' : (bits BinOp.and IntKind.i64 ((2 ^ x.1.1.2.toNat - 1) * 2 ^ x.1.1.1.toNat) ((2 ^ x.1.2.2.toNat - 1) * 2 ^ x.1.2.1.toNat) != 0) = false := hm2
            gi_wp2
            exact ⟨hK1.from _, hK2, ⟨fun p hp' => (List.mem_append.1 hp').elim (HHP.out p) (fun e => by simp at e; subst e; exact hm2), hw1⟩, hB2⟩
      case done =>
        rintro D ys W hD hys ⟨⟨hp, hbW⟩, hBW⟩ hK
        have hx := hbW.cell
        have hx2 := hbW.frozen
        gi_wp2
        have hK' := (KeepsOthers.setCell W ⟨w.heap.size, 0, none⟩ (.bool true)).same D _ hK rfl
        refine ⟨by simp, .inl ⟨_, _, rfl, run_takeDeferred hK', ?_⟩⟩
        have hc5 := cell_kept (World.cell?_setCell_same' W ⟨w.heap.size, 0, none⟩ (.bool true) (by rw [hx]; rfl)) (grownBy_putObj' _ D (.deferred none)) (fun r e => by cases e; exact ⟨_, hK', rfl⟩)
        have hya : apartB fs = true := by
          unfold apartB
          rw [har', Bool.true_and, List.all_eq_true]
          intro p hp1
          rw [← hys, List.mem_map] at hp1
          obtain ⟨q, hq, rfl⟩ := hp1
          rw [hp q hq]; rfl
        refine ⟨.bool true, ?_, by rw [hya], (hBW.setCell (p := ⟨w.heap.size, 0, none⟩) (Nat.le_refl _) _).trans (belowK_b (w := w) (Nat.le_refl _) _ D _ _ (by omega) hK' rfl rfl)⟩
        simp [results, Tryd.f112, go_sem, hc5]
      case stop =>
        rintro D c pre W hD hpre ⟨⟨rfl, ⟨q, hq, hmq⟩, hbW⟩, hBW⟩ hK
        have hx := hbW.cell
        gi_wp2
        refine ⟨by simp, .inl ⟨_, _, rfl, run_takeDeferred hK, ?_⟩⟩
        have hc5 := cell_kept hx (grownBy_putObj' _ D (.deferred none)) (fun r e => by cases e; exact ⟨_, hK, rfl⟩)
        have hya : apartB fs = false := by
          unfold apartB
          rw [har', Bool.true_and, List.all_eq_false]
          exact ⟨q.1, hpre.subset (List.mem_map.2 ⟨q, hq, rfl⟩), by simp [hmq]⟩
        refine ⟨.bool false, ?_, by rw [hya], hBW.trans (belowK_b (w := w) (Nat.le_refl _) W D _ _ (by omega) hK rfl rfl)⟩
        simp [results, Tryd.f112, go_sem, hc5]
end Go.Proofs.YthfoljgaiincdaaDoor
