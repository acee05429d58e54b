
import Derived.Test.YthfoljgaiincdaaDoorFieldD
import Derived.OwnWalk
import Derived.Maps.AppendAt
import Derived.RangeFuncBox
namespace Go.Proofs.YthfoljgaiincdaaDoor
open Go.RowKit Go.Fld
set_option linter.unusedVariables false
attribute [local go_sem ↓] Go.wp_at_zero Go.wp_at_succ

theorem Tryd.info3 : (Tryd.prog.info? 3).map (fun i => (i.zero, i.size, i.bytes)) = some (some (.int .i64 0), 1, 8) := by kernel_rfl

/-- v is a slice of the ints xs. -/
def SliceI (w : World) (v : Value) (xs : List Int) : Prop := ∃ A cap, v = .slice A xs.length cap ∧ xs.length ≤ cap ∧ RowAt encI 1 w w.heap.size A xs
theorem SliceI.of_own {w : World} {base : Nat} {v : Value} {xs : List Int} (h : w.ownsRow base 3 1 v xs.length (xs.map (Value.int .i64))) : SliceI w v xs := by
  rcases h.2 with ⟨rfl, h0⟩ | ⟨g, cap, cur, rfl, hg, hh, hc, _, hsz, htake⟩
  · obtain rfl : xs = [] := List.eq_nil_of_length_eq_zero h0
    exact ⟨none, 0, rfl, Nat.le_refl _, fun h => absurd rfl h⟩
  · refine ⟨_, cap, rfl, hc, fun _ => ⟨g, 0, rfl, (Array.getElem?_eq_some_iff.1 hh).1, fun k x hx j u hu => ?_⟩⟩
    have hk : k < xs.length := (List.getElem?_eq_some_iff.1 hx).1
    have hj : j = 0 ∧ u = .int .i64 x := by
      cases j with
      | zero => simp [encI] at hu; exact ⟨rfl, hu.symm⟩
      | succ j => simp [encI] at hu
    obtain ⟨rfl, rfl⟩ := hj
    have h1 : (xs.map (Value.int .i64))[k]? = some (.int .i64 x) := by simp [hx]
    rw [← htake, List.getElem?_take_of_lt (by omega)] at h1
    simp only [World.cell?, hh]
    simp
    rw [← h1]; simp
theorem SliceI.nil (w : World) : SliceI w (.slice none 0 0) [] := ⟨none, 0, rfl, Nat.le_refl _, fun h => absurd rfl h⟩
theorem SliceI.below {w w' : World} {v : Value} {xs : List Int} (h : SliceI w v xs) (hb : Below w.heap.size w w') : SliceI w' v xs := by
  obtain ⟨A, cap, rfl, hc, hr⟩ := h
  exact ⟨A, cap, rfl, hc, (hr.below hb).more hb.size⟩

theorem own_below {w w' : World} {base : Nat} {e : TypeId} {size : Nat} {v : Value} {n : Nat} {xs : List Value} (h : w.ownsRow base e size v n xs) (hb : Below w.heap.size w w') : w'.ownsRow base e size v n xs := by
  refine ⟨h.1, ?_⟩
  rcases h.2 with h2 | ⟨g, cap, cur, hv, hg, hh, r⟩
  · exact .inl h2
  · exact .inr ⟨g, cap, cur, hv, hg, by rw [hb.block g (Array.getElem?_eq_some_iff.1 hh).1]; exact hh, r⟩
def partsZ (x : Int) (fs : List (Int × Int)) : List Int := if allRight fs = true then fs.map fun f => getZ x f.1.toNat f.2.toNat else []
def PartsPost (x : Int) (fs : List (Int × Int)) (w : World) (e : Ending) (w' : World) : Prop := (∃ v, e = .returned v ∧ SliceI w' v (partsZ x fs)) ∧ Below w.heap.size w w'

set_option maxHeartbeats 1000000 in
theorem parts_any (x : Int) (A : Option Addr) (cap : Nat) (fs : List (Int × Int)) (hcap : fs.length ≤ cap) (hlen : fs.length ≤ 1000) (w : World) (hR : RowAt encF 2 w w.heap.size A fs) :
    Calls Tryd.prog 71 #[.int .i64 x, .slice A fs.length cap] w (PartsPost x fs w) := by
  obtain ⟨i0, hi, hz0, hz1, hz2⟩ := info_parts Tryd.info3
  go_enter Tryd.func71, Tryd.ntmps71
  go_wp2
  go_loopw [5, 10] (fun v i wr => ∃ k : Nat, k ≤ fs.length ∧ i = .int .i64 k ∧ allRight (fs.take k) = true ∧ wr.ownsRow w.heap.size 3 1 v k (((fs.take k).map fun f => getZ x f.1.toNat f.2.toNat).map (Value.int .i64)) ∧ Below w.heap.size w wr)
    (fun _ i _ => fs.length - (intOf i).toNat)
  case atStart => exact ⟨0, Nat.zero_le _, rfl, by simp [allRight], World.ownsRow_nil _ _ _ _, Below.refl _ _⟩
  case round =>
    obtain ⟨k, hk, rfl, har, hown, hB⟩ := hrel
    have hsz := hB.size
    by_cases hlt : k < fs.length
    · obtain ⟨b, off, rfl, hbl, hc0, hc1⟩ := fieldAt (hR.below hB) hlt
      have hbw : b < wr.heap.size := by omega
      by_cases hri : rightB fs[k].1 fs[k].2 = true
      · have HO := Lib.hid hown
        have HAR := Lib.hid har
        have hnx : fs.take (k + 1) = fs.take k ++ [fs[k]] := List.take_succ_eq_append_getElem hlt
        have HNX := Lib.hid hnx
        clear hown har hnx
        obtain ⟨p, hp⟩ : ∃ p, p = fs[k] := ⟨_, rfl⟩
        rw [← hp] at hc0 hc1 hri HNX
        clear hp
        have hS0 : (wr.alloc (.cells #[.int .i64 p.1, .int .i64 p.2] 104)).cell? ⟨wr.heap.size, 0, none⟩ = some (.int .i64 p.1) := by simp
        have hS1 : (wr.alloc (.cells #[.int .i64 p.1, .int .i64 p.2] 104)).cell? ⟨wr.heap.size, 1, none⟩ = some (.int .i64 p.2) := by simp
        have hS3 : Below w.heap.size w (wr.alloc (.cells #[.int .i64 p.1, .int .i64 p.2] 104)) := hB.alloc hsz _
        have hS4 : wr.heap.size < (wr.alloc (.cells #[.int .i64 p.1, .int .i64 p.2] 104)).heap.size := by simp
        have hS5 : Below wr.heap.size wr (wr.alloc (.cells #[.int .i64 p.1, .int .i64 p.2] 104)) := (Below.refl _ _).alloc (Nat.le_refl _) _
        go_wp2_with (go_at_call 85; refine (right_any _ _ _).mono ?_; rintro e w1 ⟨rfl, hb1⟩; have hT0 := (hb1.cell (p := ⟨wr.heap.size, 0, none⟩) hS4).trans hS0; have hT1 := (hb1.cell (p := ⟨wr.heap.size, 1, none⟩) hS4).trans hS1; have hT4 := Nat.lt_of_lt_of_le hS4 hb1.size)
        refine (get_yes _ _ _ _ hri).mono ?_
        rintro e w2 ⟨rfl, hb2⟩
        have hB2 : Below w.heap.size w w2 := (hS3.trans (hb1.mono (Nat.le_trans hsz (Nat.le_of_lt hS4)))).trans (hb2.mono (by omega))
        have hown2 := own_below (own_below HO.out (hS5.trans (hb1.mono (Nat.le_of_lt hS4)))) hb2
        have hsz2 := hB2.size
        have HO2 := Lib.hid hown2
        clear hb1 hb2 hS0 hS1 hS3 hS4 hS5 hT0 hT1 hT4 hc0 hc1 hown2
        go_wp2_with (at_builtin; refine wpList_append_own _ rfl _ _ 33 rfl w.heap.size 3 i0 (.int .i64 0) 1 8 Tryd.underlying33 hi hz0 hz1 hz2 rfl (by decide) _ _ _ rfl (HO2.out.alloc _) ⟨w2.heap.size, 0, none⟩ 1 1 [.int .i64 (getZ x p.1.toNat p.2.toNat)] rfl rfl ?c1 ?c2 ?c3 ?c4 ?c5 ?_)
        case c1 => exact cell_one_new _ _ _
        case c2 => simp [Value.oneCell']
        case c3 => unfold maxLen; omega
        case c4 => omega
        case c5 => simp; omega
        intro v' w3 hown3 hgr _
        have hgrow : Below w.heap.size w w3 := (hB2.alloc hsz2 _).grown hgr (by simp; omega) (fun j e => by
          rcases HO2.out.2 with ⟨rfl, _⟩ | ⟨g, cap, cur, rfl, hg, _⟩
          · simp [Value.ownBlock] at e
          · simp [Value.ownBlock] at e; omega)
        clear hgr
        obtain ⟨g', cap', rfl⟩ := ownsRow_succ hown3
        have HO3 := Lib.hid hown3
        clear hown3
        go_wp2
        go_roundw
        case rel =>
          refine ⟨k + 1, by omega, by go_num, ?_, ?_, hgrow⟩
          · rw [HNX.out]
            have := HAR.out
            unfold allRight at this ⊢
            rw [List.all_append, this]
            simp [hri]
          · have := HO3.out
            rw [HNX.out]
            simpa using this
        case measure => simp [intOf]; omega
      · have hri' : rightB fs[k].1 fs[k].2 = false := by simpa using hri
        clear hri
        go_wp2_with (go_at_call 85; refine (right_any _ _ _).mono ?_; rintro e w1 ⟨rfl, hb1⟩)
        go_ret
        have hn : partsZ x fs = [] := by
          unfold partsZ
          rw [if_neg]
          unfold allRight
          rw [List.all_eq_true]
          intro h
          have := h _ (List.getElem_mem hlt)
          rw [hri'] at this
          cases this
        exact ⟨⟨_, rfl, by rw [hn]; exact SliceI.nil _⟩, (hB.alloc hsz _).trans (hb1.mono (by simp; omega))⟩
    · obtain rfl : k = fs.length := by omega
      rw [List.take_length] at har hown
      have hsl : SliceI wr u5 (partsZ x fs) := by
        unfold partsZ; rw [if_pos har]; exact SliceI.of_own (by simpa using hown)
      go_wp2
      go_ret
      exact ⟨⟨_, rfl, hsl⟩, hB⟩
end Go.Proofs.YthfoljgaiincdaaDoor
