import Derived.Test.YtljgocfmmdpdfaaRefFieldD
namespace Go.Proofs.Ytljgocfmmdpdfaa
open Go.RowKit Go.Fld
set_option linter.unusedVariables false
attribute [local go_sem ↓] Go.wp_at_zero Go.wp_at_succ

set_option maxHeartbeats 1000000 in
theorem refParts_any (x : Int) (A : Option Addr) (cap : Nat) (fs : List (Int × Int)) (hcap : fs.length ≤ cap) (hlen : fs.length ≤ 1000) (w : World) (hR : RowAt encF 2 w w.heap.size A fs) :
    Calls Try.prog 26 #[.int .i64 x, .slice A fs.length cap] w (PartsPost x fs w) := by
  obtain ⟨i0, hi, hz0, hz1, hz2⟩ := info_parts Try.info3
  go_enter Try.func26, Try.ntmps26
  go_wp2
  go_loopw [5, 6] (fun v i wr => ∃ k : Nat, k ≤ fs.length ∧ i = .int .i64 k ∧ allRight (fs.take k) = true ∧ wr.ownsRow w.heap.size 3 1 v k (((fs.take k).map fun f => getZ x f.1.toNat f.2.toNat).map (Value.int .i64)) ∧ Below w.heap.size w wr)
    (fun _ i _ => fs.length - (intOf i).toNat)
  case atStart => exact ⟨0, Nat.zero_le _, rfl, by simp [allRight], World.ownsRow_nil _ _ _ _, Below.refl _ _⟩
  case round =>
    obtain ⟨k, hk, rfl, har, hown, hB⟩ := hrel
    have hsz := hB.size
    by_cases hlt : k < fs.length
    · obtain ⟨b, off, rfl, hbl, hc0, hc1⟩ := fieldAt (hR.below hB) hlt
      have hbw : b < wr.heap.size := by omega
      by_cases hri : rightB fs[k].1 fs[k].2 = true
      · have HO := Lib.hid hown
        have HAR := Lib.hid har
        have hnx : fs.take (k + 1) = fs.take k ++ [fs[k]] := List.take_succ_eq_append_getElem hlt
        have HNX := Lib.hid hnx
        clear hown har hnx
        obtain ⟨p, hp⟩ : ∃ p, p = fs[k] := ⟨_, rfl⟩
        rw [← hp] at hc0 hc1 hri HNX
        clear hp
        go_wp2_with (go_at_call 12; refine (refRight_any _ _ _).mono ?_; rintro e w1 ⟨rfl, hb1⟩; have hd0 := (hb1.cell (p := ⟨b, off + k * 2, none⟩) hbw).trans hc0; have hd1 := (hb1.cell (p := ⟨b, off + k * 2 + 1, none⟩) hbw).trans hc1)
        refine (refGet_any _ _ _ hri _).mono ?_
        rintro e w2 ⟨rfl, hb2⟩
        have hB2 : Below w.heap.size w w2 := (hB.trans (hb1.mono hsz)).trans (hb2.mono (Nat.le_trans hsz hb1.size))
        have hown2 := own_below (own_below HO.out hb1) hb2
        have hsz2 := hB2.size
        have HO2 := Lib.hid hown2
        clear hb1 hb2 hd0 hd1 hc0 hc1 hown2
        go_wp2_with (at_builtin; refine wpList_append_own _ rfl _ _ 31 rfl w.heap.size 3 i0 (.int .i64 0) 1 8 Try.underlying31 hi hz0 hz1 hz2 rfl (by decide) _ _ _ rfl (HO2.out.alloc _) ⟨w2.heap.size, 0, none⟩ 1 1 [.int .i64 (getZ x p.1.toNat p.2.toNat)] rfl rfl ?c1 ?c2 ?c3 ?c4 ?c5 ?_)
        case c1 => exact cell_one_new _ _ _
        case c2 => simp [Value.oneCell']
        case c3 => unfold maxLen; omega
        case c4 => omega
        case c5 => simp; omega
        intro v' w3 hown3 hgr _
        have hgrow : Below w.heap.size w w3 := (hB2.alloc hsz2 _).grown hgr (by simp; omega) (fun j e => by
          rcases HO2.out.2 with ⟨rfl, _⟩ | ⟨g, cap, cur, rfl, hg, _⟩
          · simp [Value.ownBlock] at e
          · simp [Value.ownBlock] at e; omega)
        clear hgr
        obtain ⟨g', cap', rfl⟩ := ownsRow_succ hown3
        have HO3 := Lib.hid hown3
        clear hown3
        go_wp2
        go_roundw
        case rel =>
          refine ⟨k + 1, by omega, by go_num, ?_, ?_, hgrow⟩
          · rw [HNX.out]
            have := HAR.out
            unfold allRight at this ⊢
            rw [List.all_append, this]
            simp [hri]
          · have := HO3.out
            rw [HNX.out]
            simpa using this
        case measure => simp [intOf]; omega
      · have hri' : rightB fs[k].1 fs[k].2 = false := by simpa using hri
        clear hri
        go_wp2_with (go_at_call 12; refine (refRight_any _ _ _).mono ?_; rintro e w1 ⟨rfl, hb1⟩)
        go_ret
        have hn : partsZ x fs = [] := by
          unfold partsZ
          rw [if_neg]
          unfold allRight
          rw [List.all_eq_true]
          intro h
          have := h _ (List.getElem_mem hlt)
          rw [hri'] at this
          cases this
        exact ⟨⟨_, rfl, by rw [hn]; exact SliceI.nil _⟩, hB.trans (hb1.mono hsz)⟩
    · obtain rfl : k = fs.length := by omega
      rw [List.take_length] at har hown
      have hsl : SliceI wr u5 (partsZ x fs) := by
        unfold partsZ; rw [if_pos har]; exact SliceI.of_own (by simpa using hown)
      go_wp2
      go_ret
      exact ⟨⟨_, rfl, hsl⟩, hB⟩
end Go.Proofs.Ytljgocfmmdpdfaa
