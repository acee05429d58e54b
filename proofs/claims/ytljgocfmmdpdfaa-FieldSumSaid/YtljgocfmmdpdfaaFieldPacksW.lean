import Derived.Test.YtljgocfmmdpdfaaFieldAwake
namespace Go.Proofs.Ytljgocfmmdpdfaa
open Go.RowKit Go.Fld
set_option linter.unusedVariables false
attribute [local go_sem ↓] Go.wp_at_zero Go.wp_at_succ

theorem packR_eq (o : Option Int) : packR o = .tuple #[.int .i64 (o.getD 0), .bool o.isSome] := by cases o <;> rfl
theorem partsZ_len (x : Int) (fs : List (Int × Int)) : (partsZ x fs).length ≤ fs.length := by unfold partsZ; split <;> simp

set_option maxHeartbeats 2000000 in
theorem packs_walk (A : Option Addr) (cap : Nat) (fs : List (Int × Int)) (hcap : fs.length ≤ cap) (hgf : ∀ f ∈ fs, I64 f.1 ∧ I64 f.2) (w : World) (hR : RowAt encF 2 w w.heap.size A fs) (A' : Option Addr) (cap' : Nat) (vs : List Int) (hcap' : vs.length ≤ cap') (hgv : ∀ x ∈ vs, I64 x) (hV : RowAt encI 1 w w.heap.size A' vs) (x : Int) (hx : I64 x) :
    Calls Try.prog 4 #[.slice A fs.length cap, .slice A' vs.length cap', .int .i64 x] w fun e w' => e = .returned (.bool true) ∧ Below w.heap.size w w' := by
  have hB0 := Below.refl w.heap.size w
  by_cases hbig : 20 < fs.length ∨ 20 < vs.length
  · go_enter Try.func4, Try.ntmps4
    go_wp2_with fail
    refine (awake_any _).mono ?_
    rintro e w1 ⟨rfl, hb⟩
    have hB1 := hB0.trans (hb.mono hB0.size)
    clear hb
    go_wp2_with fail
    all_goals first | (exfalso; omega) | (go_ret; exact ⟨rfl, hB1⟩)
  · have hl1 : fs.length ≤ 20 := by omega
    have hl2 : vs.length ≤ 20 := by omega
    have hl3 : decide ((20 : Int) < (fs.length : Int)) = false := by simp; omega
    have hl4 : decide ((20 : Int) < (vs.length : Int)) = false := by simp; omega
    clear hbig
    go_enter Try.func4, Try.ntmps4
    go_wp2_with fail
    refine (awake_any _).mono ?_
    rintro e w1 ⟨rfl, hb⟩
    have hB1 := hB0.trans (hb.mono hB0.size)
    clear hb
    go_wp2_with fail
    refine (pack_any _ _ _ _ _ _ hcap (by omega) hcap' _ ((hR.below hB1).more hB1.size) ((hV.below hB1).more hB1.size)).mono ?_
    rintro e w2 ⟨rfl, hb⟩
    rw [packR_eq]
    have hB2 := hB1.trans (hb.mono hB1.size)
    clear hb
    go_wp2_with fail
    refine (refPack_any _ _ _ _ _ _ hcap (by omega) hcap' _ ((hR.below hB2).more hB2.size) ((hV.below hB2).more hB2.size)).mono ?_
    rintro e w3 ⟨rfl, hb⟩
    rw [packR_eq]
    have hB3 := hB2.trans (hb.mono hB2.size)
    clear hb
    go_wp2_with fail
    refine (apart_any _ _ _ hcap (by omega) _ ((hR.below hB3).more hB3.size)).mono ?_
    rintro e w4 ⟨rfl, hb⟩
    have hB4 := hB3.trans (hb.mono hB3.size)
    clear hb
    go_wp2_with fail
    refine (refApart_any _ _ _ (by omega) _ ((hR.below hB4).more hB4.size)).mono ?_
    rintro e w5 ⟨rfl, hb⟩
    have hB5 := hB4.trans (hb.mono hB4.size)
    clear hb
    go_wp2_with fail
    refine (parts_any x _ _ _ hcap (by omega) _ ((hR.below hB5).more hB5.size)).mono ?_
    rintro e w6 ⟨⟨v1, rfl, hs1⟩, hb⟩
    have hB6 := hB5.trans (hb.mono hB5.size)
    clear hb
    obtain ⟨A1, cp1, rfl, hcp1, hrow1⟩ := hs1
    go_wp2_with fail
    refine (refParts_any x _ _ _ hcap (by omega) _ ((hR.below hB6).more hB6.size)).mono ?_
    rintro e w7 ⟨⟨v2, rfl, hs2⟩, hb⟩
    have hB7 := hB6.trans (hb.mono hB6.size)
    replace hrow1 := (hrow1.below hb).more hb.size
    clear hb
    obtain ⟨A2, cp2, rfl, hcp2, hrow2⟩ := hs2
    go_wp2_with fail
    refine (ints_any _ _ _ _ _ _ (Nat.le_trans (partsZ_len x fs) (by omega)) _ hrow1 hrow2).mono ?_
    rintro e w8 ⟨rfl, hb⟩
    rw [show decide (partsZ x fs = partsZ x fs) = true by simp]
    have hB8 := hB7.trans (hb.mono hB7.size)
    clear hb
    go_wp2
    go_ret
    exact ⟨rfl, hB8⟩
end Go.Proofs.Ytljgocfmmdpdfaa
