
import Derived.Test.YthfoljgaiincdaaDoorFieldC
namespace Go.Proofs.YthfoljgaiincdaaDoor
open Go.RowKit Go.Fld
set_option linter.unusedVariables false
attribute [local go_sem ↓] Go.wp_at_zero Go.wp_at_succ

def packGo (w : Int) : List ((Int × Int) × Int) → Option Int
  | [] => some w
  | (f, v) :: r => if v < 0 ∨ 2 ^ f.2.toNat - 1 < v then none else packGo (putZ w f.1.toNat f.2.toNat v) r
def packZ (fs : List (Int × Int)) (vs : List Int) : Option Int := if vs.length = fs.length ∧ apartB fs = true then packGo 0 (fs.zip vs) else none
theorem packGo_snoc (w : Int) (l : List ((Int × Int) × Int)) (f : Int × Int) (v : Int) : packGo w (l ++ [(f, v)]) = (packGo w l).bind fun x => if v < 0 ∨ 2 ^ f.2.toNat - 1 < v then none else some (putZ x f.1.toNat f.2.toNat v) := by
  induction l generalizing w with
  | nil => simp [packGo]
  | cons p r ih =>
    obtain ⟨g, u⟩ := p
    simp only [List.cons_append, packGo]
    split
    · rfl
    · exact ih _
theorem packGo_append_none {w : Int} {l r : List ((Int × Int) × Int)} (h : packGo w l = none) : packGo w (l ++ r) = none := by
  induction l generalizing w with
  | nil => cases h
  | cons p l ih =>
    obtain ⟨g, u⟩ := p
    simp only [List.cons_append, packGo] at h ⊢
    split at h
    · rename_i hc; rw [if_pos hc]
    · rename_i hc; rw [if_neg hc]; exact ih h
/-- What a call of Pack hands back. -/
def packR (o : Option Int) : Value := match o with | some w => .tuple #[.int .i64 w, .bool true] | none => .tuple #[.int .i64 0, .bool false]

theorem below_trans' {B : Nat} {a b c : World} (k : Below B b c) (h : Below B a b) : Below B a c := h.trans k

set_option maxHeartbeats 1000000 in
theorem pack_any (A A' : Option Addr) (cap cap' : Nat) (fs : List (Int × Int)) (vs : List Int) (hcap : fs.length ≤ cap) (hmax : fs.length ≤ 1000) (hcap' : vs.length ≤ cap') (w : World)
    (hR : RowAt encF 2 w w.heap.size A fs) (hV : RowAt encI 1 w w.heap.size A' vs) :
    Calls Tryd.prog 88 #[.slice A fs.length cap, .slice A' vs.length cap'] w fun e w' => e = .returned (packR (packZ fs vs)) ∧ Below w.heap.size w w' := by
  by_cases hl : vs.length = fs.length
  case neg =>
    have hl' : (((vs.length : Nat) : Int) != ((fs.length : Nat) : Int)) = true := by simp; omega
    have hz : packZ fs vs = none := by simp [packZ, hl]
    have HZ := Lib.hid hz
    clear hz
    go_enter Tryd.func88, Tryd.ntmps88
    go_wp2
    go_ret2
    exact ⟨by rw [HZ.out]; rfl, Below.refl _ _⟩
  case pos =>
    by_cases hap : apartB fs = true
    case neg =>
      have hz : packZ fs vs = none := by simp [packZ, hap]
      have HZ := Lib.hid hz
      have hap' : apartB fs = false := by simpa using hap
      clear hz hap
      have HL := Lib.hid hl
      have hlb : (((vs.length : Nat) : Int) != ((fs.length : Nat) : Int)) = false := by simp; omega
      clear hl
      go_enter Tryd.func88, Tryd.ntmps88
      go_wp2_with (go_at_call 112; refine (apart_any _ _ _ hcap hmax _ hR).mono ?_; rintro e w1 ⟨rfl, hb1⟩)
      go_ret2
      exact ⟨by rw [HZ.out]; rfl, hb1⟩
    case pos =>
      have hri : ∀ k (h : k < fs.length), rightB fs[k].1 fs[k].2 = true := by
        intro k h
        unfold apartB at hap
        rw [Bool.and_eq_true] at hap
        have := hap.1
        unfold allRight at this
        rw [List.all_eq_true] at this
        exact this _ (List.getElem_mem h)
      have hz : packZ fs vs = packGo 0 (fs.zip vs) := by simp [packZ, hap, hl]
      have HZ := Lib.hid hz
      have HL := Lib.hid hl
      have HI := Lib.hid hri
      have hlb : (((vs.length : Nat) : Int) != ((fs.length : Nat) : Int)) = false := by simp; omega
      have hle : vs.length ≤ fs.length := by omega
      have hge : fs.length ≤ vs.length := by omega
      clear hl hz hri
      go_enter Tryd.func88, Tryd.ntmps88
      go_wp2_with (go_at_call 112; refine (apart_any _ _ _ hcap hmax _ hR).mono ?_; rintro e w1 ⟨rfl, hb1⟩)
      clear hap
      go_loopw [6, 21] (fun x i wr => ∃ (k : Nat) (z : Int), k ≤ fs.length ∧ i = .int .i64 k ∧ x = .int .i64 z ∧ I64 z ∧ packGo 0 ((fs.zip vs).take k) = some z ∧ Below w.heap.size w wr)
        (fun _ i _ => fs.length - (intOf i).toNat)
      case atStart => exact ⟨0, 0, Nat.zero_le _, rfl, rfl, by unfold I64; omega, by simp [packGo], hb1⟩
      case round =>
        obtain ⟨k, z, hk, rfl, rfl, hz, hgo, hB⟩ := hrel
        have hsz := hB.size
        have HG := Lib.hid hgo
        have HZI := Lib.hid hz
        clear hgo hz
        by_cases hlt : k < fs.length
        · have hlv : k < vs.length := by omega
          have hRr := hR.below hB
          have hVr := hV.below hB
          obtain ⟨b, off, rfl, hbl, hc0, hc1⟩ := fieldAt hRr hlt
          obtain ⟨b2, off2, rfl, hbl2, hv⟩ := intAt hVr hlv
          have hr := HI.out k hlt
          obtain ⟨p, hp⟩ : ∃ p, p = fs[k] := ⟨_, rfl⟩
          obtain ⟨u, hu⟩ : ∃ u, u = vs[k] := ⟨_, rfl⟩
          rw [← hp] at hc0 hc1 hr
          rw [← hu] at hv
          have hnext : packGo 0 ((fs.zip vs).take (k + 1)) = if u < 0 ∨ 2 ^ p.2.toNat - 1 < u then none else some (putZ z p.1.toNat p.2.toNat u) := by
            have hzl : k < (fs.zip vs).length := by simp; omega
            rw [List.take_succ_eq_append_getElem hzl]
            have : (fs.zip vs)[k] = (p, u) := by simp [hp, hu]
            rw [this, packGo_snoc, HG.out]
            rfl
          have HN := Lib.hid hnext
          clear hp hu hnext
          have hbp : b < wr.heap.size := by omega
          have hbp2 : b2 < wr.heap.size := by omega
          by_cases hneg : u < 0
          · have hg1 : decide (u < 0) = true := by simpa using hneg
            go_wp2
            go_quiet (fail)
            go_wp2
            go_ret2
            refine ⟨?_, below_drewN (hB.alloc hsz _) _⟩
            have hnone : packZ fs vs = none := by
              rw [HZ.out, ← List.take_append_drop (k + 1) (fs.zip vs)]
              exact packGo_append_none (by rw [HN.out, if_pos (.inl hneg)])
            rw [hnone]; rfl
          · have hg1 : decide (u < 0) = false := by simpa using hneg
            have hpos : 0 ≤ u := by omega
            have hr' := rightB_t.1 hr
            have hp2 := pow_bd p.2.toNat (by omega)
            have hS0 : (wr.alloc (.cells #[.int .i64 p.1, .int .i64 p.2] 104)).cell? ⟨wr.heap.size, 0, none⟩ = some (.int .i64 p.1) := by simp
            have hS1 : (wr.alloc (.cells #[.int .i64 p.1, .int .i64 p.2] 104)).cell? ⟨wr.heap.size, 1, none⟩ = some (.int .i64 p.2) := by simp
            have hS2 : (wr.alloc (.cells #[.int .i64 p.1, .int .i64 p.2] 104)).cell? ⟨b2, off2 + k, none⟩ = some (.int .i64 u) := (World.cell?_alloc_lt _ _ ⟨b2, off2 + k, none⟩ hbp2).trans hv
            have hS3 : Below w.heap.size w (wr.alloc (.cells #[.int .i64 p.1, .int .i64 p.2] 104)) := hB.alloc hsz _
            have hS4 : wr.heap.size < (wr.alloc (.cells #[.int .i64 p.1, .int .i64 p.2] 104)).heap.size := by simp
            go_wp2
            go_region_held3 (fun w' => w'.cell? ⟨wr.heap.size, 0, none⟩ = some (.int .i64 p.1) ∧ w'.cell? ⟨wr.heap.size, 1, none⟩ = some (.int .i64 p.2) ∧ w'.cell? ⟨b2, off2 + k, none⟩ = some (.int .i64 u) ∧ Below w.heap.size w w' ∧ wr.heap.size < w'.heap.size)
            (first | exact ⟨hS0, hS1, hS2, hS3.drew, hS4⟩ | (obtain ⟨g1, g2, g3, gB, gZ⟩ := ‹World.cell? _ _ = _ ∧ _ ∧ _ ∧ Below _ _ _ ∧ _ < _›; exact ⟨(hb.cell (p := ⟨wr.heap.size, 0, none⟩) gZ).trans g1, (hb.cell (p := ⟨wr.heap.size, 1, none⟩) gZ).trans g2, (hb.cell (p := ⟨b2, off2 + k, none⟩) (Nat.lt_trans hbp2 gZ)).trans g3, gB.trans (hb.mono (Nat.le_trans hsz (Nat.le_of_lt gZ))), Nat.lt_of_lt_of_le gZ hb.size⟩))
            (first | (go_at_call 111; refine (max_yes _ _ _ hr).mono ?_; rintro e w2 ⟨rfl, hb⟩))
            obtain ⟨hT0, hT1, hT2, hT3, hT4⟩ := ‹World.cell? _ _ = _ ∧ _ ∧ _ ∧ Below _ _ _ ∧ _ < _›
            clear hS0 hS1 hS2 hS3 hS4 hb
            by_cases hbig : 2 ^ p.2.toNat - 1 < u
            · go_wp2
              go_ret2
              refine ⟨?_, hT3⟩
              have hnone : packZ fs vs = none := by
                rw [HZ.out, ← List.take_append_drop (k + 1) (fs.zip vs)]
                exact packGo_append_none (by rw [HN.out, if_pos (.inr hbig)])
              rw [hnone]; rfl
            · have hsmall : u ≤ 2 ^ p.2.toNat - 1 := by omega
              go_wp2
              go_region_held3 (fun w' => w'.cell? ⟨wr.heap.size, 0, none⟩ = some (.int .i64 p.1) ∧ w'.cell? ⟨wr.heap.size, 1, none⟩ = some (.int .i64 p.2) ∧ w'.cell? ⟨b2, off2 + k, none⟩ = some (.int .i64 u) ∧ Below w.heap.size w w' ∧ wr.heap.size < w'.heap.size)
              (first | exact ⟨hT0, hT1, hT2, hT3.drew, hT4⟩ | (obtain ⟨g1, g2, g3, gB, gZ⟩ := ‹World.cell? _ _ = _ ∧ _ ∧ _ ∧ Below _ _ _ ∧ _ < _›; exact ⟨(hb.cell (p := ⟨wr.heap.size, 0, none⟩) gZ).trans g1, (hb.cell (p := ⟨wr.heap.size, 1, none⟩) gZ).trans g2, (hb.cell (p := ⟨b2, off2 + k, none⟩) (Nat.lt_trans hbp2 gZ)).trans g3, gB.trans (hb.mono (Nat.le_trans hsz (Nat.le_of_lt gZ))), Nat.lt_of_lt_of_le gZ hb.size⟩))
                (first | (go_at_call 113; refine (put_yes _ _ _ _ ?_ _ hr).mono ?_; exact HZI.out; rintro e w3 ⟨rfl, hb⟩))
              go_wp2
              obtain ⟨hU0, hU1, hU2, hU3, hU4⟩ := ‹World.cell? w3 _ = _ ∧ _ ∧ _ ∧ Below _ _ _ ∧ _ < _›
              go_roundw
              case rel => exact ⟨k + 1, _, by omega, by go_num, rfl, (putZ_I64 HZI.out _ _ (by omega) u).1, by rw [HN.out, if_neg (by omega)], hU3⟩
              case measure => simp [intOf]; omega
        · obtain rfl : k = fs.length := by omega
          go_wp2
          go_ret2
          refine ⟨?_, hB⟩
          have := HG.out
          rw [List.take_of_length_le (by simp; omega)] at this
          rw [HZ.out, this]; rfl
end Go.Proofs.YthfoljgaiincdaaDoor
