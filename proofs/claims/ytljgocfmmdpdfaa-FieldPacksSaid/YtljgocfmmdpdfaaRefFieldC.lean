import Derived.Test.YtljgocfmmdpdfaaRefFieldB
namespace Go.Proofs.Ytljgocfmmdpdfaa
open Go.RowKit Go.Fld
set_option linter.unusedVariables false
attribute [local go_sem ↓] Go.wp_at_zero Go.wp_at_succ

def Blk (w : World) (g : Nat) (t : TypeId) (cs : Array Value) : Prop := w.heap[g]? = some (.cells cs t (0, 0))
section
variable {w w' : World} {g : Nat} {t : TypeId} {cs : Array Value}
theorem Blk.lt (h : Blk w g t cs) : g < w.heap.size := (Array.getElem?_eq_some_iff.1 h).1
theorem Blk.cell (h : Blk w g t cs) (i : Nat) : w.cell? ⟨g, i, none⟩ = cs[i]? := by simp [World.cell?, show w.heap[g]? = _ from h]
theorem Blk.frozen (h : Blk w g t cs) (i : Nat) : w.frozen? ⟨g, i, none⟩ = false := by
  unfold Blk at h
  simp [World.frozen?, h]
theorem Blk.new (w : World) (t : TypeId) (cs : Array Value) : Blk (w.alloc (.cells cs t)) w.heap.size t cs := World.alloc_heap_new w _
theorem Blk.drewN (h : Blk w g t cs) (n : Nat) : Blk (w.drewN n) g t cs := h
theorem Blk.set_ (h : Blk w g t cs) (i : Nat) (u : Value) : Blk (w.setCell ⟨g, i, none⟩ u) g t (cs.setIfInBounds i u) := by
  unfold Blk at h ⊢
  simp [World.setCell, Array.getElem?_modify, h]
theorem Blk.below {B : Nat} (h : Blk w g t cs) (hb : Below B w w') (hg : g < B) : Blk w' g t cs := (hb.block g hg).trans h
end

set_option maxRecDepth 100000 in
set_option maxHeartbeats 1000000 in
theorem refApart_any (A : Option Addr) (cap : Nat) (fs : List (Int × Int)) (hlen : fs.length ≤ 1000) (w : World) (hR : RowAt encF 2 w w.heap.size A fs) :
    Calls Try.prog 23 #[.slice A fs.length cap] w fun e w' => e = .returned (.bool (apartB fs)) ∧ Below w.heap.size w w' := by
  have hmk : ∀ w, (Instr.makeSlice 46 (.int .i64 62) (.int .i64 62)).run Try.prog w = .ok (.slice (some ⟨w.heap.size, 0, none⟩) 62 62) (w.alloc (.cells (seenA fun _ => false) 4)) := fun w => by
    rw [← made_seen]; kernel_rfl
  go_enter Try.func23, Try.ntmps23
  go_wp2
  go_loopw [4] (fun i wr => ∃ k : Nat, k ≤ fs.length ∧ i = .int .i64 k ∧ disjL (fs.take k) ∧ Blk wr w.heap.size 4 (seenA fun j => (fs.take k).any fun g => cov g j) ∧ Below w.heap.size w wr)
    (fun i _ => fs.length - (intOf i).toNat)
  case atStart => exact ⟨0, Nat.zero_le _, rfl, by simp [disjL], Blk.new w 4 _, (Below.refl _ _).alloc (Nat.le_refl _) _⟩
  case round =>
    obtain ⟨k, hk, rfl, hd, hS, hB⟩ := hrel
    have hsz := hB.size
    by_cases hlt : k < fs.length
    · obtain ⟨b, off, rfl, hbl, hc0, hc1⟩ := fieldAt (hR.below hB) hlt
      have hnx : fs.take (k + 1) = fs.take k ++ [fs[k]] := List.take_succ_eq_append_getElem hlt
      obtain ⟨p, hp⟩ : ∃ p, p = fs[k] := ⟨_, rfl⟩
      rw [← hp] at hc0 hc1 hnx
      have HP := Lib.hid hp
      have HNX := Lib.hid hnx
      have HD := Lib.hid hd
      clear hp hnx hd
      have hbw : b < wr.heap.size := by omega
      by_cases hri : rightB p.1 p.2 = true
      · have hr2 := rightB_t.1 hri
        go_wp2_with (go_at_call 12; refine (refRight_any _ _ _).mono ?_; rintro e w1 ⟨rfl, hb1⟩; have hc0' := (hb1.cell (p := ⟨b, off + k * 2, none⟩) hbw).trans hc0; have hc1' := (hb1.cell (p := ⟨b, off + k * 2 + 1, none⟩) hbw).trans hc1)
        have hS1 := hS.below hb1 (by have := hS.lt; omega)
        have hB1 := hB.trans (hb1.mono hsz)
        clear hb1 hc0 hc1 hc0' hc1' hS hB
        obtain ⟨base, hbase⟩ : ∃ base : Nat → Bool, base = fun j => (fs.take k).any fun g => cov g j := ⟨_, rfl⟩
        rw [← hbase] at hS1
        have HBA := Lib.hid hbase
        have ha0 : (p.1.toNat : Int) = p.1 := by omega
        have hd0 : (p.2.toNat : Int) = p.2 := by omega
        obtain ⟨a, ha⟩ : ∃ a, a = p.1.toNat := ⟨_, rfl⟩
        obtain ⟨d, hd⟩ : ∃ d, d = p.2.toNat := ⟨_, rfl⟩
        have hae : p.1 = (a : Int) := by omega
        have hde : p.2 = (d : Int) := by omega
        have had : a + d ≤ 62 := by omega
        have HPA := Lib.hid hae
        have HPD := Lib.hid hde
        rw [hae]
        clear ha0 hd0 ha hd hr2 hbase hsz hbw
        have HR1 : RowAt encF 2 w1 w.heap.size (some ⟨b, off, none⟩) fs := hR.below hB1
        clear hae hde
        go_loopw [6] (fun i wi => ∃ j : Nat, a ≤ j ∧ j ≤ a + d ∧ i = .int .i64 j ∧ Blk wi w.heap.size 4 (seenA fun m => base m || decide (a ≤ m ∧ m < j)) ∧ (∀ m, a ≤ m → m < j → base m = false) ∧ Below w.heap.size w wi)
          (fun i _ => a + d - (intOf i).toNat)
        case atStart => exact ⟨a, by omega, by omega, rfl, by rw [show (fun m => base m || decide (a ≤ m ∧ m < a)) = base from funext fun m => by simp; omega]; exact hS1, fun m h1 h2 => by omega, hB1⟩
        case round =>
          obtain ⟨j, hj1, hj2, rfl, hS, hno, hB⟩ := hrel
          obtain ⟨b', off', he, hbl', hc0, hc1⟩ := fieldAt (hR.below hB) hlt
          obtain ⟨rfl, rfl⟩ : b = b' ∧ off = off' := by simpa using he
          rw [← HP.out, HPA.out] at hc0
          rw [← HP.out, HPD.out] at hc1
          have HNO := Lib.hid hno
          have hsw := hS.lt
          have hki : (k : Int) < (fs.length : Int) := by omega
          have hbw : b < wr.heap.size := by omega
          clear hno he
          by_cases hjl : j < a + d
          · have hjl' : (j : Int) < (a : Int) + (d : Int) := by omega
            have hcs : wr.cell? ⟨w.heap.size, j, none⟩ = some (.bool (base j)) := by
              rw [hS.cell, seenA_get _ (by omega)]
              simp
            have hj62 : (j : Int) < 62 := by omega
            have hfz := hS.frozen j
            by_cases hbj : base j = true
            · have hcs' : wr.cell? ⟨w.heap.size, j, none⟩ = some (.bool true) := by rw [hcs, hbj]
              have HBJ := Lib.hid hbj
              have HSS := Lib.hid hS
              clear hcs hbj hS
              go_wp2
              go_quiet (fail)
              go_wp2
              go_ret
              refine ⟨ret_bool ?_, below_drewN hB _⟩
              symm
              rw [Bool.eq_false_iff]
              intro h
              have h2 : disjL fs := (apartB_iff fs).1 h
              have h3 := disj_take (n := k + 1) h2
              rw [HNX.out] at h3
              refine not_disj HD.out hri (k := j) ?_ ?_ ?_ h3
              · rw [HPA.out]; omega
              · rw [HPA.out, HPD.out]; omega
              · have := HBJ.out; rw [HBA.out] at this; exact this
            · have hbj' : base j = false := by simpa using hbj
              have hcs' : wr.cell? ⟨w.heap.size, j, none⟩ = some (.bool false) := by rw [hcs, hbj']
              have HBJ := Lib.hid hbj'
              have HSS := Lib.hid hS
              clear hcs hbj hbj' hS
              go_wp2
              go_quiet (fail)
              go_wp2
              go_roundw
              case rel =>
                refine ⟨j + 1, by omega, by omega, by go_num, ?_, ?_, ?_⟩
                · have := (HSS.out.drewN nq).set_ j (.bool true)
                  rw [seenA_set] at this
                  rw [show (fun m => base m || decide (a ≤ m ∧ m < j + 1)) = (fun m => (base m || decide (a ≤ m ∧ m < j)) || m == j) from funext fun m => ?_]
                  · exact this
                  · cases base m <;> simp
                    rw [Bool.eq_iff_iff]
                    simp
                    omega
                · intro m h1 h2
                  rcases Nat.lt_or_ge m j with h3 | h3
                  · exact HNO.out m h1 h3
                  · rw [show m = j by omega]; exact HBJ.out
                · exact (below_drewN hB _).setCell (p := ⟨w.heap.size, j, none⟩) (Nat.le_refl _) _
              case measure => simp [intOf]; omega
          · obtain rfl : j = a + d := by omega
            have hjl' : ¬ ((a : Int) + (d : Int) < (a : Int) + (d : Int)) := by omega
            have HSS := Lib.hid hS
            clear hS
            go_wp2
            go_quiet (fail)
            go_wp2
            go_roundw
            case rel =>
              refine ⟨k + 1, by omega, by go_num, ?_, ?_, below_drewN hB _⟩
              · rw [HNX.out]
                refine disj_of HD.out hri fun m h1 h2 => ?_
                have := HNO.out m (by rw [HPA.out] at h1; omega) (by rw [HPA.out, HPD.out] at h2; omega)
                rw [HBA.out] at this
                exact this
              · have := HSS.out.drewN nq
                rw [show (fun m => base m || decide (a ≤ m ∧ m < a + d)) = (fun m => (fs.take (k + 1)).any fun g => cov g m) from funext fun m => ?_] at this
                · exact this
                · rw [HNX.out, List.any_append, HBA.out]
                  simp [cov, HPA.out, HPD.out]
            case measure => simp [intOf]; omega
      · have hri' : rightB p.1 p.2 = false := by simpa using hri
        clear hri
        go_wp2_with (go_at_call 12; refine (refRight_any _ _ _).mono ?_; rintro e w1 ⟨rfl, hb1⟩)
        go_ret
        refine ⟨ret_bool ?_, hB.trans (hb1.mono hsz)⟩
        symm
        rw [Bool.eq_false_iff]
        intro h
        have := ((apartB_iff fs).1 h).1 p (by rw [HP.out]; exact List.getElem_mem hlt)
        rw [hri'] at this
        cases this
    · obtain rfl : k = fs.length := by omega
      go_wp2
      go_ret
      refine ⟨ret_bool ?_, hB⟩
      rw [List.take_length] at hd
      exact ((apartB_iff fs).2 hd).symm
end Go.Proofs.Ytljgocfmmdpdfaa
