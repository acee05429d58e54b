
import Derived.Test.YthfoljgaiincdaaDoorProg
import Derived.Test.YthfoljgaiincdaaDoorBits
import Derived.WalkKit
import Derived.Below
import Derived.Outline
import Derived.KernelRfl
import Derived.WalkLawsBesides
import Derived.WalkSpells
import Derived.Deep.RegionHeld3
import Derived.Deep.QuietTactic
import Derived.BigQuiet
import Derived.Deep.DrawnRows
import Derived.Lib.Hide
import Derived.RangeFuncNested
import Derived.RangeFuncBound
import Derived.RangeFuncCalls
import Derived.RangeFuncLeaves
import Derived.Shelf.Abstract
import Derived.Shelf.RegionOpen
import Derived.OwnWalkIn
import Derived.TacticsInMore
import Derived.LoopNIn
import Derived.LoopIn
namespace Go.Proofs.YthfoljgaiincdaaDoor
open Go.RowKit Go.Fld
attribute [local go_sem ↓] Go.wp_at_zero Go.wp_at_succ

def rightB (a d : Int) : Bool := decide (0 ≤ a ∧ a ≤ 62 ∧ 1 ≤ d ∧ d ≤ 62 - a)
theorem rightB_t {a d : Int} : rightB a d = true ↔ (0 ≤ a ∧ a ≤ 62 ∧ 1 ≤ d ∧ d ≤ 62 - a) := by simp [rightB]
theorem rightB_f {a d : Int} : rightB a d = false ↔ ¬ (0 ≤ a ∧ a ≤ 62 ∧ 1 ≤ d ∧ d ≤ 62 - a) := by simp only [rightB, decide_eq_false_iff_not]
theorem ret_bool {a b : Bool} (h : a = b) : Ending.returned (.bool a) = Ending.returned (.bool b) := by rw [h]
theorem ret_int {k : IntKind} {a b : Int} (h : a = b) : Ending.returned (.int k a) = Ending.returned (.int k b) := by rw [h]
theorem bcell {W w1 : World} (hb : Below W.heap.size W w1) : (∀ b o, b < W.heap.size → w1.cell? ⟨b, o, none⟩ = W.cell? ⟨b, o, none⟩) ∧ (∀ b o, b < W.heap.size → w1.frozen? ⟨b, o, none⟩ = W.frozen? ⟨b, o, none⟩) :=
  ⟨fun b o h => hb.cell (p := ⟨b, o, none⟩) h, fun b o h => hb.frozen (p := ⟨b, o, none⟩) h⟩

theorem right_any (a d : Int) (w : World) :
    Calls Tryd.prog 85 #[.agg #[.int .i64 a, .int .i64 d]] w fun e w' => e = .returned (.bool (rightB a d)) ∧ Below w.heap.size w w' := by
  go_enter Tryd.func85, Tryd.ntmps85
  go_wp2
  all_goals go_ret
  all_goals refine ⟨ret_bool ?_, (Below.refl _ _).alloc (Nat.le_refl _) _⟩
  all_goals first | (rw [rightB, decide_eq_decide]; omega) | (symm; rw [rightB_f]; omega)

def maxZ (a d : Int) : Int := if rightB a d then 2 ^ d.toNat - 1 else 0
theorem pow_bd (n : Nat) (h : n ≤ 62) : 1 ≤ (2 : Int) ^ n ∧ (2 : Int) ^ n ≤ 4611686018427387904 := by
  have h1 := two_pow_pos' n
  have h2 : (2 : Int) ^ n ≤ 2 ^ 62 := pow_le h
  exact ⟨by omega, h2⟩
theorem max_yes (a d : Int) (w : World) (hr : rightB a d = true) :
    Calls Tryd.prog 111 #[.agg #[.int .i64 a, .int .i64 d]] w fun e w' => e = .returned (.int .i64 (2 ^ d.toNat - 1)) ∧ Below w.heap.size w w' := by
  have h := rightB_t.1 hr
  obtain ⟨h0, h1, h2, h3⟩ := h
  obtain ⟨hp1, hp2⟩ := pow_bd d.toNat (by omega)
  go_enter Tryd.func111, Tryd.ntmps111
  go_wp2_with (go_at_call 85; refine (right_any _ _ _).mono ?_; rintro e w' ⟨rfl, hb⟩; obtain ⟨hc, hf⟩ := bcell hb)
  go_ret
  exact ⟨ret_int rfl, ((Below.refl _ _).alloc (Nat.le_refl _) _).trans (hb.mono (by simp))⟩
theorem max_no (a d : Int) (w : World) (hr : rightB a d = false) :
    Calls Tryd.prog 111 #[.agg #[.int .i64 a, .int .i64 d]] w fun e w' => e = .returned (.int .i64 0) ∧ Below w.heap.size w w' := by
  go_enter Tryd.func111, Tryd.ntmps111
  go_wp2_with (go_at_call 85; refine (right_any _ _ _).mono ?_; rintro e w' ⟨rfl, hb⟩; obtain ⟨hc, hf⟩ := bcell hb)
  go_ret
  exact ⟨ret_int rfl, ((Below.refl _ _).alloc (Nat.le_refl _) _).trans (hb.mono (by simp))⟩

theorem mask_yes (a d : Int) (w : World) (hr : rightB a d = true) :
    Calls Tryd.prog 124 #[.agg #[.int .i64 a, .int .i64 d]] w fun e w' => e = .returned (.int .i64 ((2 ^ d.toNat - 1) * 2 ^ a.toNat)) ∧ Below w.heap.size w w' := by
  have h := rightB_t.1 hr
  obtain ⟨h0, h1, h2, h3⟩ := h
  obtain ⟨hp1, hp2⟩ := pow_bd d.toNat (by omega)
  have hm := mask_bd a.toNat d.toNat (by omega)
  go_enter Tryd.func124, Tryd.ntmps124
  go_wp2
  go_region_held3 (fun w' => w'.cell? ⟨w.heap.size, 0, none⟩ = some (.int .i64 a) ∧ w'.cell? ⟨w.heap.size, 1, none⟩ = some (.int .i64 d) ∧ Below w.heap.size w w' ∧ w.heap.size < w'.heap.size)
    (refine ⟨?_, ?_, ?_, ?_⟩ <;> first | (simp [*]; done) | exact ((Below.refl _ _).alloc (Nat.le_refl _) _).drew | exact (‹_ ∧ _ ∧ Below _ _ _ ∧ _›.2.2.1.trans (hb.mono (by first | omega | (simp; done) | (simp; omega)))) | (have := hb.size; first | omega | (simp at this; omega)))
    (first | (go_at_call 111; refine (max_yes _ _ _ hr).mono ?_; rintro e w1 ⟨rfl, hb⟩; obtain ⟨hc, hf⟩ := bcell hb))
  go_wp2
  go_ret
  exact ⟨ret_int (IntWalk.i64_in _ (by omega)), ‹_ ∧ _ ∧ Below _ _ _ ∧ _›.2.2.1⟩

theorem get_yes (x a d : Int) (w : World) (hr : rightB a d = true) :
    Calls Tryd.prog 86 #[.int .i64 x, .agg #[.int .i64 a, .int .i64 d]] w fun e w' => e = .returned (.int .i64 (getZ x a.toNat d.toNat)) ∧ Below w.heap.size w w' := by
  have h := rightB_t.1 hr
  obtain ⟨h0, h1, h2, h3⟩ := h
  obtain ⟨hp1, hp2⟩ := pow_bd d.toNat (by omega)
  go_enter Tryd.func86, Tryd.ntmps86
  go_wp2_with (go_at_call 85; refine (right_any _ _ _).mono ?_; rintro e w1 ⟨rfl, hb1⟩; obtain ⟨hc, hf⟩ := bcell hb1)
  have hB : Below w.heap.size w w1 := ((Below.refl _ _).alloc (Nat.le_refl _) _).trans (hb1.mono (by simp))
  have hZ : w.heap.size < w1.heap.size := by have := hb1.size; simp at this; omega
  have hC0 : w1.cell? ⟨w.heap.size, 0, none⟩ = some (.int .i64 a) := (hb1.cell (p := ⟨w.heap.size, 0, none⟩) (by simp)).trans (by simp)
  have hC1 : w1.cell? ⟨w.heap.size, 1, none⟩ = some (.int .i64 d) := (hb1.cell (p := ⟨w.heap.size, 1, none⟩) (by simp)).trans (by simp)
  clear hc hf
  go_region_held3 (fun w' => w'.cell? ⟨w.heap.size, 0, none⟩ = some (.int .i64 a) ∧ w'.cell? ⟨w.heap.size, 1, none⟩ = some (.int .i64 d) ∧ Below w.heap.size w w' ∧ w.heap.size < w'.heap.size)
    (first | exact ⟨hC0, hC1, hB.drew, hZ⟩ | (obtain ⟨g1, g2, gB, gZ⟩ := ‹World.cell? _ _ = _ ∧ _ ∧ Below _ _ _ ∧ _ < _›; exact ⟨(hb.cell (p := ⟨w.heap.size, 0, none⟩) gZ).trans g1, (hb.cell (p := ⟨w.heap.size, 1, none⟩) gZ).trans g2, gB.trans (hb.mono (Nat.le_of_lt gZ)), Nat.lt_of_lt_of_le gZ hb.size⟩))
    (first | (go_at_call 111; refine (max_yes _ _ _ hr).mono ?_; rintro e w2 ⟨rfl, hb⟩))
  go_wp2
  go_ret
  exact ⟨ret_int (by rw [and_low _ _ (by omega)]; rfl), ‹_ ∧ _ ∧ Below _ _ _ ∧ _›.2.2.1⟩

theorem put_yes (x a d v : Int) (hx : I64 x) (w : World) (hr : rightB a d = true) :
    Calls Tryd.prog 113 #[.int .i64 x, .agg #[.int .i64 a, .int .i64 d], .int .i64 v] w fun e w' => e = .returned (.int .i64 (putZ x a.toNat d.toNat v)) ∧ Below w.heap.size w w' := by
  have h := rightB_t.1 hr
  obtain ⟨h0, h1, h2, h3⟩ := h
  obtain ⟨hp1, hp2⟩ := pow_bd d.toNat (by omega)
  have HX := Lib.hid hx; clear hx
  go_enter Tryd.func113, Tryd.ntmps113
  go_wp2_with (go_at_call 85; refine (right_any _ _ _).mono ?_; rintro e w1 ⟨rfl, hb1⟩; obtain ⟨hc, hf⟩ := bcell hb1)
  have hB : Below w.heap.size w w1 := ((Below.refl _ _).alloc (Nat.le_refl _) _).trans (hb1.mono (by simp))
  have hZ : w.heap.size < w1.heap.size := by have := hb1.size; simp at this; omega
  have hC0 : w1.cell? ⟨w.heap.size, 0, none⟩ = some (.int .i64 a) := (hb1.cell (p := ⟨w.heap.size, 0, none⟩) (by simp)).trans (by simp)
  have hC1 : w1.cell? ⟨w.heap.size, 1, none⟩ = some (.int .i64 d) := (hb1.cell (p := ⟨w.heap.size, 1, none⟩) (by simp)).trans (by simp)
  clear hc hf
  go_region_held3 (fun w' => w'.cell? ⟨w.heap.size, 0, none⟩ = some (.int .i64 a) ∧ w'.cell? ⟨w.heap.size, 1, none⟩ = some (.int .i64 d) ∧ Below w.heap.size w w' ∧ w.heap.size < w'.heap.size)
    (first | exact ⟨hC0, hC1, hB.drew, hZ⟩ | (obtain ⟨g1, g2, gB, gZ⟩ := ‹World.cell? _ _ = _ ∧ _ ∧ Below _ _ _ ∧ _ < _›; exact ⟨(hb.cell (p := ⟨w.heap.size, 0, none⟩) gZ).trans g1, (hb.cell (p := ⟨w.heap.size, 1, none⟩) gZ).trans g2, gB.trans (hb.mono (Nat.le_of_lt gZ)), Nat.lt_of_lt_of_le gZ hb.size⟩))
    (first | (go_at_call 111; refine (max_yes _ _ _ hr).mono ?_; rintro e w2 ⟨rfl, hb⟩) | (go_at_call 124; refine (mask_yes _ _ _ hr).mono ?_; rintro e w2 ⟨rfl, hb⟩))
  go_wp2
  go_ret
  have hv := emod_bd v d.toNat
  have hfb := field_bd (a := a.toNat) (d := d.toNat) (by omega) hv.1 hv.2
  exact ⟨ret_int (by rw [and_low v _ (by omega), IntWalk.i64_in _ (by omega), put_bits x HX.out _ _ (by omega) v]), ‹_ ∧ _ ∧ Below _ _ _ ∧ _›.2.2.1⟩

/-! ### A slice that reads as a list -/
/-- The slice at A holds the elements xs, each size cells; it lies below block B. -/
def RowAt {α : Type} (enc : α → List Value) (size : Nat) (w : World) (B : Nat) (A : Option Addr) (xs : List α) : Prop :=
  xs ≠ [] → ∃ b off, A = some ⟨b, off, none⟩ ∧ b < B ∧ ∀ k x, xs[k]? = some x → ∀ j u, (enc x)[j]? = some u → w.cell? ⟨b, off + k * size + j, none⟩ = some u
section
variable {α : Type} {enc : α → List Value} {size : Nat} {w w' : World} {B B' : Nat} {A : Option Addr} {xs : List α}
theorem RowAt.keep (h : RowAt enc size w B A xs) (hk : ∀ p : Addr, p.block < B → w'.cell? p = w.cell? p) : RowAt enc size w' B A xs := fun hn => by
  obtain ⟨b, off, e, hb, hc⟩ := h hn
  exact ⟨b, off, e, hb, fun k x hx j u hu => (hk ⟨b, off + k * size + j, none⟩ hb).trans (hc k x hx j u hu)⟩
theorem RowAt.below (h : RowAt enc size w B A xs) (hb : Below B w w') : RowAt enc size w' B A xs := h.keep fun _ hp => hb.cell hp
theorem RowAt.more (h : RowAt enc size w B A xs) (hB : B ≤ B') : RowAt enc size w B' A xs := fun hn => by
  obtain ⟨b, off, e, hb, hc⟩ := h hn
  exact ⟨b, off, e, by omega, hc⟩
theorem RowAt.at_ (h : RowAt enc size w B A xs) {k : Nat} (hk : k < xs.length) :
    ∃ b off, A = some ⟨b, off, none⟩ ∧ b < B ∧ ∀ j u, (enc xs[k])[j]? = some u → w.cell? ⟨b, off + k * size + j, none⟩ = some u := by
  obtain ⟨b, off, e, hb, hc⟩ := h (by rintro rfl; simp at hk)
  exact ⟨b, off, e, hb, hc k _ (List.getElem?_eq_getElem hk)⟩
end
def encF (f : Int × Int) : List Value := [.int .i64 f.1, .int .i64 f.2]
def encI (n : Int) : List Value := [.int .i64 n]
theorem fieldAt {w : World} {B : Nat} {A : Option Addr} {l : List (Int × Int)} (h : RowAt encF 2 w B A l) {k : Nat} (hk : k < l.length) :
    ∃ b off, A = some ⟨b, off, none⟩ ∧ b < B ∧ w.cell? ⟨b, off + k * 2, none⟩ = some (.int .i64 l[k].1) ∧ w.cell? ⟨b, off + k * 2 + 1, none⟩ = some (.int .i64 l[k].2) := by
  obtain ⟨b, off, e, hb, hc⟩ := h.at_ hk
  exact ⟨b, off, e, hb, hc 0 _ rfl, hc 1 _ rfl⟩
theorem intAt {w : World} {B : Nat} {A : Option Addr} {l : List Int} (h : RowAt encI 1 w B A l) {k : Nat} (hk : k < l.length) :
    ∃ b off, A = some ⟨b, off, none⟩ ∧ b < B ∧ w.cell? ⟨b, off + k, none⟩ = some (.int .i64 l[k]) := by
  obtain ⟨b, off, e, hb, hc⟩ := h.at_ hk
  exact ⟨b, off, e, hb, by have := hc 0 _ rfl; simpa using this⟩

theorem pairs_in (F : Fence) (n : Nat) (h29 : F.fn 123) (hro : F.round = none) (A : Option Addr) (len cap : Nat) (w : World) :
    CallsIn F n Tryd.prog 123 #[.slice A len cap] w fun e w' => e = .returned (.func (.func 126) #[] #[.pointer (some ⟨w.heap.size, 0, none⟩)]) ∧ w' = w.alloc (.cells #[.slice A len cap] 107) := by
  refine callsIn_of_wp Tryd.func123 rfl h29 ?_ hro
  simp only [Tryd.ntmps123, List.size_toArray, List.length_cons, List.length_nil, Nat.reduceAdd, Nat.reduceSub, Array.replicate_succ, Array.replicate_zero, List.push_toArray, List.append_toArray, List.nil_append, List.cons_append]
  gi_wp2
  go_ret
  exact ⟨rfl, rfl⟩
end Go.Proofs.YthfoljgaiincdaaDoor
