/- A symbolic run of Go code, over blocks that are known: the monad of ways, what is known of a block, and how it stands in a world. No condition of its own. -/
import Derived.Below
import Derived.Calls
import Derived.Orders
import Derived.KernelRfl
import Derived.Laws.Cells
import Derived.Laws.IdiomCopy
namespace Go.Sx
open Go Go.RowKit
set_option linter.unusedVariables false

/-! ### Ways -/
/-- A run that parts at Bools, and may end badly: in the form in which the kernel reduces it. -/
structure M (α : Type) : Type 1 where
  run : (R : Type) → R → (α → R) → R
  ok : ∀ (R : Type) (b : R) (K : α → R), run R b K = (run (Option α) none some).elim b K
namespace M
variable {α β : Type}
def get (m : M α) : Option α := m.run (Option α) none some
def ret (a : α) : M α := ⟨fun _ _ K => K a, fun _ _ _ => rfl⟩
def bad : M α := ⟨fun _ b _ => b, fun _ _ _ => rfl⟩
def bind (m : M α) (f : α → M β) : M β :=
  ⟨fun R b K => m.run R b fun a => (f a).run R b K, fun R b K => by
    rw [m.ok R, m.ok (Option β)]
    cases m.run (Option α) none some with
    | none => rfl
    | some a => exact (f a).ok R b K⟩
def br (c : Bool) (x y : M α) : M α :=
  ⟨fun R b K => cond c (x.run R b K) (y.run R b K), fun R b K => by
    cases c
    · exact y.ok R b K
    · exact x.ok R b K⟩
theorem run_eq (m : M α) (R : Type) (b : R) (K : α → R) : m.run R b K = m.get.elim b K := m.ok R b K
@[simp] theorem get_ret (a : α) : (ret a).get = some a := rfl
@[simp] theorem get_bad : (bad : M α).get = none := rfl
theorem get_bind (m : M α) (f : α → M β) : (m.bind f).get = m.get.bind fun a => (f a).get := by
  show m.run (Option β) none (fun a => (f a).get) = _
  rw [run_eq]; cases m.get <;> rfl
theorem get_bind_some {m : M α} {f : α → M β} {b : β} (h : (m.bind f).get = some b) : ∃ a, m.get = some a ∧ (f a).get = some b := by
  rw [get_bind] at h
  cases hm : m.get with
  | none => rw [hm] at h; cases h
  | some a => rw [hm] at h; exact ⟨a, rfl, h⟩
@[simp] theorem get_br (c : Bool) (x y : M α) : (br c x y).get = if c = true then x.get else y.get := by cases c <;> rfl
theorem get_br_some {c : Bool} {x y : M α} {a : α} (h : (br c x y).get = some a) : (c = true ∧ x.get = some a) ∨ (c = false ∧ y.get = some a) := by
  cases c
  · exact .inr ⟨rfl, h⟩
  · exact .inl ⟨rfl, h⟩
def ofOption (o : Option α) : M α := match o with | some a => ret a | none => bad
@[simp] theorem get_ofOption (o : Option α) : (ofOption o).get = o := by cases o <;> rfl
end M

/-! ### Blocks -/
/-- What is known of a block: its cells one by one; a row of int64s; a row of rows; nothing. own: it was made by the run; wr: it may be written. -/
inductive Blk where
  | cells (own wr : Bool) (c : List Value)
  | ints (own wr : Bool) (l : List Int)
  | rows (own wr : Bool) (wd n : Nat) (get : Nat → Nat → Value)
  | dead
def Blk.prot : Blk → Blk
  | .cells o _ c => .cells o false c
  | .ints o _ l => .ints o false l
  | .rows o _ wd n g => .rows o false wd n g
  | .dead => .dead
def Blk.owned : Blk → Bool
  | .cells o _ _ | .ints o _ _ | .rows o _ _ _ _ => o
  | .dead => false
def Blk.wrt : Blk → Bool
  | .cells _ w _ | .ints _ w _ | .rows _ w _ _ _ => w
  | .dead => false
def Blk.alive : Blk → Bool
  | .dead => false
  | _ => true
/-- Where a block lies: its number, the place of its first cell, how many cells a row has, how many rows there is room for. -/
structure Pl where
  b : Nat
  o : Nat
  wd : Nat
  cap : Nat

/-- v' is v, with blocks renamed; the empty tuple stands for anything. -/
inductive VR (σ : Nat → Option Pl) : Value → Value → Prop
  | any (v : Value) : VR σ undef v
  | skip : VR σ (.chan (some 0)) undef
  | bool (b : Bool) : VR σ (.bool b) (.bool b)
  | int (k : IntKind) (n : Int) : VR σ (.int k n) (.int k n)
  | string (s : ByteArray) : VR σ (.string s) (.string s)
  | ptrNil : VR σ (.pointer none) (.pointer none)
  | ptr {k off : Nat} {p : Pl} (h : σ k = some p) : VR σ (.pointer (some ⟨k, off, none⟩)) (.pointer (some ⟨p.b, p.o + off, none⟩))
  | ptrRow {k i j : Nat} {p : Pl} (h : σ k = some p) : VR σ (.pointer (some ⟨k, i, some j⟩)) (.pointer (some ⟨p.b, p.o + (i * p.wd + j), none⟩))
  | sliceNil (l c : Nat) : VR σ (.slice none l c) (.slice none l c)
  | slice {k off l c : Nat} {p : Pl} (h : σ k = some p) : VR σ (.slice (some ⟨k, off, none⟩) l c) (.slice (some ⟨p.b, p.o + off, none⟩) l c)
  | sliceRow {k i l c : Nat} {p : Pl} (h : σ k = some p) : VR σ (.slice (some ⟨k, i, some 0⟩) l c) (.slice (some ⟨p.b, p.o + i * p.wd, none⟩) l c)
  | vec {k l : Nat} {p : Pl} (h : σ k = some p) (hl : l ≤ p.cap) : VR σ (.slice (some ⟨k, 0, some 1⟩) l 0) (.slice (some ⟨p.b, p.o, none⟩) l p.cap)
  | empty (a : Addr) : VR σ (.slice (some ⟨0, 0, some 3⟩) 0 0) (.slice (some a) 0 0)
  | mapNil : VR σ (.map none) (.map none)
  | nilFunc : VR σ .nilFunc .nilFunc
  | nilIface : VR σ .nilIface .nilIface
  | func (f : FuncId) {a a' c c' : Array Value} (ha : a.size = a'.size) (hc : c.size = c'.size)
      (h1 : ∀ (i : Nat) (x y : Value), a[i]? = some x → a'[i]? = some y → VR σ x y) (h2 : ∀ (i : Nat) (x y : Value), c[i]? = some x → c'[i]? = some y → VR σ x y) : VR σ (.func (.func f) a c) (.func (.func f) a' c')
  | agg {a a' : Array Value} (ha : a.size = a'.size) (h : ∀ (i : Nat) (x y : Value), a[i]? = some x → a'[i]? = some y → VR σ x y) : VR σ (.agg a) (.agg a')
  | tuple {a a' : Array Value} (ha : a.size = a'.size) (h : ∀ (i : Nat) (x y : Value), a[i]? = some x → a'[i]? = some y → VR σ x y) : VR σ (.tuple a) (.tuple a')

def Le (σ σ' : Nat → Option Pl) : Prop := ∀ k p, σ k = some p → σ' k = some p
theorem Le.refl (σ : Nat → Option Pl) : Le σ σ := fun _ _ h => h
theorem Le.trans {a b c : Nat → Option Pl} (h : Le a b) (h' : Le b c) : Le a c := fun k p hk => h' k p (h k p hk)
theorem VR.mono {σ σ' : Nat → Option Pl} (hs : Le σ σ') {v v' : Value} (h : VR σ v v') : VR σ' v v' := by
  induction h with
  | any v => exact .any v
  | skip => exact .skip
  | bool b => exact .bool b
  | int k n => exact .int k n
  | string s => exact .string s
  | ptrNil => exact .ptrNil
  | ptr h => exact .ptr (hs _ _ h)
  | ptrRow h => exact .ptrRow (hs _ _ h)
  | sliceNil l c => exact .sliceNil l c
  | slice h => exact .slice (hs _ _ h)
  | sliceRow h => exact .sliceRow (hs _ _ h)
  | vec h hl => exact .vec (hs _ _ h) hl
  | empty a => exact .empty a
  | mapNil => exact .mapNil
  | nilFunc => exact .nilFunc
  | nilIface => exact .nilIface
  | func f ha hc _ _ i1 i2 => exact .func f ha hc i1 i2
  | agg ha _ i1 => exact .agg ha i1
  | tuple ha _ i1 => exact .tuple ha i1

/-- Values without addresses: they are alike under every renaming. -/
def plain1 : Value → Bool
  | .bool _ | .int _ _ | .string _ | .pointer none | .slice none _ _ | .map none | .nilFunc | .nilIface => true
  | _ => false
def plain : Value → Bool
  | .agg c => c.all plain1
  | .tuple c => c.all fun | .agg d => d.all plain1 | x => plain1 x
  | v => plain1 v
theorem VR.plain1 (σ : Nat → Option Pl) {v : Value} (h : plain1 v = true) : VR σ v v := by
  unfold Sx.plain1 at h
  split at h
  · exact .bool _
  · exact .int _ _
  · exact .string _
  · exact .ptrNil
  · exact .sliceNil _ _
  · exact .mapNil
  · exact .nilFunc
  · exact .nilIface
  · cases h
theorem VR.plain (σ : Nat → Option Pl) {v : Value} (h : plain v = true) : VR σ v v := by
  have arr : ∀ c : Array Value, c.all Sx.plain1 = true → ∀ (i : Nat) (x y : Value), c[i]? = some x → c[i]? = some y → VR σ x y := by
    intro c hc i x y hx hy
    obtain rfl : x = y := Option.some.inj (hx.symm.trans hy)
    refine VR.plain1 σ ?_
    rw [Array.all_eq_true] at hc
    obtain ⟨hi, rfl⟩ := Array.getElem?_eq_some_iff.1 hx
    exact hc i hi
  unfold Sx.plain at h
  split at h
  · exact .agg rfl (arr _ h)
  · rename_i c
    refine .tuple rfl fun i x y hx hy => ?_
    obtain rfl : x = y := Option.some.inj (hx.symm.trans hy)
    rw [Array.all_eq_true] at h
    obtain ⟨hi, rfl⟩ := Array.getElem?_eq_some_iff.1 hx
    have := h i hi
    split at this
    · rename_i d hd
      rw [hd]
      exact .agg rfl (arr _ this)
    · exact VR.plain1 σ this
  · exact VR.plain1 σ h

/-- A value without addresses is the same under every renaming. -/
theorem VR.plain1_eq {σ : Nat → Option Pl} {v v' : Value} (h : VR σ v v') (hp : Sx.plain1 v = true) : v' = v := by
  cases h <;> first | rfl | (simp [Sx.plain1, undef] at hp)

def VRA (σ : Nat → Option Pl) (a a' : Array Value) : Prop := a.size = a'.size ∧ ∀ (i : Nat) (x y : Value), a[i]? = some x → a'[i]? = some y → VR σ x y
theorem VRA.mono {σ σ' : Nat → Option Pl} (hs : Le σ σ') {a a' : Array Value} (h : VRA σ a a') : VRA σ' a a' := ⟨h.1, fun i x y hx hy => (h.2 i x y hx hy).mono hs⟩
theorem VRA.nil (σ : Nat → Option Pl) : VRA σ #[] #[] := ⟨rfl, fun i x y h => by simp at h⟩
theorem VRA.append {σ : Nat → Option Pl} {a a' c c' : Array Value} (h : VRA σ a a') (k : VRA σ c c') : VRA σ (a ++ c) (a' ++ c') := by
  refine ⟨by simp [h.1, k.1], fun i x y hx hy => ?_⟩
  rw [Array.getElem?_append] at hx hy
  rw [← h.1] at hy
  split at hx
  · rename_i hi
    rw [if_pos hi] at hy
    exact h.2 _ _ _ hx hy
  · rename_i hi
    rw [if_neg hi] at hy
    exact k.2 _ _ _ hx hy
theorem VRA.map {σ : Nat → Option Pl} {α : Type} (f g : α → Value) (a : Array α) (h : ∀ x ∈ a, VR σ (f x) (g x)) : VRA σ (a.map f) (a.map g) := by
  refine ⟨by simp, fun i x y hx hy => ?_⟩
  rw [Array.getElem?_map] at hx hy
  cases ha : a[i]? with
  | none => rw [ha] at hx; cases hx
  | some u => rw [ha] at hx hy; cases hx; cases hy; exact h u (Array.mem_of_getElem? ha)
theorem VRA.get {σ : Nat → Option Pl} {a a' : Array Value} (h : VRA σ a a') (i : Nat) {x : Value} (hx : a[i]? = some x) : ∃ y, a'[i]? = some y ∧ VR σ x y := by
  have hi : i < a'.size := by rw [← h.1]; exact (Array.getElem?_eq_some_iff.1 hx).1
  exact ⟨a'[i], Array.getElem?_eq_getElem hi, h.2 i x _ hx (Array.getElem?_eq_getElem hi)⟩
end Go.Sx
