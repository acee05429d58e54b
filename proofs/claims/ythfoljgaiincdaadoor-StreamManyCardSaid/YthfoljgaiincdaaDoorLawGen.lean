
/- What all laws over memory share: words that are made, writes, calls whose arguments came in. No condition of its own. -/
import Derived.Test.YthfoljgaiincdaaDoorRefSlots
import Derived.Test.YthfoljgaiincdaaDoorOpenA
namespace Go.Proofs.YthfoljgaiincdaaDoor
open Go.RowKit Go.Fld Go.Sx
set_option linter.unusedVariables false
set_option linter.unusedSimpArgs false
def bt {α : Type} (c : Bool) (K : Option α) : Option α := bif c then K else none
theorem bt_of {α : Type} {c : Bool} {K : Option α} (h : c = true) : bt c K = K := by unfold bt; rw [h]; rfl
/-- All words are numbers of 64 bits. -/
def AllI (l : List Int) : Prop := ∀ x ∈ l, I64i x
theorem AllI.ld {l : List Int} (h : AllI l) (n : Nat) (i : Int) : I64i (ldS n l i) := by
  unfold ldS
  split
  · rw [List.getD_eq_getElem?_getD]
    cases hq : l[i.toNat]? with
    | none => exact ⟨by decide, by decide⟩
    | some x => exact h x (List.mem_of_getElem? hq)
  · exact ⟨by decide, by decide⟩
theorem AllI.set {l : List Int} (h : AllI l) (k : Nat) {v : Int} (hv : I64i v) : AllI (l.set k v) := fun x hx => by
  rcases List.mem_or_eq_of_mem_set hx with hx | rfl
  · exact h x hx
  · exact hv
theorem AllI.st {l : List Int} (h : AllI l) (n : Nat) (i : Int) {v : Int} (hv : I64i v) : AllI (stS n l i v) := by
  unfold stS
  split
  · exact h.set _ hv
  · exact h
/-- The words that others store may be stored. -/
def WrI (gi : Nat → Nat → Int) (k : Nat) : Prop := ∀ i, i < k → (0 ≤ gi i 1 ∧ gi i 1 ≤ 255) ∧ I64i (gi i 2)
theorem AllI.wrs {l : List Int} (h : AllI l) (N : Nat) (gi : Nat → Nat → Int) (step : Int) : ∀ k, WrI gi k → AllI (wrsL N gi step k l)
  | 0, _ => h
  | k + 1, hw => by
    have ih := AllI.wrs h N gi step k fun i hi => hw i (by omega)
    unfold wrsL
    split
    · exact ih.st _ _ (hw k (by omega)).2
    · exact ih
theorem wrOK_of {N : Nat} {gi : Nat → Nat → Int} {k : Nat} (hN : 0 < N) (h : WrI gi k) : wrOK N gi k = true := by
  unfold wrOK
  rw [List.all_eq_true]
  intro i hi
  have h1 := (h i (List.mem_range.1 hi)).1
  unfold wrA inR
  rw [w64_in ⟨by omega, by omega⟩, Int.tmod_eq_emod_of_nonneg h1.1]
  have := Int.emod_nonneg (gi i 1) (show (N : Int) ≠ 0 by omega)
  have := Int.emod_lt_of_pos (gi i 1) (show (0 : Int) < N by omega)
  simp; omega
theorem encS_I {s : Slt} : I64i ((encS s).getD 0) := by
  cases h : encS s with
  | none => exact ⟨by decide, by decide⟩
  | some x =>
    have := dec_enc s x h
    exact ⟨by show (-9223372036854775808 : Int) ≤ x; omega, by show x ≤ 9223372036854775807; omega⟩
theorem madeP_I (cf : Cf) (pi : Nat → Nat → Int) {l : List Int} (h : AllI l) : ∀ k, AllI (madeP cf pi k l)
  | 0 => h
  | k + 1 => (madeP_I cf pi h k).set _ (w64_I _)
theorem madeS_I (cf : Cf) (si : Nat → Nat → Int) (sb : Nat → Nat → Bool) {l : List Int} (h : AllI l) : ∀ k, AllI (madeS cf si sb k l)
  | 0 => h
  | k + 1 => (madeS_I cf si sb h k).set _ encS_I
theorem madeL_I (cf : Cf) (nf : Nat) (fi : Nat → Nat → Int) (np : Nat) (pi : Nat → Nat → Int) (ns : Nat) (si : Nat → Nat → Int) (sb : Nat → Nat → Bool) : AllI (madeL cf nf fi np pi ns si sb) := by
  have h0 : AllI (List.replicate (cntN cf) (0 : Int)) := fun x hx => by rw [(List.mem_replicate.1 hx).2]; exact ⟨by decide, by decide⟩
  unfold madeL mdS
  refine madeS_I cf si sb (madeP_I cf pi ?_ _) _
  unfold mdFirst
  split
  · exact (h0.set _ (w64_I _)).set _ (w64_I _)
  · exact h0
abbrev rowsG (ns nf np : Nat) (si : Nat → Nat → Int) (sb : Nat → Nat → Bool) (fi : Nat → Nat → Int) (fb : Nat → Nat → Bool) (pi : Nat → Nat → Int) (pb : Nat → Nat → Bool) : List Go.Sx.Blk := [.rows false false 9 ns ⟨slKs, si, sb⟩, .rows false false 1 nf ⟨[.it .u8], fi, fb⟩, .rows false false 1 np ⟨[.it .u8], pi, pb⟩]
abbrev pp1 : Value := .pointer (some ⟨1, 0, none⟩)
abbrev memQt (k n : Nat) (t : Int) (l : List Int) : List Go.Sx.Blk := [.cells true true [.slice (some ⟨k, 0, some 1⟩) n 0, .int .i64 t], .ints true true l]
theorem callV_start {E : Env} {w : World} (hE : EnvOK E (· < w.heap.size) w) (hG : E.G = 0) {fuel f : Nat} {args : List Value} {lh : List Go.Sx.Blk} {v : Value} (h : (callV E fuel f args lh).run (Option Value) none (fun r => some r.1) = some v) (hv : plain1 v = true)
    {σ : Nat → Option Pl} (hr : HR (· < w.heap.size) w 0 σ lh w) {args' : Array Value} (ha : VRA σ args.toArray args') : Calls E.P f args' w fun e w' => e = .returned v ∧ Below w.heap.size w w' := by
  rw [M.run_eq] at h
  cases hx : (callV E fuel f args lh).get with
  | none => rw [hx] at h; cases h
  | some r =>
    rw [hx] at h
    simp only [Option.elim_some, Option.some.injEq] at h
    have hc := (callV_ok hE hG hx).2
    rw [hG] at hc
    refine (hc σ w args' hr ha).mono fun e w' hh => ?_
    obtain ⟨v', rfl, σ', _, hvr, hr'⟩ := hh
    rw [h] at hvr
    rw [hvr.plain1_eq hv]
    exact ⟨rfl, hr'.below.below⟩
theorem made_okM {cf : Cf} (h : RightC cf) (nf : Nat) (fi : Nat → Nat → Int) (np : Nat) (pi : Nat → Nat → Int) (ns : Nat) (si : Nat → Nat → Int) (sb : Nat → Nat → Bool) : okM (cntN cf) (madeL cf nf fi np pi ns si sb) = true :=
  okM_iff.2 ⟨(madeL_length cf nf fi np pi ns si sb).symm, by have := h.cntN; omega, by have := h.cntN; omega⟩
inductive VRL (σ : Nat → Option Pl) : List Value → List Value → Prop
  | nil : VRL σ [] []
  | cons {x y : Value} {l l' : List Value} (h : VR σ x y) (t : VRL σ l l') : VRL σ (x :: l) (y :: l')
theorem VRL.length {σ : Nat → Option Pl} {l l' : List Value} (h : VRL σ l l') : l.length = l'.length := by
  induction h with
  | nil => rfl
  | cons _ _ ih => rw [List.length_cons, List.length_cons, ih]
theorem VRL.at {σ : Nat → Option Pl} {l l' : List Value} (h : VRL σ l l') : ∀ (i : Nat) (x y : Value), l[i]? = some x → l'[i]? = some y → VR σ x y := by
  induction h with
  | nil => intro i x y hx; simp at hx
  | cons h0 _ ih =>
    intro i x y hx hy
    cases i with
    | zero => simp only [List.getElem?_cons_zero, Option.some.injEq] at hx hy; subst hx hy; exact h0
    | succ i => simp only [List.getElem?_cons_succ] at hx hy; exact ih i x y hx hy
theorem VRA.of_list {σ : Nat → Option Pl} {l l' : List Value} (h : VRL σ l l') : VRA σ l.toArray l'.toArray :=
  ⟨by simpa using h.length, fun i x y hx hy => h.at i x y (by simpa using hx) (by simpa using hy)⟩
def maxA (x : Int) : Int := if 0 > x then 0 else x
def maxB (x : Int) : Int := if x > 0 then x else 0
def cpyN (N : Nat) (l : List Int) : Nat := 0 + ((l.drop 0).take N).length
def cpyL (N : Nat) (l : List Int) : List Int := (l.drop 0).take N
theorem cpy_eq {N : Nat} {l : List Int} (h : okM N l = true) : cpyN N l = N ∧ cpyL N l = l := by
  obtain ⟨h1, _, _⟩ := okM_iff.1 h
  have : (l.drop 0).take N = l := by rw [List.drop_zero, h1]; exact List.take_length
  unfold cpyN cpyL
  rw [this]; exact ⟨by omega, rfl⟩
def cpyM {α : Type} (N : Nat) (l : List Int) (K : Option α) : Option α := bt (Nat.ble (0 + N) l.length) (bif Nat.beq (cpyL N l).length 0 then none else bt (smallN (cpyN N l)) K)
theorem cpyM_of {α : Type} {N : Nat} {l : List Int} {K : Option α} (h : okM N l = true) : cpyM N l K = K := by
  obtain ⟨h1, h2, h3⟩ := okM_iff.1 h
  obtain ⟨g1, g2⟩ := cpy_eq h
  unfold cpyM
  rw [g1, g2, bt_of (Nat.ble_eq_true_of_le (by omega)), bt_of (show smallN N = true from Nat.ble_eq_true_of_le h3), show Nat.beq l.length 0 = false by cases hx : Nat.beq l.length 0; rfl; exact absurd (Nat.eq_of_beq_eq_true hx) (by omega)]
  rfl
def mdC (cf : Cf) (ns nf np : Nat) : Bool := rightC cf && Nat.beq ns ns && Nat.beq nf nf && Nat.beq np np
theorem nf {b : Bool} {P : Prop} (h : b = false) (hh : b = true) : P := by rw [h] at hh; cases hh
theorem decS_enc (s : Slt) : (decS ((encS s).getD 0)).isSome = true := by
  cases h : encS s with
  | none => show (decS 0).isSome = true; kernel_rfl
  | some x =>
    show (decS x).isSome = true
    have := (dec_enc s x h).1
    unfold decS
    rw [this, h, if_pos rfl]; rfl
theorem decS_zero : (decS 0).isSome = true := by kernel_rfl
/-- Every slot's word says a slot. -/
def SlotsD (cf : Cf) (l : List Int) : Prop := ∀ i : Nat, (i : Int) < cf.s → (decS (l.getD (cellC cf i).toNat 0)).isSome = true
theorem getD_set (l : List Int) (j c : Nat) (v : Int) : (l.set j v).getD c 0 = if j = c ∧ c < l.length then v else l.getD c 0 := by
  rw [List.getD_eq_getElem?_getD, List.getElem?_set, List.getD_eq_getElem?_getD]
  by_cases h : j = c
  · subst h
    by_cases h2 : j < l.length
    · rw [if_pos rfl, if_pos h2, if_pos ⟨rfl, h2⟩]; rfl
    · rw [if_pos rfl, if_neg h2, if_neg (fun h => h2 h.2), List.getElem?_eq_none (by omega)]
  · rw [if_neg h, if_neg (fun hh => h hh.1)]
theorem SlotsD.set {cf : Cf} {l : List Int} (h : SlotsD cf l) (j : Nat) {v : Int} (hv : (decS v).isSome = true) : SlotsD cf (l.set j v) := fun i hi => by
  rw [getD_set]
  split
  · exact hv
  · exact h i hi
theorem SlotsD.other {cf : Cf} (hc : RightC cf) {l : List Int} (h : SlotsD cf l) {j : Nat} (hj : (j : Int) < 3 + 2 * cf.w) (v : Int) : SlotsD cf (l.set j v) := fun i hi => by
  have hcell := hc.cellC (show (0 : Int) ≤ (i : Int) by omega) hi
  rw [getD_set, if_neg (by rw [hcell]; have := hc.w; omega)]
  exact h i hi
theorem madeP_D {cf : Cf} (hc : RightC cf) (pi : Nat → Nat → Int) {l : List Int} (h : SlotsD cf l) : ∀ k : Nat, (k : Int) ≤ cf.w → SlotsD cf (madeP cf pi k l)
  | 0, _ => h
  | k + 1, hk => (madeP_D hc pi h k (by omega)).other hc (by rw [hc.pinC (i := (k : Int)) (by omega) (by omega)]; have := hc.w; omega) _
theorem madeS_D {cf : Cf} (si : Nat → Nat → Int) (sb : Nat → Nat → Bool) {l : List Int} (h : SlotsD cf l) : ∀ k, SlotsD cf (madeS cf si sb k l)
  | 0 => h
  | k + 1 => (madeS_D si sb h k).set _ (decS_enc _)
theorem made_D {cf : Cf} (hc : RightC cf) (nf : Nat) (fi : Nat → Nat → Int) (np : Nat) (pi : Nat → Nat → Int) (ns : Nat) (si : Nat → Nat → Int) (sb : Nat → Nat → Bool) : SlotsD cf (madeL cf nf fi np pi ns si sb) := by
  have h0 : SlotsD cf (List.replicate (cntN cf) (0 : Int)) := fun i hi => by
    rw [List.getD_eq_getElem?_getD, List.getElem?_replicate]
    split <;> exact decS_zero
  unfold madeL mdS
  refine madeS_D si sb (madeP_D hc pi ?_ _ ?_) _
  · unfold mdFirst
    split
    · exact (h0.other hc (by have := hc.w; omega) _).other hc (by have := hc.w; omega) _
    · exact h0
  · unfold mn
    have := hc.w
    omega
/-- What a slot's cell is. -/
theorem slotCell_in {cf : Cf} (hc : RightC cf) {i : Nat} (hi : (i : Int) < cf.s) : cellC cf i = 3 + 2 * cf.w + i ∧ inR (cntN cf) (cellC cf i) = true ∧ inRange (cellC cf i) (cntN cf) = true ∧ (cellC cf i).toNat < cntN cf := by
  have h1 := hc.cellC (show (0 : Int) ≤ (i : Int) by omega) hi
  have h2 := hc.cntN
  have h3 := hc.w
  rw [h1]
  refine ⟨rfl, ?_, ?_, by omega⟩
  · unfold inR; rw [decide_eq_true (by omega), decide_eq_true (by omega)]; rfl
  · unfold inRange; simp; omega
/-! ### What came in, bundled -/
structure Gv where
  ns : Nat
  nf : Nat
  np : Nat
  cs : Nat
  cF : Nat
  cp : Nat
  si : Nat → Nat → Int
  fi : Nat → Nat → Int
  pi : Nat → Nat → Int
  sb : Nat → Nat → Bool
  fb : Nat → Nat → Bool
  pb : Nat → Nat → Bool
  a : Int
  b : Int
  c : Int
  d : Int
  e : Int
abbrev Gv.cf (G : Gv) : Cf := confG G.a G.b G.c G.d G.e
abbrev Gv.val (G : Gv) : Value := .agg (mdG G.a G.b G.c G.d G.e G.ns G.cs G.nf G.cF G.np G.cp).toArray
abbrev Gv.l (G : Gv) : List Int := madeL G.cf G.nf G.fi G.np G.pi G.ns G.si G.sb
/-- Writes. -/
structure Wv where
  nl : Nat
  cl : Nat
  gi : Nat → Nat → Int
  gb : Nat → Nat → Bool
abbrev Wv.val (W : Wv) (k : Nat) : Value := .slice (some ⟨k, 0, some 2⟩) W.nl W.cl
abbrev Gv.r0 (G : Gv) : Go.Sx.Blk := .rows false false 9 G.ns ⟨slKs, G.si, G.sb⟩
abbrev Gv.r1 (G : Gv) : Go.Sx.Blk := .rows false false 1 G.nf ⟨[.it .u8], G.fi, G.fb⟩
abbrev Gv.r2 (G : Gv) : Go.Sx.Blk := .rows false false 1 G.np ⟨[.it .u8], G.pi, G.pb⟩
abbrev Wv.row (W : Wv) : Go.Sx.Blk := .rows false false 3 W.nl ⟨wrKs, W.gi, W.gb⟩
structure Gv.OK (G : Gv) : Prop where
  ha : 0 ≤ G.a ∧ G.a ≤ 255
  hb : 0 ≤ G.b ∧ G.b ≤ 255
  hc : 0 ≤ G.c ∧ G.c ≤ 255
  hd : 0 ≤ G.d ∧ G.d ≤ 255
  he : 0 ≤ G.e ∧ G.e ≤ 255
  fi : ∀ i, i < G.nf → 0 ≤ G.fi i 0 ∧ G.fi i 0 ≤ 255
theorem Gv.OK.small {G : Gv} (h : G.OK) : SmallC G.cf := confG_small h.ha.1 h.hb.1 h.hc.1 h.hd.1 h.he.1
theorem Gv.OK.right {G : Gv} (h : G.OK) : RightC G.cf := h.small.right
theorem Gv.OK.rightC {G : Gv} (h : G.OK) : rightC G.cf = true := rightC_iff.2 h.right
theorem Gv.OK.okM {G : Gv} (h : G.OK) : okM (cntN G.cf) G.l = true := made_okM h.right _ _ _ _ _ _ _
theorem Gv.OK.I {G : Gv} (h : G.OK) : AllI G.l := madeL_I _ _ _ _ _ _ _ _
theorem Gv.OK.D {G : Gv} (h : G.OK) : SlotsD G.cf G.l := made_D h.right _ _ _ _ _ _ _
def Gv.mk0 (G : Gv) : Bool := mdC G.cf G.ns G.nf G.np
theorem Gv.OK.made {G : Gv} (h : G.OK) : mdC G.cf G.ns G.nf G.np = true := by unfold mdC; rw [h.rightC, Nat.beq_refl, Nat.beq_refl, Nat.beq_refl]; rfl
/-! ### What a law begins with -/
def ldG (cf : Cf) (l : List Int) : Bool := rightC cf && okM (cntN cf) l && Nat.beq (cntN cf) (cntN cf)
theorem Gv.OK.ld {G : Gv} (h : G.OK) : ldG G.cf G.l = true := by unfold ldG; rw [h.rightC, h.okM, Nat.beq_refl]; rfl
/-- A number as one of a slot's. -/
def atI (m at_ : Int) : Int := (w64 at_).tmod m
theorem atI_in {m at_ : Int} (hm : 1 ≤ m) (ha : 0 ≤ at_ ∧ at_ ≤ 255) : ∃ i : Nat, atI m at_ = i ∧ (i : Int) < m := by
  unfold atI
  rw [w64_in ⟨by omega, by omega⟩, Int.tmod_eq_emod_of_nonneg ha.1]
  have h1 := Int.emod_nonneg at_ (show m ≠ 0 by omega)
  have h2 := Int.emod_lt_of_pos at_ (show 0 < m by omega)
  exact ⟨(at_ % m).toNat, by omega, by omega⟩
def ixC {α : Type} (cf : Cf) (l : List Int) (i : Int) (K : Option α) : Option α := bt (inRange (cellC cf i) (cntN cf)) (bt (Nat.blt (0 + (cellC cf i).toNat) l.length) K)
theorem ixC_of {α : Type} {cf : Cf} (hc : RightC cf) {l : List Int} (hok : okM (cntN cf) l = true) {i : Nat} (hi : (i : Int) < cf.s) {K : Option α} : ixC cf l i K = K := by
  obtain ⟨e1, e2, e3, e4⟩ := slotCell_in hc hi
  obtain ⟨g1, _, _⟩ := okM_iff.1 hok
  unfold ixC
  rw [bt_of e3, bt_of (by rw [Nat.blt_eq]; omega)]
theorem lenOK_okM {n : Nat} {l : List Int} (h : okM n l = true) : lenOK n l = true := by
  unfold okM at h
  rw [Bool.and_eq_true, Bool.and_eq_true] at h
  unfold lenOK
  rw [h.1.1, h.2]; rfl
def noS {α : Type} (cf : Cf) (K : Option α) : Option α := bif decide (cf.s = 0) then none else K
theorem noS_of {α : Type} {cf : Cf} (hc : RightC cf) {K : Option α} : noS cf K = K := by
  unfold noS
  rw [decide_eq_false (by have := hc.s; omega)]; rfl
def noW {α : Type} (cf : Cf) (K : Option α) : Option α := bif decide (cf.w = 0) then none else K
theorem noW_of {α : Type} {cf : Cf} (hc : RightC cf) {K : Option α} : noW cf K = K := by
  unfold noW
  rw [decide_eq_false (by have := hc.w; omega)]; rfl
def isT : Option Value := some (.bool true)
def isF : Option Value := some (.bool false)
/-! ### A loop's summary at one state -/
noncomputable def specC (V : List Value) (H : List Go.Sx.Blk) (out : Exit × List Value × List Go.Sx.Blk) (vals : List Value) (lh : List Go.Sx.Blk) : M (Exit × List Value × List Go.Sx.Blk) :=
  .br (sure (vals = V ∧ lh = H)) (.ret out) .bad
theorem lpSound_const {P : Program} {T : World → Prop} {f : FuncId} {fn : Func} {c : Code} {id : Nat} {N b0 : Nat} {keep keep2 : List Nat} {V : List Value} {H : List Go.Sx.Blk} {out : Exit × List Value × List Go.Sx.Blk}
    (hf : P.funcs[f]? = some fn) (hb : fn.body = some c) (ho : (onlyBlk id c).isSome = true)
    (h : ∀ (X : Nat → Prop) (w0 : World), X 0 → Bnd X w0 → T w0 → RunsB P X w0 0 b0 (.block id (blkAt id c)) (unpack N keep V H) out.1 (unpack N keep2 out.2.1 out.2.2)) :
    LpSound P T f id (loopV N keep keep2 (specC V H out) b0) :=
  .of_loop hf hb ho fun X w0 h0 hB hT vals lh e vals' lh' hF _ => by
    rcases M.get_br_some hF with ⟨hc, hF2⟩ | ⟨_, hF2⟩
    · obtain ⟨e1, e2⟩ := sure_iff.1 hc
      simp only [M.get_ret, Option.some.injEq] at hF2
      have := h X w0 h0 hB hT
      rw [hF2, ← e1, ← e2] at this
      exact this
    · cases hF2
/-- What is asked of a state that is the one. -/
def isIt (V : List Value) (H : List Go.Sx.Blk) (V' : List Value) (H' : List Go.Sx.Blk) : Prop := V = V' ∧ H = H'
theorem isIt_refl (V : List Value) (H : List Go.Sx.Blk) : sure (isIt V H V H) = true := sure_of ⟨rfl, rfl⟩
def ep2 {α : Type} (N : Nat) (l : List Int) (K : Option α) : Option α := bt (inRange 2 N) (bt (Nat.blt (0 + Int.toNat 2) l.length) K)
theorem ep2_of {α : Type} {cf : Cf} (hc : RightC cf) {l : List Int} (hok : okM (cntN cf) l = true) {K : Option α} : ep2 (cntN cf) l K = K := by
  obtain ⟨g1, _, _⟩ := okM_iff.1 hok
  have := hc.cntN
  unfold ep2
  rw [bt_of (by unfold inRange; simp; omega), bt_of (by rw [Nat.blt_eq]; show 0 + 2 < _; omega)]
/-! ### The first cells -/
theorem madeP_low {cf : Cf} (hc : RightC cf) (pi : Nat → Nat → Int) (l : List Int) {c : Nat} (h : c < 3) : ∀ k : Nat, (k : Int) ≤ cf.w → (madeP cf pi k l).getD c 0 = l.getD c 0
  | 0, _ => rfl
  | k + 1, hk => by
    have e := hc.pinC (i := (k : Int)) (by omega) (by omega)
    unfold madeP
    rw [getD_set, if_neg (by rw [e]; omega)]
    exact madeP_low hc pi l h k (by omega)
theorem madeS_low {cf : Cf} (hc : RightC cf) (si : Nat → Nat → Int) (sb : Nat → Nat → Bool) (l : List Int) {c : Nat} (h : c < 3) : ∀ k : Nat, (k : Int) ≤ cf.s → (madeS cf si sb k l).getD c 0 = l.getD c 0
  | 0, _ => rfl
  | k + 1, hk => by
    have e := hc.cellC (i := (k : Int)) (by omega) (by omega)
    unfold madeS
    rw [getD_set, if_neg (by rw [e]; have := hc.w; omega)]
    exact madeS_low hc si sb l h k (by omega)
theorem madeL_low {cf : Cf} (hc : RightC cf) (nf : Nat) (fi : Nat → Nat → Int) (np : Nat) (pi : Nat → Nat → Int) (ns : Nat) (si : Nat → Nat → Int) (sb : Nat → Nat → Bool) {c : Nat} (h : c < 3) : (madeL cf nf fi np pi ns si sb).getD c 0 = (mdFirst cf nf fi).getD c 0 := by
  unfold madeL mdS
  rw [madeS_low hc _ _ _ h _ (by unfold mn; have := hc.s; omega), madeP_low hc _ _ h _ (by unfold mn; have := hc.w; omega)]
theorem zeros_getD (n c : Nat) : (List.replicate n (0 : Int)).getD c 0 = 0 := by
  rw [List.getD_eq_getElem?_getD, List.getElem?_replicate]
  split <;> rfl
/-- The epoch is a byte. -/
theorem Gv.OK.ep {G : Gv} (h : G.OK) : 0 ≤ G.l.getD 2 0 ∧ G.l.getD 2 0 ≤ 255 := by
  rw [madeL_low h.right _ _ _ _ _ _ _ (by decide)]
  unfold mdFirst
  split
  · rename_i hn
    have h1 := h.fi 1 (by omega)
    rw [getD_set, w64_in (x := G.fi 1 0) ⟨by omega, by omega⟩]
    split
    · exact h1
    · rw [getD_set, if_neg (by omega), zeros_getD]; omega
  · rw [zeros_getD]; omega
/-- Closed: 0, 1, or 2. -/
theorem Gv.OK.cl {G : Gv} (h : G.OK) : G.l.getD 0 0 = 0 ∨ G.l.getD 0 0 = 1 ∨ G.l.getD 0 0 = 2 := by
  rw [madeL_low h.right _ _ _ _ _ _ _ (by decide)]
  unfold mdFirst
  split
  · rename_i hn
    have h1 := h.fi 0 (by omega)
    have h2 := Int.emod_nonneg (G.fi 0 0) (show (3 : Int) ≠ 0 by omega)
    have h3 := Int.emod_lt_of_pos (G.fi 0 0) (show (0 : Int) < 3 by omega)
    rw [getD_set, if_neg (by omega), getD_set, Int.tmod_eq_emod_of_nonneg h1.1, w64_in ⟨by omega, by omega⟩]
    split
    · omega
    · rw [zeros_getD]; exact .inl rfl
  · rw [zeros_getD]; exact .inl rfl
end Go.Proofs.YthfoljgaiincdaaDoor
