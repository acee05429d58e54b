
/- Confs: what each function over them does, in plain words. No condition of its own. -/
import Derived.Test.YthfoljgaiincdaaDoorMem
import Derived.Test.YthfoljgaiincdaaDoorRefWord
namespace Go.Proofs.YthfoljgaiincdaaDoor
open Go.RowKit Go.Fld Go.Sx
set_option linter.unusedVariables false
set_option linter.unusedSimpArgs false
structure Cf where
  w : Int
  s : Int
  st : Int
  wt : Int
  u : Int
def Cf.val (c : Cf) : Value := .agg #[.int .i64 c.w, .int .i64 c.s, .int .i64 c.st, .int .i64 c.wt, .int .i64 c.u]
def confOf : List Value → Option Cf
  | [.int .i64 a, .int .i64 b, .int .i64 c, .int .i64 d, .int .i64 e] => some ⟨a, b, c, d, e⟩
  | _ => none
theorem confOf_some {c : Array Value} {s : Cf} (h : confOf c.toList = some s) : Value.agg c = s.val := by
  unfold confOf at h
  split at h
  · rename_i hc
    cases h
    unfold Cf.val
    congr 1
    exact Array.toList_inj.1 hc
  · cases h
def confM {α : Type} (v : Value) (F : Cf → M α) : M α :=
  match v with
  | .agg c => match confOf c.toList with
    | some s => F s
    | none => .bad
  | _ => .bad
theorem confM_some {α : Type} {v : Value} {F : Cf → M α} {x : α} (h : (confM v F).get = some x) : ∃ s, v = s.val ∧ (F s).get = some x := by
  unfold confM at h
  split at h
  · split at h
    · rename_i hc
      exact ⟨_, confOf_some hc, h⟩
    · cases h
  · cases h
def rightC (c : Cf) : Bool := decide (1 ≤ c.w) && decide (c.w ≤ 8) && decide (1 ≤ c.s) && decide (c.s ≤ 16) && decide (0 ≤ c.st) && decide (c.st ≤ 8) && decide (0 ≤ c.wt) && decide (c.wt ≤ 8) && decide (1 ≤ c.u) && decide (c.u ≤ 60)
structure RightC (c : Cf) : Prop where
  w : 1 ≤ c.w ∧ c.w ≤ 8
  s : 1 ≤ c.s ∧ c.s ≤ 16
  st : 0 ≤ c.st ∧ c.st ≤ 8
  wt : 0 ≤ c.wt ∧ c.wt ≤ 8
  u : 1 ≤ c.u ∧ c.u ≤ 60
theorem rightC_iff {c : Cf} : rightC c = true ↔ RightC c := by
  unfold rightC
  simp only [Bool.and_eq_true, decide_eq_true_eq]
  exact ⟨fun ⟨⟨⟨⟨⟨⟨⟨⟨⟨a, b⟩, c⟩, d⟩, e⟩, f⟩, g⟩, h⟩, i⟩, j⟩ => ⟨⟨a, b⟩, ⟨c, d⟩, ⟨e, f⟩, ⟨g, h⟩, ⟨i, j⟩⟩, fun ⟨⟨a, b⟩, ⟨c, d⟩, ⟨e, f⟩, ⟨g, h⟩, ⟨i, j⟩⟩ => ⟨⟨⟨⟨⟨⟨⟨⟨⟨a, b⟩, c⟩, d⟩, e⟩, f⟩, g⟩, h⟩, i⟩, j⟩⟩
def inI (m i : Int) : Bool := decide (0 ≤ i) && decide (i < m)
/-- A slot's cell. -/
def cellC (c : Cf) (i : Int) : Int := if inI c.s i then w64 (3 + 2 * c.w + i) else -1
def pinC (c : Cf) (i : Int) : Int := if inI c.w i then w64 (3 + i) else -1
/-- How many cells there are. -/
def cntC (c : Cf) : Int := w64 (3 + 2 * c.w + c.s)
def cntQ (c : Cf) : Int := w64 (cellC c (w64 (c.s - 1)) + 1)
def cntN (c : Cf) : Nat := (3 + 2 * c.w + c.s).toNat
theorem RightC.cntC {c : Cf} (h : RightC c) : cntC c = 3 + 2 * c.w + c.s := w64_in ⟨by have := h.w; have := h.s; omega, by have := h.w; have := h.s; omega⟩
theorem RightC.cellC {c : Cf} (h : RightC c) {i : Int} (h0 : 0 ≤ i) (h1 : i < c.s) : cellC c i = 3 + 2 * c.w + i := by
  have := h.w; have := h.s
  unfold Go.Proofs.YthfoljgaiincdaaDoor.cellC inI
  rw [if_pos (by simp; omega)]
  exact w64_in ⟨by omega, by omega⟩
theorem RightC.cellC_out {c : Cf} {i : Int} (h0 : ¬ (0 ≤ i ∧ i < c.s)) : Go.Proofs.YthfoljgaiincdaaDoor.cellC c i = -1 := by
  unfold Go.Proofs.YthfoljgaiincdaaDoor.cellC inI
  rw [if_neg (by simp; omega)]
theorem RightC.pinC {c : Cf} (h : RightC c) {i : Int} (h0 : 0 ≤ i) (h1 : i < c.w) : pinC c i = 3 + i := by
  have := h.w; have := h.s
  unfold Go.Proofs.YthfoljgaiincdaaDoor.pinC inI
  rw [if_pos (by simp; omega)]
  exact w64_in ⟨by omega, by omega⟩
theorem RightC.cntQ {c : Cf} (h : RightC c) : cntQ c = 3 + 2 * c.w + c.s := by
  have := h.w; have := h.s
  unfold Go.Proofs.YthfoljgaiincdaaDoor.cntQ
  rw [w64_in (x := c.s - 1) ⟨by omega, by omega⟩, h.cellC (by omega) (by omega)]
  rw [w64_in ⟨by omega, by omega⟩]; omega
theorem RightC.cntN {c : Cf} (h : RightC c) : ((cntN c : Nat) : Int) = 3 + 2 * c.w + c.s ∧ 6 ≤ cntN c ∧ cntN c ≤ 35 := by
  have := h.w; have := h.s
  unfold Go.Proofs.YthfoljgaiincdaaDoor.cntN
  omega
def confG (a b c d e : Int) : Cf := ⟨w64 (1 + w64 (a.tmod 4)), w64 (1 + w64 (b.tmod 5)), w64 (c.tmod 4), w64 (d.tmod 4), w64 (1 + w64 (e.tmod 4))⟩
theorem tmod_small {a k : Int} (h : 0 ≤ a) (hk : 0 < k) (hk2 : k < 100) : w64 (a.tmod k) = a % k ∧ 0 ≤ a % k ∧ a % k < k := by
  rw [Int.tmod_eq_emod_of_nonneg h]
  have h1 := Int.emod_nonneg a (show k ≠ 0 by omega)
  have h2 := Int.emod_lt_of_pos a hk
  exact ⟨w64_in ⟨by omega, by omega⟩, h1, h2⟩
structure SmallC (c : Cf) : Prop where
  w : 1 ≤ c.w ∧ c.w ≤ 4
  s : 1 ≤ c.s ∧ c.s ≤ 5
  st : 0 ≤ c.st ∧ c.st ≤ 3
  wt : 0 ≤ c.wt ∧ c.wt ≤ 3
  u : 1 ≤ c.u ∧ c.u ≤ 4
theorem SmallC.right {c : Cf} (h : SmallC c) : RightC c := ⟨⟨h.w.1, by have := h.w; omega⟩, ⟨h.s.1, by have := h.s; omega⟩, ⟨h.st.1, by have := h.st; omega⟩, ⟨h.wt.1, by have := h.wt; omega⟩, ⟨h.u.1, by have := h.u; omega⟩⟩
theorem confG_small {a b c d e : Int} (ha : 0 ≤ a) (hb : 0 ≤ b) (hc : 0 ≤ c) (hd : 0 ≤ d) (he : 0 ≤ e) : SmallC (confG a b c d e) := by
  obtain ⟨a1, a2, a3⟩ := tmod_small (k := 4) ha (by decide) (by decide)
  obtain ⟨b1, b2, b3⟩ := tmod_small (k := 5) hb (by decide) (by decide)
  obtain ⟨c1, c2, c3⟩ := tmod_small (k := 4) hc (by decide) (by decide)
  obtain ⟨d1, d2, d3⟩ := tmod_small (k := 4) hd (by decide) (by decide)
  obtain ⟨e1, e2, e3⟩ := tmod_small (k := 4) he (by decide) (by decide)
  unfold confG
  rw [a1, b1, c1, d1, e1, w64_in (x := 1 + a % 4) ⟨by omega, by omega⟩, w64_in (x := 1 + b % 5) ⟨by omega, by omega⟩, w64_in (x := 1 + e % 4) ⟨by omega, by omega⟩]
  exact ⟨⟨by show 1 ≤ 1 + a % 4; omega, by show 1 + a % 4 ≤ 4; omega⟩, ⟨by show 1 ≤ 1 + b % 5; omega, by show 1 + b % 5 ≤ 5; omega⟩, ⟨c2, by show c % 4 ≤ 3; omega⟩, ⟨d2, by show d % 4 ≤ 3; omega⟩, ⟨by show 1 ≤ 1 + e % 4; omega, by show 1 + e % 4 ≤ 4; omega⟩⟩
/-! ### Their functions -/
noncomputable def confFns : List (FuncId × Func) := [(15, Tryd.f15), (51, Tryd.f51), (16, Tryd.f16), (52, Tryd.f52), (17, Tryd.f17), (23, Tryd.f23), (24, Tryd.f24), (20, Tryd.f20), (27, Tryd.f27), (18, Tryd.f18)]
theorem confFns_ok : ∀ e ∈ confFns, FnOK Tryd.prog e.1 e.2 :=
  fns_ok_cons ⟨Tryd.func15, by kernel_rfl, by kernel_rfl⟩ <| fns_ok_cons ⟨Tryd.func51, by kernel_rfl, by kernel_rfl⟩ <| fns_ok_cons ⟨Tryd.func16, by kernel_rfl, by kernel_rfl⟩ <| fns_ok_cons ⟨Tryd.func52, by kernel_rfl, by kernel_rfl⟩ <| fns_ok_cons ⟨Tryd.func17, by kernel_rfl, by kernel_rfl⟩ <| fns_ok_cons ⟨Tryd.func23, by kernel_rfl, by kernel_rfl⟩ <| fns_ok_cons ⟨Tryd.func24, by kernel_rfl, by kernel_rfl⟩ <| fns_ok_cons ⟨Tryd.func20, by kernel_rfl, by kernel_rfl⟩ <| fns_ok_cons ⟨Tryd.func27, by kernel_rfl, by kernel_rfl⟩ <| fns_ok_cons ⟨Tryd.func18, by kernel_rfl, by kernel_rfl⟩ <| fns_ok_nil rfl
noncomputable def confEnv : Env := mkEnv Tryd.prog confFns [] [] []
theorem confEnv_ok (X : Nat → Prop) (w0 : World) (h0 : X 0) (hB : Bnd X w0) (hT : Tab w0) : EnvOK confEnv X w0 := mkEnv_ok (fun e he => by cases he) (by kernel_rfl) confFns_ok sounds_nil lpSounds_nil h0 hB hT
def nC (c : Cf) : Int := w64 (w64 (3 + w64 (2 * c.w)) + c.s)
def memBad : Option (Value × List Go.Sx.Blk) := some (.tuple #[.pointer none, .int .i64 1], [])
def memT (c : Cf) : Option (Value × List Go.Sx.Blk) :=
  bif decide (1 ≤ c.w) then bif decide (c.w ≤ 8) then bif decide (1 ≤ c.s) then bif decide (c.s ≤ 16) then bif decide (0 ≤ c.st) then bif decide (c.st ≤ 8) then bif decide (0 ≤ c.wt) then bif decide (c.wt ≤ 8) then bif decide (1 ≤ c.u) then
    bif !decide (c.u ≤ 60) then memBad else bif decide (nC c < 1) then memBad else bif decide (nC c > 4096) then memBad else
    bif decide (nC c = nC c) then bif decide (0 ≤ nC c) && decide (nC c ≤ 1048576) then some (.tuple #[p0, .int .i64 0], memB (nC c).toNat (nC c).toNat 0 (List.replicate (nC c).toNat 0)) else none else none
  else memBad else memBad else memBad else memBad else memBad else memBad else memBad else memBad else memBad
theorem mem_tree (c : Cf) : (callV confEnv 40 15 [c.val] []).get = memT c := by kernel_rfl
theorem nC_eq (c : Cf) : nC c = w64 (3 + 2 * c.w + c.s) := by
  obtain ⟨a, ha⟩ := w64_mod (2 * c.w)
  obtain ⟨b, hb⟩ := w64_mod (3 + w64 (2 * c.w))
  unfold nC
  exact w64_congr (q := a + b) (by omega)
theorem memT_eq (c : Cf) : memT c = if rightC c then some (.tuple #[p0, .int .i64 0], memB (cntN c) (cntN c) 0 (List.replicate (cntN c) 0)) else memBad := by
  cases hr : rightC c with
  | true =>
    have h := rightC_iff.1 hr
    obtain ⟨h1, h2, h3, h4, h5⟩ := h
    have hn : nC c = 3 + 2 * c.w + c.s := by rw [nC_eq]; exact w64_in ⟨by omega, by omega⟩
    have hN : (nC c).toNat = cntN c := by rw [hn]; rfl
    unfold memT
    rw [decide_eq_true h1.1, decide_eq_true h1.2, decide_eq_true h2.1, decide_eq_true h2.2, decide_eq_true h3.1, decide_eq_true h3.2, decide_eq_true h4.1, decide_eq_true h4.2, decide_eq_true h5.1, decide_eq_true h5.2,
      decide_eq_false (show ¬ nC c < 1 by omega), decide_eq_false (show ¬ nC c > 4096 by omega), decide_eq_true (show 0 ≤ nC c by omega), decide_eq_true (show nC c ≤ 1048576 by omega), decide_eq_true (rfl : nC c = nC c), hN]
    rfl
  | false =>
    have h : ¬ RightC c := fun hh => by rw [rightC_iff.2 hh] at hr; cases hr
    have hb : ∀ (p : Prop) [Decidable p] (X : Option (Value × List Go.Sx.Blk)), (p → X = memBad) → (bif decide p then X else memBad) = memBad := by
      intro p _ X hx
      by_cases hp : p
      · rw [decide_eq_true hp]; exact hx hp
      · rw [decide_eq_false hp]; rfl
    unfold memT
    refine hb _ _ fun a1 => hb _ _ fun a2 => hb _ _ fun a3 => hb _ _ fun a4 => hb _ _ fun a5 => hb _ _ fun a6 => hb _ _ fun a7 => hb _ _ fun a8 => hb _ _ fun a9 => ?_
    have : ¬ c.u ≤ 60 := fun a10 => h ⟨⟨a1, a2⟩, ⟨a3, a4⟩, ⟨a5, a6⟩, ⟨a7, a8⟩, ⟨a9, a10⟩⟩
    rw [decide_eq_false this]; rfl
def confMemO : Orc := fun args lh => match args, lh with
  | [c], [] => confM c fun c => .br (rightC c) (.ret (.tuple #[p0, .int .i64 0], memB (cntN c) (cntN c) 0 (List.replicate (cntN c) 0))) (.ret (.tuple #[.pointer none, .int .i64 1], []))
  | _, _ => .bad
theorem confMem_sound : Sound Tryd.prog Tab 15 confMemO := by
  refine Sound.of_run ⟨Tryd.func15, by kernel_rfl, by kernel_rfl⟩ rfl rfl confEnv_ok 40 fun args lh r hr => ?_
  unfold confMemO at hr
  split at hr
  · obtain ⟨c, rfl, h2⟩ := confM_some hr
    refine ((mem_tree c).trans (memT_eq c)).trans ?_
    rcases M.get_br_some h2 with ⟨hc, h3⟩ | ⟨hc, h3⟩
    · simp only [M.get_ret, Option.some.injEq] at h3; subst h3
      rw [hc]; rfl
    · simp only [M.get_ret, Option.some.injEq] at h3; subst h3
      rw [hc]; rfl
  · cases hr
theorem args_conf (c : Cf) (l : List Value) (h : l.all plainA = true) : (c.val :: l).all plainA = true := by
  rw [List.all_cons, h, Bool.and_true]; simp [Cf.val, plainA, plain1]
def two (m i : Int) (x : Int) : Option (Value × List Go.Sx.Blk) := bif decide (i < 0) then some (.int .i64 (-1), []) else bif decide (i ≥ m) then some (.int .i64 (-1), []) else some (.int .i64 x, [])
theorem two_eq (m i x y : Int) (h : x = y) : two m i x = some (.int .i64 (if inI m i then y else -1), []) := by
  unfold two inI
  subst h
  by_cases h0 : i < 0
  · rw [decide_eq_true h0, if_neg (by simp; omega)]; rfl
  · rw [decide_eq_false h0]
    by_cases h1 : i ≥ m
    · rw [decide_eq_true h1, if_neg (by simp; omega)]; rfl
    · rw [decide_eq_false h1, if_pos (by simp; omega)]; rfl
theorem slot_tree (c : Cf) (i : Int) : (callV confEnv 40 23 [c.val, .int .i64 i] []).get = two c.s i (w64 (w64 (3 + w64 (2 * c.w)) + i)) := by kernel_rfl
theorem slotQ_tree (c : Cf) (i : Int) : (callV confEnv 40 24 [c.val, .int .i64 i] []).get = two c.s i (w64 (w64 (w64 (3 + c.w) + c.w) + i)) := by kernel_rfl
theorem pinQ_tree (c : Cf) (i : Int) : (callV confEnv 40 20 [c.val, .int .i64 i] []).get = two c.w i (w64 (3 + i)) := by kernel_rfl
theorem confG_tree (a b c d e : Int) : (callV confEnv 40 27 [.agg #[.int .u8 a, .int .u8 b, .int .u8 c, .int .u8 d, .int .u8 e]] []).get = some ((confG a b c d e).val, []) := by kernel_rfl
def slotCO : Orc := fun args lh => match args with | [c, .int .i64 i] => confM c fun c => .ret (.int .i64 (cellC c i), lh) | _ => .bad
def pinCO : Orc := fun args lh => match args with | [c, .int .i64 i] => confM c fun c => .ret (.int .i64 (pinC c i), lh) | _ => .bad
def cntQO : Orc := fun args lh => match args with | [c] => confM c fun c => .ret (.int .i64 (cntQ c), lh) | _ => .bad
def confGO : Orc := fun args lh => match args with
  | [.agg g] => match g.toList with | [.int .u8 a, .int .u8 b, .int .u8 c, .int .u8 d, .int .u8 e] => .ret ((confG a b c d e).val, lh) | _ => .bad
  | _ => .bad
theorem slotC_sound : Sound Tryd.prog Tab 23 slotCO := by
  refine Sound.of_empty ⟨Tryd.func23, by kernel_rfl, by kernel_rfl⟩ rfl rfl confEnv_ok 40 fun args lh r hr => ?_
  unfold slotCO at hr
  split at hr
  · rename_i i
    obtain ⟨c, rfl, h2⟩ := confM_some hr
    simp only [M.get_ret, Option.some.injEq] at h2; subst h2
    refine ⟨rfl, args_conf c _ rfl, rfl, by simp [undef], (slot_tree c i).trans (two_eq _ _ _ _ ?_)⟩
    obtain ⟨a, ha⟩ := w64_mod (2 * c.w)
    obtain ⟨b, hb⟩ := w64_mod (3 + w64 (2 * c.w))
    exact w64_congr (q := a + b) (by omega)
  · cases hr
theorem slotQ_sound : Sound Tryd.prog Tab 24 slotCO := by
  refine Sound.of_empty ⟨Tryd.func24, by kernel_rfl, by kernel_rfl⟩ rfl rfl confEnv_ok 40 fun args lh r hr => ?_
  unfold slotCO at hr
  split at hr
  · rename_i i
    obtain ⟨c, rfl, h2⟩ := confM_some hr
    simp only [M.get_ret, Option.some.injEq] at h2; subst h2
    refine ⟨rfl, args_conf c _ rfl, rfl, by simp [undef], (slotQ_tree c i).trans (two_eq _ _ _ _ ?_)⟩
    obtain ⟨a, ha⟩ := w64_mod (3 + c.w)
    obtain ⟨b, hb⟩ := w64_mod (w64 (3 + c.w) + c.w)
    exact w64_congr (q := a + b) (by omega)
  · cases hr
theorem pinQ_sound : Sound Tryd.prog Tab 20 pinCO := by
  refine Sound.of_empty ⟨Tryd.func20, by kernel_rfl, by kernel_rfl⟩ rfl rfl confEnv_ok 40 fun args lh r hr => ?_
  unfold pinCO at hr
  split at hr
  · rename_i i
    obtain ⟨c, rfl, h2⟩ := confM_some hr
    simp only [M.get_ret, Option.some.injEq] at h2; subst h2
    exact ⟨rfl, args_conf c _ rfl, rfl, by simp [undef], (pinQ_tree c i).trans (two_eq _ _ _ _ rfl)⟩
  · cases hr
noncomputable def conf2Env : Env := mkEnv Tryd.prog confFns [] [(24, slotCO)] []
theorem conf2Env_ok (X : Nat → Prop) (w0 : World) (h0 : X 0) (hB : Bnd X w0) (hT : Tab w0) : EnvOK conf2Env X w0 := mkEnv_ok (fun e he => by cases he) (by kernel_rfl) confFns_ok (sounds_cons slotQ_sound sounds_nil) lpSounds_nil h0 hB hT
theorem cntQ_tree (c : Cf) : (callV conf2Env 40 18 [c.val] []).get = some (.int .i64 (cntQ c), []) := by kernel_rfl
theorem cntQ_sound : Sound Tryd.prog Tab 18 cntQO := by
  refine Sound.of_empty ⟨Tryd.func18, by kernel_rfl, by kernel_rfl⟩ rfl rfl conf2Env_ok 40 fun args lh r hr => ?_
  unfold cntQO at hr
  split at hr
  · obtain ⟨c, rfl, h2⟩ := confM_some hr
    simp only [M.get_ret, Option.some.injEq] at h2; subst h2
    exact ⟨rfl, args_conf c _ rfl, rfl, by simp [undef], cntQ_tree c⟩
  · cases hr
theorem confG_sound : Sound Tryd.prog Tab 27 confGO := by
  refine Sound.of_empty ⟨Tryd.func27, by kernel_rfl, by kernel_rfl⟩ rfl rfl confEnv_ok 40 fun args lh r hr => ?_
  unfold confGO at hr
  split at hr
  · rename_i g
    split at hr
    · rename_i a b c d e hg
      simp only [M.get_ret, Option.some.injEq] at hr; subst hr
      obtain rfl : g = #[.int .u8 a, .int .u8 b, .int .u8 c, .int .u8 d, .int .u8 e] := Array.toList_inj.1 hg
      exact ⟨rfl, by simp [plainA, plain1], by simp [Cf.val, Go.Sx.plain, plain1], by simp [Cf.val, undef], confG_tree a b c d e⟩
    · cases hr
  · cases hr
def confOrcs : List (FuncId × Orc) := [(15, frameM confMemO), (23, slotCO), (24, slotCO), (20, pinCO), (18, cntQO), (27, confGO)]
theorem confOrcs_ok : Sounds Tryd.prog Tab confOrcs := sounds_cons (confMem_sound.frame tab_kept) <| sounds_cons slotC_sound <| sounds_cons slotQ_sound <| sounds_cons pinQ_sound <| sounds_cons cntQ_sound <| sounds_cons confG_sound sounds_nil
end Go.Proofs.YthfoljgaiincdaaDoor
