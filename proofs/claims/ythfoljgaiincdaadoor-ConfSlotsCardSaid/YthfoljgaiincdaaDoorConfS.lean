
/- conf: the slots, and the pins, of words that came in: contracts. No condition of its own. -/
import Derived.Test.YthfoljgaiincdaaDoorConfL
namespace Go.Proofs.YthfoljgaiincdaaDoor
open Go.RowKit Go.Fld Go.Sx
set_option linter.unusedVariables false
set_option linter.unusedSimpArgs false
noncomputable def cpFns : List (FuncId × Func) := [(29, Tryd.f29), (54, Tryd.f54), (31, Tryd.f31), (53, Tryd.f53)]
theorem cpFns_ok : ∀ e ∈ cpFns, FnOK Tryd.prog e.1 e.2 :=
  fns_ok_cons ⟨Tryd.func29, by kernel_rfl, by kernel_rfl⟩ <| fns_ok_cons ⟨Tryd.func54, by kernel_rfl, by kernel_rfl⟩ <| fns_ok_cons ⟨Tryd.func31, by kernel_rfl, by kernel_rfl⟩ <| fns_ok_cons ⟨Tryd.func53, by kernel_rfl, by kernel_rfl⟩ <| fns_ok_nil rfl
abbrev wv (n c : Nat) : Value := .slice (some ⟨0, 0, some 2⟩) n c
noncomputable def cp0Env : Env := mkEnv Tryd.prog cpFns [] aw1 []
theorem cp0Env_ok (X : Nat → Prop) (w0 : World) (h0 : X 0) (hB : Bnd X w0) (hT : Tab w0) : EnvOK cp0Env X w0 := mkEnv_ok (fun e he => by cases he) (by kernel_rfl) cpFns_ok aw1_ok lpSounds_nil h0 hB hT
/-! ### Pins -/
def pinsC (cf : Cf) (l : List Int) : List Int := (l.drop 3).take cf.w.toNat
theorem beqF {a b : Nat} (h : a ≠ b) : Nat.beq a b = false := by
  cases hh : Nat.beq a b with
  | false => rfl
  | true => exact absurd (Nat.eq_of_beq_eq_true hh) h
theorem upto8 {w : Int} (h : 1 ≤ w ∧ w ≤ 8) : w = 1 ∨ w = 2 ∨ w = 3 ∨ w = 4 ∨ w = 5 ∨ w = 6 ∨ w = 7 ∨ w = 8 := by omega
theorem upto16 {w : Int} (h : 1 ≤ w ∧ w ≤ 16) : w = 1 ∨ w = 2 ∨ w = 3 ∨ w = 4 ∨ w = 5 ∨ w = 6 ∨ w = 7 ∨ w = 8 ∨ w = 9 ∨ w = 10 ∨ w = 11 ∨ w = 12 ∨ w = 13 ∨ w = 14 ∨ w = 15 ∨ w = 16 := by omega
def cutB {α : Type} (l : List Int) (off k : Nat) (K : List Int → Option α) : Option α :=
  bif Nat.ble (off + k) l.length then (bif Nat.beq ((l.drop off).take k).length 0 then none else bif smallN (0 + ((l.drop off).take k).length) then K ((l.drop off).take k) else none) else none
def cutT {α : Type} (n : Nat) (l : List Int) (a b : Int) (K : List Int → Option α) : Option α :=
  bif Nat.blt 0 n then bif decide (0 ≤ b) && decide (b ≤ (n : Int)) then bif decide (0 ≤ b) && decide (b ≤ (b.toNat : Int)) then bif decide (0 ≤ a) && decide (a ≤ (b.toNat : Int)) then
    (bif Nat.beq b.toNat a.toNat then cutB l 0 (b.toNat - a.toNat) K else cutB l (0 + a.toNat * 1) (b.toNat - a.toNat) K) else none else none else none else none
theorem cutT_in {α : Type} {n : Nat} {l : List Int} {a k : Nat} {K : List Int → Option α} (hn : n = l.length) (hs : n ≤ 1000) (hk : 0 < k) (h : a + k ≤ n) : cutT n l (a : Int) ((a + k : Nat) : Int) K = K ((l.drop a).take k) := by
  unfold cutT cutB
  have e1 : ((l.drop a).take k).length = k := by rw [List.length_take, List.length_drop]; omega
  rw [show Nat.blt 0 n = true by rw [Nat.blt_eq]; omega, show (decide ((0 : Int) ≤ ((a + k : Nat) : Int)) && decide (((a + k : Nat) : Int) ≤ (n : Int))) = true by simp; omega, Int.toNat_natCast, Int.toNat_natCast,
    show (decide ((0 : Int) ≤ ((a + k : Nat) : Int)) && decide (((a + k : Nat) : Int) ≤ ((a + k : Nat) : Int))) = true by simp; omega, show (decide ((0 : Int) ≤ (a : Int)) && decide ((a : Int) ≤ ((a + k : Nat) : Int))) = true by simp; omega,
    show Nat.beq (a + k) a = false from beqF (by omega), Nat.mul_one, show 0 + a = a from Nat.zero_add a, show a + k - a = k by omega, show Nat.ble (a + k) l.length = true from Nat.ble_eq_true_of_le (by omega), e1,
    show Nat.beq k 0 = false from beqF (by omega), show smallN (0 + k) = true from Nat.ble_eq_true_of_le (by omega)]
  rfl
def psT (c : Cf) (n : Nat) (l : List Int) (o w : Bool) : Option (Value × List Go.Sx.Blk) :=
  bif !rightC c then some (.slice none 0 0, [.ints o w l]) else bif (n : Int) != cntC c then some (.slice none 0 0, [.ints o w l]) else
    cutT n l (pinC c 0) (w64 (pinC c 0 + c.w)) fun xs => some (vecOf 1 (0 + xs.length), [.ints o w l, .ints true true xs])
theorem ps_tree1 (s st wt u : Int) (n q : Nat) (l : List Int) (o w : Bool) : (callV cp0Env 40 31 [Cf.val ⟨1, s, st, wt, u⟩, wv n q] [.ints o w l]).get = psT ⟨1, s, st, wt, u⟩ n l o w := by kernel_rfl
theorem ps_tree2 (s st wt u : Int) (n q : Nat) (l : List Int) (o w : Bool) : (callV cp0Env 40 31 [Cf.val ⟨2, s, st, wt, u⟩, wv n q] [.ints o w l]).get = psT ⟨2, s, st, wt, u⟩ n l o w := by kernel_rfl
theorem ps_tree3 (s st wt u : Int) (n q : Nat) (l : List Int) (o w : Bool) : (callV cp0Env 40 31 [Cf.val ⟨3, s, st, wt, u⟩, wv n q] [.ints o w l]).get = psT ⟨3, s, st, wt, u⟩ n l o w := by kernel_rfl
theorem ps_tree4 (s st wt u : Int) (n q : Nat) (l : List Int) (o w : Bool) : (callV cp0Env 40 31 [Cf.val ⟨4, s, st, wt, u⟩, wv n q] [.ints o w l]).get = psT ⟨4, s, st, wt, u⟩ n l o w := by kernel_rfl
theorem ps_tree5 (s st wt u : Int) (n q : Nat) (l : List Int) (o w : Bool) : (callV cp0Env 40 31 [Cf.val ⟨5, s, st, wt, u⟩, wv n q] [.ints o w l]).get = psT ⟨5, s, st, wt, u⟩ n l o w := by kernel_rfl
theorem ps_tree6 (s st wt u : Int) (n q : Nat) (l : List Int) (o w : Bool) : (callV cp0Env 40 31 [Cf.val ⟨6, s, st, wt, u⟩, wv n q] [.ints o w l]).get = psT ⟨6, s, st, wt, u⟩ n l o w := by kernel_rfl
theorem ps_tree7 (s st wt u : Int) (n q : Nat) (l : List Int) (o w : Bool) : (callV cp0Env 40 31 [Cf.val ⟨7, s, st, wt, u⟩, wv n q] [.ints o w l]).get = psT ⟨7, s, st, wt, u⟩ n l o w := by kernel_rfl
theorem ps_tree8 (s st wt u : Int) (n q : Nat) (l : List Int) (o w : Bool) : (callV cp0Env 40 31 [Cf.val ⟨8, s, st, wt, u⟩, wv n q] [.ints o w l]).get = psT ⟨8, s, st, wt, u⟩ n l o w := by kernel_rfl
theorem ps_tree (c : Cf) (h : RightC c) (n q : Nat) (l : List Int) (o w : Bool) : (callV cp0Env 40 31 [c.val, wv n q] [.ints o w l]).get = psT c n l o w := by
  obtain ⟨cw, s, st, wt, u⟩ := c
  rcases upto8 h.w with e | e | e | e | e | e | e | e <;> (simp only at e; subst e)
  · exact ps_tree1 s st wt u n q l o w
  · exact ps_tree2 s st wt u n q l o w
  · exact ps_tree3 s st wt u n q l o w
  · exact ps_tree4 s st wt u n q l o w
  · exact ps_tree5 s st wt u n q l o w
  · exact ps_tree6 s st wt u n q l o w
  · exact ps_tree7 s st wt u n q l o w
  · exact ps_tree8 s st wt u n q l o w
def pinsPO : Orc := fun args lh => match args, lh with
  | [cf, .slice (some ⟨0, 0, some 2⟩) n _], [.ints o w l] => confM cf fun cf => .br (rightC cf && lenOK n l) (.br (Nat.beq n (cntN cf)) (.ret (vecOf 1 cf.w.toNat, [.ints o w l, .ints true true (pinsC cf l)])) (.ret (.slice none 0 0, [.ints o w l]))) .bad
  | _, _ => .bad
theorem pinsP_eq {c : Cf} (h : RightC c) {n : Nat} {l : List Int} (hl : n = l.length) (o w : Bool) : psT c n l o w = bif Nat.beq n (cntN c) then some (vecOf 1 c.w.toNat, [.ints o w l, .ints true true (pinsC c l)]) else some (.slice none 0 0, [.ints o w l]) := by
  have h1 := h.w
  have h2 := h.s
  have hN := h.cntN
  unfold psT
  rw [show rightC c = true from rightC_iff.2 h, h.cntC]
  by_cases hn : n = cntN c
  · have e : w64 (pinC c 0 + c.w) = ((3 + c.w.toNat : Nat) : Int) := by rw [h.pinC (i := 0) (by omega) (by omega), w64_in ⟨by omega, by omega⟩]; omega
    rw [e, show pinC c 0 = ((3 : Nat) : Int) by rw [h.pinC (i := 0) (by omega) (by omega)]; rfl, cutT_in hl (by omega) (by omega) (by omega), show ((n : Int) != 3 + 2 * c.w + c.s) = false by simp; omega, show Nat.beq n (cntN c) = true by rw [hn]; exact Nat.beq_refl _]
    have e1 : ((l.drop 3).take c.w.toNat).length = c.w.toNat := by rw [List.length_take, List.length_drop]; omega
    rw [e1, Nat.zero_add]; rfl
  · rw [show ((n : Int) != 3 + 2 * c.w + c.s) = true by simp; omega, show Nat.beq n (cntN c) = false from beqF hn]; rfl
theorem pinsP_sound : Sound Tryd.prog Tab 31 pinsPO := by
  refine Sound.of_run ⟨Tryd.func31, by kernel_rfl, by kernel_rfl⟩ rfl rfl cp0Env_ok 40 fun args lh r hr => ?_
  unfold pinsPO at hr
  split at hr
  · rename_i cf n q o w l
    obtain ⟨c, rfl, hr2⟩ := confM_some hr
    clear hr
    rcases M.get_br_some hr2 with ⟨hc, hr3⟩ | ⟨_, hr3⟩
    · simp only [Bool.and_eq_true] at hc
      refine (ps_tree c (rightC_iff.1 hc.1) n q l o w).trans ?_
      rw [pinsP_eq (rightC_iff.1 hc.1) (lenOK_iff.1 hc.2).1]
      rcases M.get_br_some hr3 with ⟨h, hr4⟩ | ⟨h, hr4⟩
      · rw [h]; exact hr4
      · rw [h]; exact hr4
    · cases hr3
  · cases hr
/-! ### Slots -/
noncomputable def cpBody : Code := Tryd.f29.body.getD .skip
noncomputable def cpRound : Code := lpB (blkAt 0 cpBody)
theorem cp_loop : blkAt 0 cpBody = .loop cpRound := by kernel_rfl
abbrev cpV (v a : Value) (m i : Int) : List Value := [v, a, .int .i64 m, .int .i64 i]
def cpD (k : List Int) (i : Nat) : Slt := slt0 (decS (k.getD i 0))
def cpX (k : List Int) (m n : Nat) (i : Int) (K : Slt → Option (Exit × List Value × List Go.Sx.Blk)) (E : Option (Exit × List Value × List Go.Sx.Blk)) : Option (Exit × List Value × List Go.Sx.Blk) :=
  bif decide (i < (m : Int)) then bif inRange i n then bif Nat.blt i.toNat k.length then K (slt0 (decS (k.getD i.toNat 0))) else none else none else E
theorem cp_treeN (o w : Bool) (l : List Int) :
    (roundV cp0Env 30 noLps 33 [16, 17, 18, 5] 1 cpRound (unpack 33 [16, 17, 18, 5] [.slice none 0 0, .int .i64 0, .int .i64 0, .slice none 0 0] [.ints o w l])).get = some (.exit 0, [.slice none 0 0, .int .i64 0, .int .i64 0, .slice none 0 0], [.ints o w l]) := by kernel_rfl
theorem cp_tree0 (o w : Bool) (l k : List Int) (m n : Nat) (i : Int) :
    (roundV cp0Env 30 noLps 33 [16, 17, 18, 5] 1 cpRound (unpack 33 [16, 17, 18, 5] [vecOf 1 n, .int .i64 m, .int .i64 i, .slice none 0 0] [.ints o w l, .ints true true k])).get =
    cpX k m n i (fun s => some (.normal, [vecOf 1 n, .int .i64 m, .int .i64 (w64 (i + 1)), vecOf 2 1], [.ints o w l, .ints true true k, .rows true true 9 1 (rowOf (sltCells s))])) (some (.exit 0, [vecOf 1 n, .int .i64 m, .int .i64 i, .slice none 0 0], [.ints o w l, .ints true true k])) := by kernel_rfl
theorem cp_tree1 (o w : Bool) (l k : List Int) (m n j : Nat) (R : Nat → Slt) (i : Int) :
    (roundV cp0Env 30 noLps 33 [16, 17, 18, 5] 1 cpRound (unpack 33 [16, 17, 18, 5] [vecOf 1 n, .int .i64 m, .int .i64 i, vecOf 2 j] [.ints o w l, .ints true true k, .rows true true 9 j (slR R)])).get =
    cpX k m n i (fun s => bif Nat.beq j j then bif smallN (j + 1) && true then some (.normal, [vecOf 1 n, .int .i64 m, .int .i64 (w64 (i + 1)), vecOf 2 (j + 1)], [.ints o w l, .ints true true k, .rows true true 9 (j + 1) (moreRow j (sltCells s) (slR R))]) else none else none) (some (.exit 0, [vecOf 1 n, .int .i64 m, .int .i64 i, vecOf 2 j], [.ints o w l, .ints true true k, .rows true true 9 j (slR R)])) := by kernel_rfl
theorem cpX_in {k : List Int} {i : Nat} (h : i < k.length) {K : Slt → Option (Exit × List Value × List Go.Sx.Blk)} {E : Option (Exit × List Value × List Go.Sx.Blk)} : cpX k k.length k.length i K E = K (cpD k i) := by
  unfold cpX cpD
  rw [decide_eq_true (by omega), show inRange (i : Int) k.length = true by unfold inRange; simp; omega, show Nat.blt ((i : Nat) : Int).toNat k.length = true by rw [Nat.blt_eq]; omega, Int.toNat_natCast]; rfl
theorem cpX_out {k : List Int} {m n : Nat} {i : Int} (h : ¬ i < (m : Int)) {K : Slt → Option (Exit × List Value × List Go.Sx.Blk)} {E : Option (Exit × List Value × List Go.Sx.Blk)} : cpX k m n i K E = E := by
  unfold cpX; rw [decide_eq_false h]; rfl
theorem cp_rounds {X : Nat → Prop} {w0 : World} (hE : EnvOK cp0Env X w0) (o w : Bool) (l k : List Int) (hk : k.length ≤ 1000) : ∀ (m i : Nat), 1 ≤ i → i + m = k.length →
    LoopRunsB Tryd.prog X w0 0 1 cpRound (unpack 33 [16, 17, 18, 5] [vecOf 1 k.length, .int .i64 k.length, .int .i64 i, vecOf 2 i] [.ints o w l, .ints true true k, .rows true true 9 i (slR (cpD k))]) (.exit 0) (unpack 33 [16, 17, 18, 5] [vecOf 1 k.length, .int .i64 k.length, .int .i64 k.length, vecOf 2 k.length] [.ints o w l, .ints true true k, .rows true true 9 k.length (slR (cpD k))])
  | 0, i, h1, hi => by
    have ht := cp_tree1 o w l k k.length k.length i (cpD k) i
    rw [cpX_out (by omega)] at ht
    obtain rfl : i = k.length := by omega
    exact LoopRunsB.exit (round_runs hE (noLps_ok _) ht (Nat.zero_le _) (show 1 ≤ 3 by decide)) (by simp)
  | m + 1, i, h1, hi => by
    have ht := cp_tree1 o w l k k.length k.length i (cpD k) i
    rw [cpX_in (by omega), Nat.beq_refl, show smallN (i + 1) = true from Nat.ble_eq_true_of_le (by omega), w64_succ (by omega), slR_more] at ht
    exact LoopRunsB.step (round_runs hE (noLps_ok _) ht (Nat.zero_le _) (show 1 ≤ 3 by decide)) (cp_rounds hE o w l k hk m (i + 1) (by omega) (by omega))
theorem cp_loopY {X : Nat → Prop} {w0 : World} (hE : EnvOK cp0Env X w0) (o w : Bool) (l k : List Int) (hk : k.length ≤ 1000) (h0 : 0 < k.length) :
    LoopRunsB Tryd.prog X w0 0 1 cpRound (unpack 33 [16, 17, 18, 5] [vecOf 1 k.length, .int .i64 k.length, .int .i64 0, .slice none 0 0] [.ints o w l, .ints true true k]) (.exit 0) (unpack 33 [16, 17, 18, 5] [vecOf 1 k.length, .int .i64 k.length, .int .i64 k.length, vecOf 2 k.length] [.ints o w l, .ints true true k, .rows true true 9 k.length (slR (cpD k))]) := by
  have ht := cp_tree0 o w l k k.length k.length ((0 : Nat) : Int)
  rw [cpX_in h0, w64_succ (by omega)] at ht
  have hr := (round_runs hE (noLps_ok _) ht (Nat.zero_le _) (show 1 ≤ 2 by decide)).rows 2 (o := true) (R := rowOf (sltCells (cpD k 0))) (slR (cpD k)) rfl (slR_first (cpD k)) (by decide)
  exact LoopRunsB.step hr (cp_rounds hE o w l k hk (k.length - 1) 1 (Nat.le_refl _) (by omega))
def cpOK (n m : Nat) (k : List Int) : Bool := okM n k && Nat.beq n m && Nat.ble n 1000
def cpF (vals : List Value) (lh : List Go.Sx.Blk) : M (Exit × List Value × List Go.Sx.Blk) :=
  match vals, lh with
  | [.slice (some ⟨1, 0, some 1⟩) n 0, .int .i64 (.ofNat m), .int .i64 0, .slice none 0 0], [.ints o w l, .ints true true k] => .br (cpOK n m k) (.ret (.normal, [vecOf 1 n], [.ints o w l, .rows true true 9 n (slR (cpD k))])) .bad
  | [.slice none 0 0, .int .i64 0, .int .i64 0, .slice none 0 0], [.ints o w l] => .ret (.normal, [.slice none 0 0], [.ints o w l])
  | _, _ => .bad
theorem cp_norm (o w : Bool) (l k : List Int) (n m : Nat) (i : Int) (D : Nat → Slt) : (normV 33 [5] 1 (unpack 33 [16, 17, 18, 5] [vecOf 1 n, .int .i64 m, .int .i64 i, vecOf 2 n] [.ints o w l, .ints true true k, .rows true true 9 n (slR D)])).get = some ([vecOf 1 n], [.ints o w l, .rows true true 9 n (slR D)]) := by kernel_rfl
theorem cp_normN (o w : Bool) (l : List Int) : (normV 33 [5] 1 (unpack 33 [16, 17, 18, 5] [.slice none 0 0, .int .i64 0, .int .i64 0, .slice none 0 0] [.ints o w l])).get = some ([.slice none 0 0], [.ints o w l]) := by kernel_rfl
theorem cp_lp : LpSound Tryd.prog Tab 29 0 (loopV 33 [16, 17, 18, 5] [5] cpF 1) := by
  refine LpSound.of_loop (c := cpBody) Tryd.func29 (by kernel_rfl) (by kernel_rfl) fun X w0 h0 hB hT vals lh e vals' lh' hF hb => ?_
  unfold cpF at hF
  split at hF
  · rename_i n m o w l k
    rcases M.get_br_some hF with ⟨hc, hF2⟩ | ⟨_, hF2⟩
    · clear hF
      unfold cpOK at hc
      simp only [Bool.and_eq_true] at hc
      obtain ⟨⟨hc1, hc2⟩, hc3⟩ := hc
      obtain ⟨g1, g2, g3⟩ := okM_iff.1 hc1
      obtain rfl := Nat.eq_of_beq_eq_true hc2
      have hn := Nat.le_of_ble_eq_true hc3
      subst g1
      simp only [M.get_ret, Option.some.injEq, Prod.mk.injEq] at hF2
      obtain ⟨rfl, rfl, rfl⟩ := hF2
      have hl := cp_loopY (cp0Env_ok X w0 h0 hB hT) o w l k hn g2
      rw [cp_loop]
      exact hl.runs.block_exit.norm (cp_norm o w l k k.length k.length _ _) (Nat.zero_le _)
    · cases hF2
  · rename_i o w l
    simp only [M.get_ret, Option.some.injEq, Prod.mk.injEq] at hF
    obtain ⟨rfl, rfl, rfl⟩ := hF
    rw [cp_loop]
    exact (LoopRunsB.exit (round_runs (cp0Env_ok X w0 h0 hB hT) (noLps_ok _) (cp_treeN o w l) (Nat.zero_le _) (Nat.le_refl _)) (by simp)).runs.block_exit.norm (cp_normN o w l) (Nat.zero_le _)
  · cases hF
noncomputable def cpEnv : Env := mkEnv Tryd.prog cpFns [] aw1 [(29, 0, loopV 33 [16, 17, 18, 5] [5] cpF 1)]
theorem cpEnv_ok (X : Nat → Prop) (w0 : World) (h0 : X 0) (hB : Bnd X w0) (hT : Tab w0) : EnvOK cpEnv X w0 := mkEnv_ok (fun e he => by cases he) (by kernel_rfl) cpFns_ok aw1_ok (lpSounds_cons cp_lp lpSounds_nil) h0 hB hT
def slK (c : Cf) (l : List Int) : List Int := (l.drop (3 + 2 * c.w.toNat)).take c.s.toNat
def ssT (c : Cf) (n : Nat) (l : List Int) (o w : Bool) : Option (Value × List Go.Sx.Blk) :=
  bif !rightC c then some (.slice none 0 0, [.ints o w l]) else bif (n : Int) != cntC c then some (.slice none 0 0, [.ints o w l]) else
    cutT n l (cellC c 0) (w64 (cellC c 0 + c.s)) fun xs => bif cpOK (0 + xs.length) (0 + xs.length) xs then some (vecOf 1 (0 + xs.length), [.ints o w l, .rows true true 9 (0 + xs.length) (slR (cpD xs))]) else none
theorem ss_tree1_1 (st wt u : Int) (n q : Nat) (l : List Int) (o w : Bool) : (callV cpEnv 40 29 [Cf.val ⟨1, 1, st, wt, u⟩, wv n q] [.ints o w l]).get = ssT ⟨1, 1, st, wt, u⟩ n l o w := by kernel_rfl
theorem ss_tree1_2 (st wt u : Int) (n q : Nat) (l : List Int) (o w : Bool) : (callV cpEnv 40 29 [Cf.val ⟨1, 2, st, wt, u⟩, wv n q] [.ints o w l]).get = ssT ⟨1, 2, st, wt, u⟩ n l o w := by kernel_rfl
theorem ss_tree1_3 (st wt u : Int) (n q : Nat) (l : List Int) (o w : Bool) : (callV cpEnv 40 29 [Cf.val ⟨1, 3, st, wt, u⟩, wv n q] [.ints o w l]).get = ssT ⟨1, 3, st, wt, u⟩ n l o w := by kernel_rfl
theorem ss_tree1_4 (st wt u : Int) (n q : Nat) (l : List Int) (o w : Bool) : (callV cpEnv 40 29 [Cf.val ⟨1, 4, st, wt, u⟩, wv n q] [.ints o w l]).get = ssT ⟨1, 4, st, wt, u⟩ n l o w := by kernel_rfl
theorem ss_tree1_5 (st wt u : Int) (n q : Nat) (l : List Int) (o w : Bool) : (callV cpEnv 40 29 [Cf.val ⟨1, 5, st, wt, u⟩, wv n q] [.ints o w l]).get = ssT ⟨1, 5, st, wt, u⟩ n l o w := by kernel_rfl
theorem ss_tree1_6 (st wt u : Int) (n q : Nat) (l : List Int) (o w : Bool) : (callV cpEnv 40 29 [Cf.val ⟨1, 6, st, wt, u⟩, wv n q] [.ints o w l]).get = ssT ⟨1, 6, st, wt, u⟩ n l o w := by kernel_rfl
theorem ss_tree1_7 (st wt u : Int) (n q : Nat) (l : List Int) (o w : Bool) : (callV cpEnv 40 29 [Cf.val ⟨1, 7, st, wt, u⟩, wv n q] [.ints o w l]).get = ssT ⟨1, 7, st, wt, u⟩ n l o w := by kernel_rfl
theorem ss_tree1_8 (st wt u : Int) (n q : Nat) (l : List Int) (o w : Bool) : (callV cpEnv 40 29 [Cf.val ⟨1, 8, st, wt, u⟩, wv n q] [.ints o w l]).get = ssT ⟨1, 8, st, wt, u⟩ n l o w := by kernel_rfl
theorem ss_tree1_9 (st wt u : Int) (n q : Nat) (l : List Int) (o w : Bool) : (callV cpEnv 40 29 [Cf.val ⟨1, 9, st, wt, u⟩, wv n q] [.ints o w l]).get = ssT ⟨1, 9, st, wt, u⟩ n l o w := by kernel_rfl
theorem ss_tree1_10 (st wt u : Int) (n q : Nat) (l : List Int) (o w : Bool) : (callV cpEnv 40 29 [Cf.val ⟨1, 10, st, wt, u⟩, wv n q] [.ints o w l]).get = ssT ⟨1, 10, st, wt, u⟩ n l o w := by kernel_rfl
theorem ss_tree1_11 (st wt u : Int) (n q : Nat) (l : List Int) (o w : Bool) : (callV cpEnv 40 29 [Cf.val ⟨1, 11, st, wt, u⟩, wv n q] [.ints o w l]).get = ssT ⟨1, 11, st, wt, u⟩ n l o w := by kernel_rfl
theorem ss_tree1_12 (st wt u : Int) (n q : Nat) (l : List Int) (o w : Bool) : (callV cpEnv 40 29 [Cf.val ⟨1, 12, st, wt, u⟩, wv n q] [.ints o w l]).get = ssT ⟨1, 12, st, wt, u⟩ n l o w := by kernel_rfl
theorem ss_tree1_13 (st wt u : Int) (n q : Nat) (l : List Int) (o w : Bool) : (callV cpEnv 40 29 [Cf.val ⟨1, 13, st, wt, u⟩, wv n q] [.ints o w l]).get = ssT ⟨1, 13, st, wt, u⟩ n l o w := by kernel_rfl
theorem ss_tree1_14 (st wt u : Int) (n q : Nat) (l : List Int) (o w : Bool) : (callV cpEnv 40 29 [Cf.val ⟨1, 14, st, wt, u⟩, wv n q] [.ints o w l]).get = ssT ⟨1, 14, st, wt, u⟩ n l o w := by kernel_rfl
theorem ss_tree1_15 (st wt u : Int) (n q : Nat) (l : List Int) (o w : Bool) : (callV cpEnv 40 29 [Cf.val ⟨1, 15, st, wt, u⟩, wv n q] [.ints o w l]).get = ssT ⟨1, 15, st, wt, u⟩ n l o w := by kernel_rfl
theorem ss_tree1_16 (st wt u : Int) (n q : Nat) (l : List Int) (o w : Bool) : (callV cpEnv 40 29 [Cf.val ⟨1, 16, st, wt, u⟩, wv n q] [.ints o w l]).get = ssT ⟨1, 16, st, wt, u⟩ n l o w := by kernel_rfl
theorem ss_tree2_1 (st wt u : Int) (n q : Nat) (l : List Int) (o w : Bool) : (callV cpEnv 40 29 [Cf.val ⟨2, 1, st, wt, u⟩, wv n q] [.ints o w l]).get = ssT ⟨2, 1, st, wt, u⟩ n l o w := by kernel_rfl
theorem ss_tree2_2 (st wt u : Int) (n q : Nat) (l : List Int) (o w : Bool) : (callV cpEnv 40 29 [Cf.val ⟨2, 2, st, wt, u⟩, wv n q] [.ints o w l]).get = ssT ⟨2, 2, st, wt, u⟩ n l o w := by kernel_rfl
theorem ss_tree2_3 (st wt u : Int) (n q : Nat) (l : List Int) (o w : Bool) : (callV cpEnv 40 29 [Cf.val ⟨2, 3, st, wt, u⟩, wv n q] [.ints o w l]).get = ssT ⟨2, 3, st, wt, u⟩ n l o w := by kernel_rfl
theorem ss_tree2_4 (st wt u : Int) (n q : Nat) (l : List Int) (o w : Bool) : (callV cpEnv 40 29 [Cf.val ⟨2, 4, st, wt, u⟩, wv n q] [.ints o w l]).get = ssT ⟨2, 4, st, wt, u⟩ n l o w := by kernel_rfl
theorem ss_tree2_5 (st wt u : Int) (n q : Nat) (l : List Int) (o w : Bool) : (callV cpEnv 40 29 [Cf.val ⟨2, 5, st, wt, u⟩, wv n q] [.ints o w l]).get = ssT ⟨2, 5, st, wt, u⟩ n l o w := by kernel_rfl
theorem ss_tree2_6 (st wt u : Int) (n q : Nat) (l : List Int) (o w : Bool) : (callV cpEnv 40 29 [Cf.val ⟨2, 6, st, wt, u⟩, wv n q] [.ints o w l]).get = ssT ⟨2, 6, st, wt, u⟩ n l o w := by kernel_rfl
theorem ss_tree2_7 (st wt u : Int) (n q : Nat) (l : List Int) (o w : Bool) : (callV cpEnv 40 29 [Cf.val ⟨2, 7, st, wt, u⟩, wv n q] [.ints o w l]).get = ssT ⟨2, 7, st, wt, u⟩ n l o w := by kernel_rfl
theorem ss_tree2_8 (st wt u : Int) (n q : Nat) (l : List Int) (o w : Bool) : (callV cpEnv 40 29 [Cf.val ⟨2, 8, st, wt, u⟩, wv n q] [.ints o w l]).get = ssT ⟨2, 8, st, wt, u⟩ n l o w := by kernel_rfl
theorem ss_tree2_9 (st wt u : Int) (n q : Nat) (l : List Int) (o w : Bool) : (callV cpEnv 40 29 [Cf.val ⟨2, 9, st, wt, u⟩, wv n q] [.ints o w l]).get = ssT ⟨2, 9, st, wt, u⟩ n l o w := by kernel_rfl
theorem ss_tree2_10 (st wt u : Int) (n q : Nat) (l : List Int) (o w : Bool) : (callV cpEnv 40 29 [Cf.val ⟨2, 10, st, wt, u⟩, wv n q] [.ints o w l]).get = ssT ⟨2, 10, st, wt, u⟩ n l o w := by kernel_rfl
theorem ss_tree2_11 (st wt u : Int) (n q : Nat) (l : List Int) (o w : Bool) : (callV cpEnv 40 29 [Cf.val ⟨2, 11, st, wt, u⟩, wv n q] [.ints o w l]).get = ssT ⟨2, 11, st, wt, u⟩ n l o w := by kernel_rfl
theorem ss_tree2_12 (st wt u : Int) (n q : Nat) (l : List Int) (o w : Bool) : (callV cpEnv 40 29 [Cf.val ⟨2, 12, st, wt, u⟩, wv n q] [.ints o w l]).get = ssT ⟨2, 12, st, wt, u⟩ n l o w := by kernel_rfl
theorem ss_tree2_13 (st wt u : Int) (n q : Nat) (l : List Int) (o w : Bool) : (callV cpEnv 40 29 [Cf.val ⟨2, 13, st, wt, u⟩, wv n q] [.ints o w l]).get = ssT ⟨2, 13, st, wt, u⟩ n l o w := by kernel_rfl
theorem ss_tree2_14 (st wt u : Int) (n q : Nat) (l : List Int) (o w : Bool) : (callV cpEnv 40 29 [Cf.val ⟨2, 14, st, wt, u⟩, wv n q] [.ints o w l]).get = ssT ⟨2, 14, st, wt, u⟩ n l o w := by kernel_rfl
theorem ss_tree2_15 (st wt u : Int) (n q : Nat) (l : List Int) (o w : Bool) : (callV cpEnv 40 29 [Cf.val ⟨2, 15, st, wt, u⟩, wv n q] [.ints o w l]).get = ssT ⟨2, 15, st, wt, u⟩ n l o w := by kernel_rfl
theorem ss_tree2_16 (st wt u : Int) (n q : Nat) (l : List Int) (o w : Bool) : (callV cpEnv 40 29 [Cf.val ⟨2, 16, st, wt, u⟩, wv n q] [.ints o w l]).get = ssT ⟨2, 16, st, wt, u⟩ n l o w := by kernel_rfl
theorem ss_tree3_1 (st wt u : Int) (n q : Nat) (l : List Int) (o w : Bool) : (callV cpEnv 40 29 [Cf.val ⟨3, 1, st, wt, u⟩, wv n q] [.ints o w l]).get = ssT ⟨3, 1, st, wt, u⟩ n l o w := by kernel_rfl
theorem ss_tree3_2 (st wt u : Int) (n q : Nat) (l : List Int) (o w : Bool) : (callV cpEnv 40 29 [Cf.val ⟨3, 2, st, wt, u⟩, wv n q] [.ints o w l]).get = ssT ⟨3, 2, st, wt, u⟩ n l o w := by kernel_rfl
theorem ss_tree3_3 (st wt u : Int) (n q : Nat) (l : List Int) (o w : Bool) : (callV cpEnv 40 29 [Cf.val ⟨3, 3, st, wt, u⟩, wv n q] [.ints o w l]).get = ssT ⟨3, 3, st, wt, u⟩ n l o w := by kernel_rfl
theorem ss_tree3_4 (st wt u : Int) (n q : Nat) (l : List Int) (o w : Bool) : (callV cpEnv 40 29 [Cf.val ⟨3, 4, st, wt, u⟩, wv n q] [.ints o w l]).get = ssT ⟨3, 4, st, wt, u⟩ n l o w := by kernel_rfl
theorem ss_tree3_5 (st wt u : Int) (n q : Nat) (l : List Int) (o w : Bool) : (callV cpEnv 40 29 [Cf.val ⟨3, 5, st, wt, u⟩, wv n q] [.ints o w l]).get = ssT ⟨3, 5, st, wt, u⟩ n l o w := by kernel_rfl
theorem ss_tree3_6 (st wt u : Int) (n q : Nat) (l : List Int) (o w : Bool) : (callV cpEnv 40 29 [Cf.val ⟨3, 6, st, wt, u⟩, wv n q] [.ints o w l]).get = ssT ⟨3, 6, st, wt, u⟩ n l o w := by kernel_rfl
theorem ss_tree3_7 (st wt u : Int) (n q : Nat) (l : List Int) (o w : Bool) : (callV cpEnv 40 29 [Cf.val ⟨3, 7, st, wt, u⟩, wv n q] [.ints o w l]).get = ssT ⟨3, 7, st, wt, u⟩ n l o w := by kernel_rfl
theorem ss_tree3_8 (st wt u : Int) (n q : Nat) (l : List Int) (o w : Bool) : (callV cpEnv 40 29 [Cf.val ⟨3, 8, st, wt, u⟩, wv n q] [.ints o w l]).get = ssT ⟨3, 8, st, wt, u⟩ n l o w := by kernel_rfl
theorem ss_tree3_9 (st wt u : Int) (n q : Nat) (l : List Int) (o w : Bool) : (callV cpEnv 40 29 [Cf.val ⟨3, 9, st, wt, u⟩, wv n q] [.ints o w l]).get = ssT ⟨3, 9, st, wt, u⟩ n l o w := by kernel_rfl
theorem ss_tree3_10 (st wt u : Int) (n q : Nat) (l : List Int) (o w : Bool) : (callV cpEnv 40 29 [Cf.val ⟨3, 10, st, wt, u⟩, wv n q] [.ints o w l]).get = ssT ⟨3, 10, st, wt, u⟩ n l o w := by kernel_rfl
theorem ss_tree3_11 (st wt u : Int) (n q : Nat) (l : List Int) (o w : Bool) : (callV cpEnv 40 29 [Cf.val ⟨3, 11, st, wt, u⟩, wv n q] [.ints o w l]).get = ssT ⟨3, 11, st, wt, u⟩ n l o w := by kernel_rfl
theorem ss_tree3_12 (st wt u : Int) (n q : Nat) (l : List Int) (o w : Bool) : (callV cpEnv 40 29 [Cf.val ⟨3, 12, st, wt, u⟩, wv n q] [.ints o w l]).get = ssT ⟨3, 12, st, wt, u⟩ n l o w := by kernel_rfl
theorem ss_tree3_13 (st wt u : Int) (n q : Nat) (l : List Int) (o w : Bool) : (callV cpEnv 40 29 [Cf.val ⟨3, 13, st, wt, u⟩, wv n q] [.ints o w l]).get = ssT ⟨3, 13, st, wt, u⟩ n l o w := by kernel_rfl
theorem ss_tree3_14 (st wt u : Int) (n q : Nat) (l : List Int) (o w : Bool) : (callV cpEnv 40 29 [Cf.val ⟨3, 14, st, wt, u⟩, wv n q] [.ints o w l]).get = ssT ⟨3, 14, st, wt, u⟩ n l o w := by kernel_rfl
theorem ss_tree3_15 (st wt u : Int) (n q : Nat) (l : List Int) (o w : Bool) : (callV cpEnv 40 29 [Cf.val ⟨3, 15, st, wt, u⟩, wv n q] [.ints o w l]).get = ssT ⟨3, 15, st, wt, u⟩ n l o w := by kernel_rfl
theorem ss_tree3_16 (st wt u : Int) (n q : Nat) (l : List Int) (o w : Bool) : (callV cpEnv 40 29 [Cf.val ⟨3, 16, st, wt, u⟩, wv n q] [.ints o w l]).get = ssT ⟨3, 16, st, wt, u⟩ n l o w := by kernel_rfl
theorem ss_tree4_1 (st wt u : Int) (n q : Nat) (l : List Int) (o w : Bool) : (callV cpEnv 40 29 [Cf.val ⟨4, 1, st, wt, u⟩, wv n q] [.ints o w l]).get = ssT ⟨4, 1, st, wt, u⟩ n l o w := by kernel_rfl
theorem ss_tree4_2 (st wt u : Int) (n q : Nat) (l : List Int) (o w : Bool) : (callV cpEnv 40 29 [Cf.val ⟨4, 2, st, wt, u⟩, wv n q] [.ints o w l]).get = ssT ⟨4, 2, st, wt, u⟩ n l o w := by kernel_rfl
theorem ss_tree4_3 (st wt u : Int) (n q : Nat) (l : List Int) (o w : Bool) : (callV cpEnv 40 29 [Cf.val ⟨4, 3, st, wt, u⟩, wv n q] [.ints o w l]).get = ssT ⟨4, 3, st, wt, u⟩ n l o w := by kernel_rfl
theorem ss_tree4_4 (st wt u : Int) (n q : Nat) (l : List Int) (o w : Bool) : (callV cpEnv 40 29 [Cf.val ⟨4, 4, st, wt, u⟩, wv n q] [.ints o w l]).get = ssT ⟨4, 4, st, wt, u⟩ n l o w := by kernel_rfl
theorem ss_tree4_5 (st wt u : Int) (n q : Nat) (l : List Int) (o w : Bool) : (callV cpEnv 40 29 [Cf.val ⟨4, 5, st, wt, u⟩, wv n q] [.ints o w l]).get = ssT ⟨4, 5, st, wt, u⟩ n l o w := by kernel_rfl
theorem ss_tree4_6 (st wt u : Int) (n q : Nat) (l : List Int) (o w : Bool) : (callV cpEnv 40 29 [Cf.val ⟨4, 6, st, wt, u⟩, wv n q] [.ints o w l]).get = ssT ⟨4, 6, st, wt, u⟩ n l o w := by kernel_rfl
theorem ss_tree4_7 (st wt u : Int) (n q : Nat) (l : List Int) (o w : Bool) : (callV cpEnv 40 29 [Cf.val ⟨4, 7, st, wt, u⟩, wv n q] [.ints o w l]).get = ssT ⟨4, 7, st, wt, u⟩ n l o w := by kernel_rfl
theorem ss_tree4_8 (st wt u : Int) (n q : Nat) (l : List Int) (o w : Bool) : (callV cpEnv 40 29 [Cf.val ⟨4, 8, st, wt, u⟩, wv n q] [.ints o w l]).get = ssT ⟨4, 8, st, wt, u⟩ n l o w := by kernel_rfl
theorem ss_tree4_9 (st wt u : Int) (n q : Nat) (l : List Int) (o w : Bool) : (callV cpEnv 40 29 [Cf.val ⟨4, 9, st, wt, u⟩, wv n q] [.ints o w l]).get = ssT ⟨4, 9, st, wt, u⟩ n l o w := by kernel_rfl
theorem ss_tree4_10 (st wt u : Int) (n q : Nat) (l : List Int) (o w : Bool) : (callV cpEnv 40 29 [Cf.val ⟨4, 10, st, wt, u⟩, wv n q] [.ints o w l]).get = ssT ⟨4, 10, st, wt, u⟩ n l o w := by kernel_rfl
theorem ss_tree4_11 (st wt u : Int) (n q : Nat) (l : List Int) (o w : Bool) : (callV cpEnv 40 29 [Cf.val ⟨4, 11, st, wt, u⟩, wv n q] [.ints o w l]).get = ssT ⟨4, 11, st, wt, u⟩ n l o w := by kernel_rfl
theorem ss_tree4_12 (st wt u : Int) (n q : Nat) (l : List Int) (o w : Bool) : (callV cpEnv 40 29 [Cf.val ⟨4, 12, st, wt, u⟩, wv n q] [.ints o w l]).get = ssT ⟨4, 12, st, wt, u⟩ n l o w := by kernel_rfl
theorem ss_tree4_13 (st wt u : Int) (n q : Nat) (l : List Int) (o w : Bool) : (callV cpEnv 40 29 [Cf.val ⟨4, 13, st, wt, u⟩, wv n q] [.ints o w l]).get = ssT ⟨4, 13, st, wt, u⟩ n l o w := by kernel_rfl
theorem ss_tree4_14 (st wt u : Int) (n q : Nat) (l : List Int) (o w : Bool) : (callV cpEnv 40 29 [Cf.val ⟨4, 14, st, wt, u⟩, wv n q] [.ints o w l]).get = ssT ⟨4, 14, st, wt, u⟩ n l o w := by kernel_rfl
theorem ss_tree4_15 (st wt u : Int) (n q : Nat) (l : List Int) (o w : Bool) : (callV cpEnv 40 29 [Cf.val ⟨4, 15, st, wt, u⟩, wv n q] [.ints o w l]).get = ssT ⟨4, 15, st, wt, u⟩ n l o w := by kernel_rfl
theorem ss_tree4_16 (st wt u : Int) (n q : Nat) (l : List Int) (o w : Bool) : (callV cpEnv 40 29 [Cf.val ⟨4, 16, st, wt, u⟩, wv n q] [.ints o w l]).get = ssT ⟨4, 16, st, wt, u⟩ n l o w := by kernel_rfl
theorem ss_tree5_1 (st wt u : Int) (n q : Nat) (l : List Int) (o w : Bool) : (callV cpEnv 40 29 [Cf.val ⟨5, 1, st, wt, u⟩, wv n q] [.ints o w l]).get = ssT ⟨5, 1, st, wt, u⟩ n l o w := by kernel_rfl
theorem ss_tree5_2 (st wt u : Int) (n q : Nat) (l : List Int) (o w : Bool) : (callV cpEnv 40 29 [Cf.val ⟨5, 2, st, wt, u⟩, wv n q] [.ints o w l]).get = ssT ⟨5, 2, st, wt, u⟩ n l o w := by kernel_rfl
theorem ss_tree5_3 (st wt u : Int) (n q : Nat) (l : List Int) (o w : Bool) : (callV cpEnv 40 29 [Cf.val ⟨5, 3, st, wt, u⟩, wv n q] [.ints o w l]).get = ssT ⟨5, 3, st, wt, u⟩ n l o w := by kernel_rfl
theorem ss_tree5_4 (st wt u : Int) (n q : Nat) (l : List Int) (o w : Bool) : (callV cpEnv 40 29 [Cf.val ⟨5, 4, st, wt, u⟩, wv n q] [.ints o w l]).get = ssT ⟨5, 4, st, wt, u⟩ n l o w := by kernel_rfl
theorem ss_tree5_5 (st wt u : Int) (n q : Nat) (l : List Int) (o w : Bool) : (callV cpEnv 40 29 [Cf.val ⟨5, 5, st, wt, u⟩, wv n q] [.ints o w l]).get = ssT ⟨5, 5, st, wt, u⟩ n l o w := by kernel_rfl
theorem ss_tree5_6 (st wt u : Int) (n q : Nat) (l : List Int) (o w : Bool) : (callV cpEnv 40 29 [Cf.val ⟨5, 6, st, wt, u⟩, wv n q] [.ints o w l]).get = ssT ⟨5, 6, st, wt, u⟩ n l o w := by kernel_rfl
theorem ss_tree5_7 (st wt u : Int) (n q : Nat) (l : List Int) (o w : Bool) : (callV cpEnv 40 29 [Cf.val ⟨5, 7, st, wt, u⟩, wv n q] [.ints o w l]).get = ssT ⟨5, 7, st, wt, u⟩ n l o w := by kernel_rfl
theorem ss_tree5_8 (st wt u : Int) (n q : Nat) (l : List Int) (o w : Bool) : (callV cpEnv 40 29 [Cf.val ⟨5, 8, st, wt, u⟩, wv n q] [.ints o w l]).get = ssT ⟨5, 8, st, wt, u⟩ n l o w := by kernel_rfl
theorem ss_tree5_9 (st wt u : Int) (n q : Nat) (l : List Int) (o w : Bool) : (callV cpEnv 40 29 [Cf.val ⟨5, 9, st, wt, u⟩, wv n q] [.ints o w l]).get = ssT ⟨5, 9, st, wt, u⟩ n l o w := by kernel_rfl
theorem ss_tree5_10 (st wt u : Int) (n q : Nat) (l : List Int) (o w : Bool) : (callV cpEnv 40 29 [Cf.val ⟨5, 10, st, wt, u⟩, wv n q] [.ints o w l]).get = ssT ⟨5, 10, st, wt, u⟩ n l o w := by kernel_rfl
theorem ss_tree5_11 (st wt u : Int) (n q : Nat) (l : List Int) (o w : Bool) : (callV cpEnv 40 29 [Cf.val ⟨5, 11, st, wt, u⟩, wv n q] [.ints o w l]).get = ssT ⟨5, 11, st, wt, u⟩ n l o w := by kernel_rfl
theorem ss_tree5_12 (st wt u : Int) (n q : Nat) (l : List Int) (o w : Bool) : (callV cpEnv 40 29 [Cf.val ⟨5, 12, st, wt, u⟩, wv n q] [.ints o w l]).get = ssT ⟨5, 12, st, wt, u⟩ n l o w := by kernel_rfl
theorem ss_tree5_13 (st wt u : Int) (n q : Nat) (l : List Int) (o w : Bool) : (callV cpEnv 40 29 [Cf.val ⟨5, 13, st, wt, u⟩, wv n q] [.ints o w l]).get = ssT ⟨5, 13, st, wt, u⟩ n l o w := by kernel_rfl
theorem ss_tree5_14 (st wt u : Int) (n q : Nat) (l : List Int) (o w : Bool) : (callV cpEnv 40 29 [Cf.val ⟨5, 14, st, wt, u⟩, wv n q] [.ints o w l]).get = ssT ⟨5, 14, st, wt, u⟩ n l o w := by kernel_rfl
theorem ss_tree5_15 (st wt u : Int) (n q : Nat) (l : List Int) (o w : Bool) : (callV cpEnv 40 29 [Cf.val ⟨5, 15, st, wt, u⟩, wv n q] [.ints o w l]).get = ssT ⟨5, 15, st, wt, u⟩ n l o w := by kernel_rfl
theorem ss_tree5_16 (st wt u : Int) (n q : Nat) (l : List Int) (o w : Bool) : (callV cpEnv 40 29 [Cf.val ⟨5, 16, st, wt, u⟩, wv n q] [.ints o w l]).get = ssT ⟨5, 16, st, wt, u⟩ n l o w := by kernel_rfl
theorem ss_tree6_1 (st wt u : Int) (n q : Nat) (l : List Int) (o w : Bool) : (callV cpEnv 40 29 [Cf.val ⟨6, 1, st, wt, u⟩, wv n q] [.ints o w l]).get = ssT ⟨6, 1, st, wt, u⟩ n l o w := by kernel_rfl
theorem ss_tree6_2 (st wt u : Int) (n q : Nat) (l : List Int) (o w : Bool) : (callV cpEnv 40 29 [Cf.val ⟨6, 2, st, wt, u⟩, wv n q] [.ints o w l]).get = ssT ⟨6, 2, st, wt, u⟩ n l o w := by kernel_rfl
theorem ss_tree6_3 (st wt u : Int) (n q : Nat) (l : List Int) (o w : Bool) : (callV cpEnv 40 29 [Cf.val ⟨6, 3, st, wt, u⟩, wv n q] [.ints o w l]).get = ssT ⟨6, 3, st, wt, u⟩ n l o w := by kernel_rfl
theorem ss_tree6_4 (st wt u : Int) (n q : Nat) (l : List Int) (o w : Bool) : (callV cpEnv 40 29 [Cf.val ⟨6, 4, st, wt, u⟩, wv n q] [.ints o w l]).get = ssT ⟨6, 4, st, wt, u⟩ n l o w := by kernel_rfl
theorem ss_tree6_5 (st wt u : Int) (n q : Nat) (l : List Int) (o w : Bool) : (callV cpEnv 40 29 [Cf.val ⟨6, 5, st, wt, u⟩, wv n q] [.ints o w l]).get = ssT ⟨6, 5, st, wt, u⟩ n l o w := by kernel_rfl
theorem ss_tree6_6 (st wt u : Int) (n q : Nat) (l : List Int) (o w : Bool) : (callV cpEnv 40 29 [Cf.val ⟨6, 6, st, wt, u⟩, wv n q] [.ints o w l]).get = ssT ⟨6, 6, st, wt, u⟩ n l o w := by kernel_rfl
theorem ss_tree6_7 (st wt u : Int) (n q : Nat) (l : List Int) (o w : Bool) : (callV cpEnv 40 29 [Cf.val ⟨6, 7, st, wt, u⟩, wv n q] [.ints o w l]).get = ssT ⟨6, 7, st, wt, u⟩ n l o w := by kernel_rfl
theorem ss_tree6_8 (st wt u : Int) (n q : Nat) (l : List Int) (o w : Bool) : (callV cpEnv 40 29 [Cf.val ⟨6, 8, st, wt, u⟩, wv n q] [.ints o w l]).get = ssT ⟨6, 8, st, wt, u⟩ n l o w := by kernel_rfl
theorem ss_tree6_9 (st wt u : Int) (n q : Nat) (l : List Int) (o w : Bool) : (callV cpEnv 40 29 [Cf.val ⟨6, 9, st, wt, u⟩, wv n q] [.ints o w l]).get = ssT ⟨6, 9, st, wt, u⟩ n l o w := by kernel_rfl
theorem ss_tree6_10 (st wt u : Int) (n q : Nat) (l : List Int) (o w : Bool) : (callV cpEnv 40 29 [Cf.val ⟨6, 10, st, wt, u⟩, wv n q] [.ints o w l]).get = ssT ⟨6, 10, st, wt, u⟩ n l o w := by kernel_rfl
theorem ss_tree6_11 (st wt u : Int) (n q : Nat) (l : List Int) (o w : Bool) : (callV cpEnv 40 29 [Cf.val ⟨6, 11, st, wt, u⟩, wv n q] [.ints o w l]).get = ssT ⟨6, 11, st, wt, u⟩ n l o w := by kernel_rfl
theorem ss_tree6_12 (st wt u : Int) (n q : Nat) (l : List Int) (o w : Bool) : (callV cpEnv 40 29 [Cf.val ⟨6, 12, st, wt, u⟩, wv n q] [.ints o w l]).get = ssT ⟨6, 12, st, wt, u⟩ n l o w := by kernel_rfl
theorem ss_tree6_13 (st wt u : Int) (n q : Nat) (l : List Int) (o w : Bool) : (callV cpEnv 40 29 [Cf.val ⟨6, 13, st, wt, u⟩, wv n q] [.ints o w l]).get = ssT ⟨6, 13, st, wt, u⟩ n l o w := by kernel_rfl
theorem ss_tree6_14 (st wt u : Int) (n q : Nat) (l : List Int) (o w : Bool) : (callV cpEnv 40 29 [Cf.val ⟨6, 14, st, wt, u⟩, wv n q] [.ints o w l]).get = ssT ⟨6, 14, st, wt, u⟩ n l o w := by kernel_rfl
theorem ss_tree6_15 (st wt u : Int) (n q : Nat) (l : List Int) (o w : Bool) : (callV cpEnv 40 29 [Cf.val ⟨6, 15, st, wt, u⟩, wv n q] [.ints o w l]).get = ssT ⟨6, 15, st, wt, u⟩ n l o w := by kernel_rfl
theorem ss_tree6_16 (st wt u : Int) (n q : Nat) (l : List Int) (o w : Bool) : (callV cpEnv 40 29 [Cf.val ⟨6, 16, st, wt, u⟩, wv n q] [.ints o w l]).get = ssT ⟨6, 16, st, wt, u⟩ n l o w := by kernel_rfl
theorem ss_tree7_1 (st wt u : Int) (n q : Nat) (l : List Int) (o w : Bool) : (callV cpEnv 40 29 [Cf.val ⟨7, 1, st, wt, u⟩, wv n q] [.ints o w l]).get = ssT ⟨7, 1, st, wt, u⟩ n l o w := by kernel_rfl
theorem ss_tree7_2 (st wt u : Int) (n q : Nat) (l : List Int) (o w : Bool) : (callV cpEnv 40 29 [Cf.val ⟨7, 2, st, wt, u⟩, wv n q] [.ints o w l]).get = ssT ⟨7, 2, st, wt, u⟩ n l o w := by kernel_rfl
theorem ss_tree7_3 (st wt u : Int) (n q : Nat) (l : List Int) (o w : Bool) : (callV cpEnv 40 29 [Cf.val ⟨7, 3, st, wt, u⟩, wv n q] [.ints o w l]).get = ssT ⟨7, 3, st, wt, u⟩ n l o w := by kernel_rfl
theorem ss_tree7_4 (st wt u : Int) (n q : Nat) (l : List Int) (o w : Bool) : (callV cpEnv 40 29 [Cf.val ⟨7, 4, st, wt, u⟩, wv n q] [.ints o w l]).get = ssT ⟨7, 4, st, wt, u⟩ n l o w := by kernel_rfl
theorem ss_tree7_5 (st wt u : Int) (n q : Nat) (l : List Int) (o w : Bool) : (callV cpEnv 40 29 [Cf.val ⟨7, 5, st, wt, u⟩, wv n q] [.ints o w l]).get = ssT ⟨7, 5, st, wt, u⟩ n l o w := by kernel_rfl
theorem ss_tree7_6 (st wt u : Int) (n q : Nat) (l : List Int) (o w : Bool) : (callV cpEnv 40 29 [Cf.val ⟨7, 6, st, wt, u⟩, wv n q] [.ints o w l]).get = ssT ⟨7, 6, st, wt, u⟩ n l o w := by kernel_rfl
theorem ss_tree7_7 (st wt u : Int) (n q : Nat) (l : List Int) (o w : Bool) : (callV cpEnv 40 29 [Cf.val ⟨7, 7, st, wt, u⟩, wv n q] [.ints o w l]).get = ssT ⟨7, 7, st, wt, u⟩ n l o w := by kernel_rfl
theorem ss_tree7_8 (st wt u : Int) (n q : Nat) (l : List Int) (o w : Bool) : (callV cpEnv 40 29 [Cf.val ⟨7, 8, st, wt, u⟩, wv n q] [.ints o w l]).get = ssT ⟨7, 8, st, wt, u⟩ n l o w := by kernel_rfl
theorem ss_tree7_9 (st wt u : Int) (n q : Nat) (l : List Int) (o w : Bool) : (callV cpEnv 40 29 [Cf.val ⟨7, 9, st, wt, u⟩, wv n q] [.ints o w l]).get = ssT ⟨7, 9, st, wt, u⟩ n l o w := by kernel_rfl
theorem ss_tree7_10 (st wt u : Int) (n q : Nat) (l : List Int) (o w : Bool) : (callV cpEnv 40 29 [Cf.val ⟨7, 10, st, wt, u⟩, wv n q] [.ints o w l]).get = ssT ⟨7, 10, st, wt, u⟩ n l o w := by kernel_rfl
theorem ss_tree7_11 (st wt u : Int) (n q : Nat) (l : List Int) (o w : Bool) : (callV cpEnv 40 29 [Cf.val ⟨7, 11, st, wt, u⟩, wv n q] [.ints o w l]).get = ssT ⟨7, 11, st, wt, u⟩ n l o w := by kernel_rfl
theorem ss_tree7_12 (st wt u : Int) (n q : Nat) (l : List Int) (o w : Bool) : (callV cpEnv 40 29 [Cf.val ⟨7, 12, st, wt, u⟩, wv n q] [.ints o w l]).get = ssT ⟨7, 12, st, wt, u⟩ n l o w := by kernel_rfl
theorem ss_tree7_13 (st wt u : Int) (n q : Nat) (l : List Int) (o w : Bool) : (callV cpEnv 40 29 [Cf.val ⟨7, 13, st, wt, u⟩, wv n q] [.ints o w l]).get = ssT ⟨7, 13, st, wt, u⟩ n l o w := by kernel_rfl
theorem ss_tree7_14 (st wt u : Int) (n q : Nat) (l : List Int) (o w : Bool) : (callV cpEnv 40 29 [Cf.val ⟨7, 14, st, wt, u⟩, wv n q] [.ints o w l]).get = ssT ⟨7, 14, st, wt, u⟩ n l o w := by kernel_rfl
theorem ss_tree7_15 (st wt u : Int) (n q : Nat) (l : List Int) (o w : Bool) : (callV cpEnv 40 29 [Cf.val ⟨7, 15, st, wt, u⟩, wv n q] [.ints o w l]).get = ssT ⟨7, 15, st, wt, u⟩ n l o w := by kernel_rfl
theorem ss_tree7_16 (st wt u : Int) (n q : Nat) (l : List Int) (o w : Bool) : (callV cpEnv 40 29 [Cf.val ⟨7, 16, st, wt, u⟩, wv n q] [.ints o w l]).get = ssT ⟨7, 16, st, wt, u⟩ n l o w := by kernel_rfl
theorem ss_tree8_1 (st wt u : Int) (n q : Nat) (l : List Int) (o w : Bool) : (callV cpEnv 40 29 [Cf.val ⟨8, 1, st, wt, u⟩, wv n q] [.ints o w l]).get = ssT ⟨8, 1, st, wt, u⟩ n l o w := by kernel_rfl
theorem ss_tree8_2 (st wt u : Int) (n q : Nat) (l : List Int) (o w : Bool) : (callV cpEnv 40 29 [Cf.val ⟨8, 2, st, wt, u⟩, wv n q] [.ints o w l]).get = ssT ⟨8, 2, st, wt, u⟩ n l o w := by kernel_rfl
theorem ss_tree8_3 (st wt u : Int) (n q : Nat) (l : List Int) (o w : Bool) : (callV cpEnv 40 29 [Cf.val ⟨8, 3, st, wt, u⟩, wv n q] [.ints o w l]).get = ssT ⟨8, 3, st, wt, u⟩ n l o w := by kernel_rfl
theorem ss_tree8_4 (st wt u : Int) (n q : Nat) (l : List Int) (o w : Bool) : (callV cpEnv 40 29 [Cf.val ⟨8, 4, st, wt, u⟩, wv n q] [.ints o w l]).get = ssT ⟨8, 4, st, wt, u⟩ n l o w := by kernel_rfl
theorem ss_tree8_5 (st wt u : Int) (n q : Nat) (l : List Int) (o w : Bool) : (callV cpEnv 40 29 [Cf.val ⟨8, 5, st, wt, u⟩, wv n q] [.ints o w l]).get = ssT ⟨8, 5, st, wt, u⟩ n l o w := by kernel_rfl
theorem ss_tree8_6 (st wt u : Int) (n q : Nat) (l : List Int) (o w : Bool) : (callV cpEnv 40 29 [Cf.val ⟨8, 6, st, wt, u⟩, wv n q] [.ints o w l]).get = ssT ⟨8, 6, st, wt, u⟩ n l o w := by kernel_rfl
theorem ss_tree8_7 (st wt u : Int) (n q : Nat) (l : List Int) (o w : Bool) : (callV cpEnv 40 29 [Cf.val ⟨8, 7, st, wt, u⟩, wv n q] [.ints o w l]).get = ssT ⟨8, 7, st, wt, u⟩ n l o w := by kernel_rfl
theorem ss_tree8_8 (st wt u : Int) (n q : Nat) (l : List Int) (o w : Bool) : (callV cpEnv 40 29 [Cf.val ⟨8, 8, st, wt, u⟩, wv n q] [.ints o w l]).get = ssT ⟨8, 8, st, wt, u⟩ n l o w := by kernel_rfl
theorem ss_tree8_9 (st wt u : Int) (n q : Nat) (l : List Int) (o w : Bool) : (callV cpEnv 40 29 [Cf.val ⟨8, 9, st, wt, u⟩, wv n q] [.ints o w l]).get = ssT ⟨8, 9, st, wt, u⟩ n l o w := by kernel_rfl
theorem ss_tree8_10 (st wt u : Int) (n q : Nat) (l : List Int) (o w : Bool) : (callV cpEnv 40 29 [Cf.val ⟨8, 10, st, wt, u⟩, wv n q] [.ints o w l]).get = ssT ⟨8, 10, st, wt, u⟩ n l o w := by kernel_rfl
theorem ss_tree8_11 (st wt u : Int) (n q : Nat) (l : List Int) (o w : Bool) : (callV cpEnv 40 29 [Cf.val ⟨8, 11, st, wt, u⟩, wv n q] [.ints o w l]).get = ssT ⟨8, 11, st, wt, u⟩ n l o w := by kernel_rfl
theorem ss_tree8_12 (st wt u : Int) (n q : Nat) (l : List Int) (o w : Bool) : (callV cpEnv 40 29 [Cf.val ⟨8, 12, st, wt, u⟩, wv n q] [.ints o w l]).get = ssT ⟨8, 12, st, wt, u⟩ n l o w := by kernel_rfl
theorem ss_tree8_13 (st wt u : Int) (n q : Nat) (l : List Int) (o w : Bool) : (callV cpEnv 40 29 [Cf.val ⟨8, 13, st, wt, u⟩, wv n q] [.ints o w l]).get = ssT ⟨8, 13, st, wt, u⟩ n l o w := by kernel_rfl
theorem ss_tree8_14 (st wt u : Int) (n q : Nat) (l : List Int) (o w : Bool) : (callV cpEnv 40 29 [Cf.val ⟨8, 14, st, wt, u⟩, wv n q] [.ints o w l]).get = ssT ⟨8, 14, st, wt, u⟩ n l o w := by kernel_rfl
theorem ss_tree8_15 (st wt u : Int) (n q : Nat) (l : List Int) (o w : Bool) : (callV cpEnv 40 29 [Cf.val ⟨8, 15, st, wt, u⟩, wv n q] [.ints o w l]).get = ssT ⟨8, 15, st, wt, u⟩ n l o w := by kernel_rfl
theorem ss_tree8_16 (st wt u : Int) (n q : Nat) (l : List Int) (o w : Bool) : (callV cpEnv 40 29 [Cf.val ⟨8, 16, st, wt, u⟩, wv n q] [.ints o w l]).get = ssT ⟨8, 16, st, wt, u⟩ n l o w := by kernel_rfl
theorem ss_tree1 (s st wt u : Int) (h : 1 ≤ s ∧ s ≤ 16) (n q : Nat) (l : List Int) (o w : Bool) : (callV cpEnv 40 29 [Cf.val ⟨1, s, st, wt, u⟩, wv n q] [.ints o w l]).get = ssT ⟨1, s, st, wt, u⟩ n l o w := by
  rcases upto16 h with e | e | e | e | e | e | e | e | e | e | e | e | e | e | e | e <;> subst e
  · exact ss_tree1_1 st wt u n q l o w
  · exact ss_tree1_2 st wt u n q l o w
  · exact ss_tree1_3 st wt u n q l o w
  · exact ss_tree1_4 st wt u n q l o w
  · exact ss_tree1_5 st wt u n q l o w
  · exact ss_tree1_6 st wt u n q l o w
  · exact ss_tree1_7 st wt u n q l o w
  · exact ss_tree1_8 st wt u n q l o w
  · exact ss_tree1_9 st wt u n q l o w
  · exact ss_tree1_10 st wt u n q l o w
  · exact ss_tree1_11 st wt u n q l o w
  · exact ss_tree1_12 st wt u n q l o w
  · exact ss_tree1_13 st wt u n q l o w
  · exact ss_tree1_14 st wt u n q l o w
  · exact ss_tree1_15 st wt u n q l o w
  · exact ss_tree1_16 st wt u n q l o w
theorem ss_tree2 (s st wt u : Int) (h : 1 ≤ s ∧ s ≤ 16) (n q : Nat) (l : List Int) (o w : Bool) : (callV cpEnv 40 29 [Cf.val ⟨2, s, st, wt, u⟩, wv n q] [.ints o w l]).get = ssT ⟨2, s, st, wt, u⟩ n l o w := by
  rcases upto16 h with e | e | e | e | e | e | e | e | e | e | e | e | e | e | e | e <;> subst e
  · exact ss_tree2_1 st wt u n q l o w
  · exact ss_tree2_2 st wt u n q l o w
  · exact ss_tree2_3 st wt u n q l o w
  · exact ss_tree2_4 st wt u n q l o w
  · exact ss_tree2_5 st wt u n q l o w
  · exact ss_tree2_6 st wt u n q l o w
  · exact ss_tree2_7 st wt u n q l o w
  · exact ss_tree2_8 st wt u n q l o w
  · exact ss_tree2_9 st wt u n q l o w
  · exact ss_tree2_10 st wt u n q l o w
  · exact ss_tree2_11 st wt u n q l o w
  · exact ss_tree2_12 st wt u n q l o w
  · exact ss_tree2_13 st wt u n q l o w
  · exact ss_tree2_14 st wt u n q l o w
  · exact ss_tree2_15 st wt u n q l o w
  · exact ss_tree2_16 st wt u n q l o w
theorem ss_tree3 (s st wt u : Int) (h : 1 ≤ s ∧ s ≤ 16) (n q : Nat) (l : List Int) (o w : Bool) : (callV cpEnv 40 29 [Cf.val ⟨3, s, st, wt, u⟩, wv n q] [.ints o w l]).get = ssT ⟨3, s, st, wt, u⟩ n l o w := by
  rcases upto16 h with e | e | e | e | e | e | e | e | e | e | e | e | e | e | e | e <;> subst e
  · exact ss_tree3_1 st wt u n q l o w
  · exact ss_tree3_2 st wt u n q l o w
  · exact ss_tree3_3 st wt u n q l o w
  · exact ss_tree3_4 st wt u n q l o w
  · exact ss_tree3_5 st wt u n q l o w
  · exact ss_tree3_6 st wt u n q l o w
  · exact ss_tree3_7 st wt u n q l o w
  · exact ss_tree3_8 st wt u n q l o w
  · exact ss_tree3_9 st wt u n q l o w
  · exact ss_tree3_10 st wt u n q l o w
  · exact ss_tree3_11 st wt u n q l o w
  · exact ss_tree3_12 st wt u n q l o w
  · exact ss_tree3_13 st wt u n q l o w
  · exact ss_tree3_14 st wt u n q l o w
  · exact ss_tree3_15 st wt u n q l o w
  · exact ss_tree3_16 st wt u n q l o w
theorem ss_tree4 (s st wt u : Int) (h : 1 ≤ s ∧ s ≤ 16) (n q : Nat) (l : List Int) (o w : Bool) : (callV cpEnv 40 29 [Cf.val ⟨4, s, st, wt, u⟩, wv n q] [.ints o w l]).get = ssT ⟨4, s, st, wt, u⟩ n l o w := by
  rcases upto16 h with e | e | e | e | e | e | e | e | e | e | e | e | e | e | e | e <;> subst e
  · exact ss_tree4_1 st wt u n q l o w
  · exact ss_tree4_2 st wt u n q l o w
  · exact ss_tree4_3 st wt u n q l o w
  · exact ss_tree4_4 st wt u n q l o w
  · exact ss_tree4_5 st wt u n q l o w
  · exact ss_tree4_6 st wt u n q l o w
  · exact ss_tree4_7 st wt u n q l o w
  · exact ss_tree4_8 st wt u n q l o w
  · exact ss_tree4_9 st wt u n q l o w
  · exact ss_tree4_10 st wt u n q l o w
  · exact ss_tree4_11 st wt u n q l o w
  · exact ss_tree4_12 st wt u n q l o w
  · exact ss_tree4_13 st wt u n q l o w
  · exact ss_tree4_14 st wt u n q l o w
  · exact ss_tree4_15 st wt u n q l o w
  · exact ss_tree4_16 st wt u n q l o w
theorem ss_tree5 (s st wt u : Int) (h : 1 ≤ s ∧ s ≤ 16) (n q : Nat) (l : List Int) (o w : Bool) : (callV cpEnv 40 29 [Cf.val ⟨5, s, st, wt, u⟩, wv n q] [.ints o w l]).get = ssT ⟨5, s, st, wt, u⟩ n l o w := by
  rcases upto16 h with e | e | e | e | e | e | e | e | e | e | e | e | e | e | e | e <;> subst e
  · exact ss_tree5_1 st wt u n q l o w
  · exact ss_tree5_2 st wt u n q l o w
  · exact ss_tree5_3 st wt u n q l o w
  · exact ss_tree5_4 st wt u n q l o w
  · exact ss_tree5_5 st wt u n q l o w
  · exact ss_tree5_6 st wt u n q l o w
  · exact ss_tree5_7 st wt u n q l o w
  · exact ss_tree5_8 st wt u n q l o w
  · exact ss_tree5_9 st wt u n q l o w
  · exact ss_tree5_10 st wt u n q l o w
  · exact ss_tree5_11 st wt u n q l o w
  · exact ss_tree5_12 st wt u n q l o w
  · exact ss_tree5_13 st wt u n q l o w
  · exact ss_tree5_14 st wt u n q l o w
  · exact ss_tree5_15 st wt u n q l o w
  · exact ss_tree5_16 st wt u n q l o w
theorem ss_tree6 (s st wt u : Int) (h : 1 ≤ s ∧ s ≤ 16) (n q : Nat) (l : List Int) (o w : Bool) : (callV cpEnv 40 29 [Cf.val ⟨6, s, st, wt, u⟩, wv n q] [.ints o w l]).get = ssT ⟨6, s, st, wt, u⟩ n l o w := by
  rcases upto16 h with e | e | e | e | e | e | e | e | e | e | e | e | e | e | e | e <;> subst e
  · exact ss_tree6_1 st wt u n q l o w
  · exact ss_tree6_2 st wt u n q l o w
  · exact ss_tree6_3 st wt u n q l o w
  · exact ss_tree6_4 st wt u n q l o w
  · exact ss_tree6_5 st wt u n q l o w
  · exact ss_tree6_6 st wt u n q l o w
  · exact ss_tree6_7 st wt u n q l o w
  · exact ss_tree6_8 st wt u n q l o w
  · exact ss_tree6_9 st wt u n q l o w
  · exact ss_tree6_10 st wt u n q l o w
  · exact ss_tree6_11 st wt u n q l o w
  · exact ss_tree6_12 st wt u n q l o w
  · exact ss_tree6_13 st wt u n q l o w
  · exact ss_tree6_14 st wt u n q l o w
  · exact ss_tree6_15 st wt u n q l o w
  · exact ss_tree6_16 st wt u n q l o w
theorem ss_tree7 (s st wt u : Int) (h : 1 ≤ s ∧ s ≤ 16) (n q : Nat) (l : List Int) (o w : Bool) : (callV cpEnv 40 29 [Cf.val ⟨7, s, st, wt, u⟩, wv n q] [.ints o w l]).get = ssT ⟨7, s, st, wt, u⟩ n l o w := by
  rcases upto16 h with e | e | e | e | e | e | e | e | e | e | e | e | e | e | e | e <;> subst e
  · exact ss_tree7_1 st wt u n q l o w
  · exact ss_tree7_2 st wt u n q l o w
  · exact ss_tree7_3 st wt u n q l o w
  · exact ss_tree7_4 st wt u n q l o w
  · exact ss_tree7_5 st wt u n q l o w
  · exact ss_tree7_6 st wt u n q l o w
  · exact ss_tree7_7 st wt u n q l o w
  · exact ss_tree7_8 st wt u n q l o w
  · exact ss_tree7_9 st wt u n q l o w
  · exact ss_tree7_10 st wt u n q l o w
  · exact ss_tree7_11 st wt u n q l o w
  · exact ss_tree7_12 st wt u n q l o w
  · exact ss_tree7_13 st wt u n q l o w
  · exact ss_tree7_14 st wt u n q l o w
  · exact ss_tree7_15 st wt u n q l o w
  · exact ss_tree7_16 st wt u n q l o w
theorem ss_tree8 (s st wt u : Int) (h : 1 ≤ s ∧ s ≤ 16) (n q : Nat) (l : List Int) (o w : Bool) : (callV cpEnv 40 29 [Cf.val ⟨8, s, st, wt, u⟩, wv n q] [.ints o w l]).get = ssT ⟨8, s, st, wt, u⟩ n l o w := by
  rcases upto16 h with e | e | e | e | e | e | e | e | e | e | e | e | e | e | e | e <;> subst e
  · exact ss_tree8_1 st wt u n q l o w
  · exact ss_tree8_2 st wt u n q l o w
  · exact ss_tree8_3 st wt u n q l o w
  · exact ss_tree8_4 st wt u n q l o w
  · exact ss_tree8_5 st wt u n q l o w
  · exact ss_tree8_6 st wt u n q l o w
  · exact ss_tree8_7 st wt u n q l o w
  · exact ss_tree8_8 st wt u n q l o w
  · exact ss_tree8_9 st wt u n q l o w
  · exact ss_tree8_10 st wt u n q l o w
  · exact ss_tree8_11 st wt u n q l o w
  · exact ss_tree8_12 st wt u n q l o w
  · exact ss_tree8_13 st wt u n q l o w
  · exact ss_tree8_14 st wt u n q l o w
  · exact ss_tree8_15 st wt u n q l o w
  · exact ss_tree8_16 st wt u n q l o w
theorem ss_tree (c : Cf) (h : RightC c) (n q : Nat) (l : List Int) (o w : Bool) : (callV cpEnv 40 29 [c.val, wv n q] [.ints o w l]).get = ssT c n l o w := by
  obtain ⟨cw, s, st, wt, u⟩ := c
  rcases upto8 h.w with e | e | e | e | e | e | e | e <;> (simp only at e; subst e)
  · exact ss_tree1 s st wt u h.s n q l o w
  · exact ss_tree2 s st wt u h.s n q l o w
  · exact ss_tree3 s st wt u h.s n q l o w
  · exact ss_tree4 s st wt u h.s n q l o w
  · exact ss_tree5 s st wt u h.s n q l o w
  · exact ss_tree6 s st wt u h.s n q l o w
  · exact ss_tree7 s st wt u h.s n q l o w
  · exact ss_tree8 s st wt u h.s n q l o w
def slotsPO : Orc := fun args lh => match args, lh with
  | [cf, .slice (some ⟨0, 0, some 2⟩) n _], [.ints o w l] => confM cf fun cf => .br (rightC cf && lenOK n l) (.br (Nat.beq n (cntN cf)) (.ret (vecOf 1 cf.s.toNat, [.ints o w l, .rows true true 9 cf.s.toNat (slR (cpD (slK cf l)))])) (.ret (.slice none 0 0, [.ints o w l]))) .bad
  | _, _ => .bad
theorem slotsP_eq {c : Cf} (h : RightC c) {n : Nat} {l : List Int} (hl : n = l.length) (o w : Bool) : ssT c n l o w = bif Nat.beq n (cntN c) then some (vecOf 1 c.s.toNat, [.ints o w l, .rows true true 9 c.s.toNat (slR (cpD (slK c l)))]) else some (.slice none 0 0, [.ints o w l]) := by
  have h1 := h.w
  have h2 := h.s
  have hN := h.cntN
  unfold ssT
  rw [show rightC c = true from rightC_iff.2 h, h.cntC]
  by_cases hn : n = cntN c
  · have e0 : cellC c 0 = ((3 + 2 * c.w.toNat : Nat) : Int) := by rw [h.cellC (i := 0) (by omega) (by omega)]; omega
    have e : w64 (cellC c 0 + c.s) = ((3 + 2 * c.w.toNat + c.s.toNat : Nat) : Int) := by rw [e0, w64_in ⟨by omega, by omega⟩]; omega
    rw [e, e0, cutT_in hl (by omega) (by omega) (by omega), show ((n : Int) != 3 + 2 * c.w + c.s) = false by simp; omega, show Nat.beq n (cntN c) = true by rw [hn]; exact Nat.beq_refl _]
    have e1 : (slK c l).length = c.s.toNat := by unfold slK; rw [List.length_take, List.length_drop]; omega
    show (bif cpOK (0 + (slK c l).length) (0 + (slK c l).length) (slK c l) then some (vecOf 1 (0 + (slK c l).length), [Go.Sx.Blk.ints o w l, .rows true true 9 (0 + (slK c l).length) (slR (cpD (slK c l)))]) else none) = _
    have e2 : cpOK c.s.toNat c.s.toNat (slK c l) = true := by
      unfold cpOK
      rw [okM_iff.2 ⟨e1.symm, by omega, by omega⟩, Nat.beq_refl, Nat.ble_eq_true_of_le (by omega)]; rfl
    rw [e1, Nat.zero_add, e2]; rfl
  · rw [show ((n : Int) != 3 + 2 * c.w + c.s) = true by simp; omega, show Nat.beq n (cntN c) = false from beqF hn]; rfl
theorem slotsP_sound : Sound Tryd.prog Tab 29 slotsPO := by
  refine Sound.of_run ⟨Tryd.func29, by kernel_rfl, by kernel_rfl⟩ rfl rfl cpEnv_ok 40 fun args lh r hr => ?_
  unfold slotsPO at hr
  split at hr
  · rename_i cf n q o w l
    obtain ⟨c, rfl, hr2⟩ := confM_some hr
    clear hr
    rcases M.get_br_some hr2 with ⟨hc, hr3⟩ | ⟨_, hr3⟩
    · simp only [Bool.and_eq_true] at hc
      refine (ss_tree c (rightC_iff.1 hc.1) n q l o w).trans ?_
      rw [slotsP_eq (rightC_iff.1 hc.1) (lenOK_iff.1 hc.2).1]
      rcases M.get_br_some hr3 with ⟨h, hr4⟩ | ⟨h, hr4⟩
      · rw [h]; exact hr4
      · rw [h]; exact hr4
    · cases hr3
  · cases hr
end Go.Proofs.YthfoljgaiincdaaDoor
