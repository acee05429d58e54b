
/- The document's slots, and pins, of words that came in: contracts. No condition of its own. -/
import Derived.Test.YthfoljgaiincdaaDoorConfS
namespace Go.Proofs.YthfoljgaiincdaaDoor
open Go.RowKit Go.Fld Go.Sx
set_option linter.unusedVariables false
set_option linter.unusedSimpArgs false
noncomputable def cqFns : List (FuncId × Func) := [(30, Tryd.f30), (32, Tryd.f32)]
theorem cqFns_ok : ∀ e ∈ cqFns, FnOK Tryd.prog e.1 e.2 :=
  fns_ok_cons ⟨Tryd.func30, by kernel_rfl, by kernel_rfl⟩ <| fns_ok_cons ⟨Tryd.func32, by kernel_rfl, by kernel_rfl⟩ <| fns_ok_nil rfl
noncomputable def cq0Env : Env := mkEnv Tryd.prog cqFns [] md0 []
theorem cq0Env_ok (X : Nat → Prop) (w0 : World) (h0 : X 0) (hB : Bnd X w0) (hT : Tab w0) : EnvOK cq0Env X w0 := mkEnv_ok (fun e he => by cases he) (by kernel_rfl) cqFns_ok md0_ok lpSounds_nil h0 hB hT
abbrev cqQ (n c : Nat) (v : Value) (i : Int) : List Value := [wv n c, .pointer (some ⟨1, 0, none⟩), v, .int .i64 i]
noncomputable def cqRound : Code := slRound
theorem cq_tree0 (o w : Bool) (n c : Nat) (l : List Int) (cf : Cf) (i : Int) :
    (roundV cq0Env 30 noLps 37 [1, 2, 5, 6] 1 slRound (unpack 37 [1, 2, 5, 6] (cqQ n c (.slice none 0 0) i) (slH o w l cf))).get =
    slX true cf n l i (fun s => some (.normal, cqQ n c (vecOf 2 1) (w64 (i + 1)), slH o w l cf ++ [.rows true true 9 1 (rowOf (sltCells s))])) (some (.exit 0, cqQ n c (.slice none 0 0) i, slH o w l cf)) := by kernel_rfl
theorem cq_tree1 (o w : Bool) (n c m : Nat) (R : Nat → Slt) (l : List Int) (cf : Cf) (i : Int) :
    (roundV cq0Env 30 noLps 37 [1, 2, 5, 6] 1 slRound (unpack 37 [1, 2, 5, 6] (cqQ n c (vecOf 2 m) i) (slH o w l cf ++ [.rows true true 9 m (slR R)]))).get =
    slX true cf n l i (fun s => bif Nat.beq m m then bif smallN (m + 1) && true then some (.normal, cqQ n c (vecOf 2 (m + 1)) (w64 (i + 1)), slH o w l cf ++ [.rows true true 9 (m + 1) (moreRow m (sltCells s) (slR R))]) else none else none) (some (.exit 0, cqQ n c (vecOf 2 m) i, slH o w l cf ++ [.rows true true 9 m (slR R)])) := by kernel_rfl
theorem cq_rounds {X : Nat → Prop} {w0 : World} (hE : EnvOK cq0Env X w0) (o w : Bool) (c : Nat) (l : List Int) (cf : Cf) (h : RightC cf) (hl : l.length = cntN cf) : ∀ (k i : Nat), 1 ≤ i → i + k = cf.s.toNat →
    LoopRunsB Tryd.prog X w0 0 1 slRound (unpack 37 [1, 2, 5, 6] (cqQ (cntN cf) c (vecOf 2 i) i) (slH o w l cf ++ [.rows true true 9 i (slR (slD cf l))])) (.exit 0) (unpack 37 [1, 2, 5, 6] (cqQ (cntN cf) c (vecOf 2 cf.s.toNat) cf.s.toNat) (slH o w l cf ++ [.rows true true 9 cf.s.toNat (slR (slD cf l))]))
  | 0, i, h1, hi => by
    have ht := cq_tree1 o w (cntN cf) c i (slD cf l) l cf i
    rw [slX_out (by omega)] at ht
    obtain rfl : i = cf.s.toNat := by omega
    exact LoopRunsB.exit (round_runs hE (noLps_ok _) ht (Nat.zero_le _) (show 1 ≤ 3 by decide)) (by simp)
  | k + 1, i, h1, hi => by
    have ht := cq_tree1 o w (cntN cf) c i (slD cf l) l cf i
    have hs := h.s
    rw [slX_in h hl (by omega), Nat.beq_refl, show smallN (i + 1) = true from Nat.ble_eq_true_of_le (by omega), w64_succ (by omega), slR_more] at ht
    exact LoopRunsB.step (round_runs hE (noLps_ok _) ht (Nat.zero_le _) (show 1 ≤ 3 by decide)) (cq_rounds hE o w c l cf h hl k (i + 1) (by omega) (by omega))
theorem cq_run {X : Nat → Prop} {w0 : World} (hE : EnvOK cq0Env X w0) (o w : Bool) (c : Nat) (l : List Int) (cf : Cf) (h : RightC cf) (hl : l.length = cntN cf) :
    LoopRunsB Tryd.prog X w0 0 1 slRound (unpack 37 [1, 2, 5, 6] (cqQ (cntN cf) c (.slice none 0 0) 0) (slH o w l cf)) (.exit 0) (unpack 37 [1, 2, 5, 6] (cqQ (cntN cf) c (vecOf 2 cf.s.toNat) cf.s.toNat) (slH o w l cf ++ [.rows true true 9 cf.s.toNat (slR (slD cf l))])) := by
  have ht := cq_tree0 o w (cntN cf) c l cf 0
  have hs := h.s
  have e := slX_in (s1 := true) h hl (i := 0) (by omega) (K := fun s => some (.normal, cqQ (cntN cf) c (vecOf 2 1) (w64 (0 + 1)), slH o w l cf ++ [.rows true true 9 1 (rowOf (sltCells s))])) (E := some (.exit 0, cqQ (cntN cf) c (.slice none 0 0) 0, slH o w l cf))
  have ht' := ht.trans e
  have hr := (round_runs hE (noLps_ok _) ht' (Nat.zero_le _) (show 1 ≤ 2 by decide)).rows 2 (o := true) (R := rowOf (sltCells (slD cf l 0))) (slR (slD cf l)) rfl (slR_first (slD cf l)) (by decide)
  exact LoopRunsB.step hr (cq_rounds hE o w c l cf h hl (cf.s.toNat - 1) 1 (Nat.le_refl _) (by omega))
theorem slX_no {s1 : Bool} {cf : Cf} (h : RightC cf) {n : Nat} (hn : n ≠ cntN cf) {l : List Int} {i : Int} {K : Slt → Option (Exit × List Value × List Go.Sx.Blk)} {E : Option (Exit × List Value × List Go.Sx.Blk)} : slX s1 cf n l i K E = E := by
  have hq := h.cntQ
  have hc := h.cntN
  unfold slX
  rw [show ((n : Int) == cntQ cf) = false by simp; omega]
  cases decide (i < cf.s) <;> rfl
theorem cq_runN {X : Nat → Prop} {w0 : World} (hE : EnvOK cq0Env X w0) (o w : Bool) (n c : Nat) (l : List Int) (cf : Cf) (h : RightC cf) (hn : n ≠ cntN cf) :
    LoopRunsB Tryd.prog X w0 0 1 slRound (unpack 37 [1, 2, 5, 6] (cqQ n c (.slice none 0 0) 0) (slH o w l cf)) (.exit 0) (unpack 37 [1, 2, 5, 6] (cqQ n c (.slice none 0 0) 0) (slH o w l cf)) := by
  have ht := cq_tree0 o w n c l cf 0
  rw [slX_no h hn] at ht
  exact LoopRunsB.exit (round_runs hE (noLps_ok _) ht (Nat.zero_le _) (show 1 ≤ 2 by decide)) (by simp)
def cqF (vals : List Value) (lh : List Go.Sx.Blk) : M (Exit × List Value × List Go.Sx.Blk) :=
  match vals, lh with
  | [.slice (some ⟨0, 0, some 2⟩) n _, .pointer (some ⟨1, 0, none⟩), .slice none 0 0, .int .i64 0], [.ints o w l, .cells true true [.int .i64 cw, .int .i64 cs, .int .i64 cst, .int .i64 cwt, .int .i64 cu]] =>
    .br (rightC ⟨cw, cs, cst, cwt, cu⟩ && lenOK n l) (.br (Nat.beq n (cntN ⟨cw, cs, cst, cwt, cu⟩)) (.ret (.normal, [vecOf 1 cs.toNat], [.ints o w l, .rows true true 9 cs.toNat (slR (slD ⟨cw, cs, cst, cwt, cu⟩ l))])) (.ret (.normal, [.slice none 0 0], [.ints o w l]))) .bad
  | _, _ => .bad
theorem cq_norm (o w : Bool) (n c m : Nat) (l : List Int) (cf : Cf) (i : Int) (D : Nat → Slt) : (normV 37 [5] 1 (unpack 37 [1, 2, 5, 6] (cqQ n c (vecOf 2 m) i) (slH o w l cf ++ [.rows true true 9 m (slR D)]))).get = some ([vecOf 1 m], [.ints o w l, .rows true true 9 m (slR D)]) := by kernel_rfl
theorem cq_normN (o w : Bool) (n c : Nat) (l : List Int) (cf : Cf) (i : Int) : (normV 37 [5] 1 (unpack 37 [1, 2, 5, 6] (cqQ n c (.slice none 0 0) i) (slH o w l cf))).get = some ([.slice none 0 0], [.ints o w l]) := by kernel_rfl
theorem cq_lp : LpSound Tryd.prog Tab 30 0 (loopV 37 [1, 2, 5, 6] [5] cqF 1) := by
  refine LpSound.of_loop (c := slBody) Tryd.func30 (by kernel_rfl) (by kernel_rfl) fun X w0 h0 hB hT vals lh e vals' lh' hF hb => ?_
  unfold cqF at hF
  split at hF
  · rename_i n c o w l cw cs cst cwt cu
    rcases M.get_br_some hF with ⟨hc, hF2⟩ | ⟨_, hF2⟩
    · clear hF
      simp only [Bool.and_eq_true] at hc
      obtain ⟨hc1, hc2⟩ := hc
      obtain ⟨g1, g3⟩ := lenOK_iff.1 hc2
      have hr := rightC_iff.1 hc1
      rw [sl_loop]
      rcases M.get_br_some hF2 with ⟨hn, hF3⟩ | ⟨hn, hF3⟩
      · have hn' := Nat.eq_of_beq_eq_true hn
        simp only [M.get_ret, Option.some.injEq, Prod.mk.injEq] at hF3
        obtain ⟨rfl, rfl, rfl⟩ := hF3
        have hl := cq_run (cq0Env_ok X w0 h0 hB hT) o w c l ⟨cw, cs, cst, cwt, cu⟩ hr (by omega)
        rw [← hn'] at hl
        exact hl.runs.block_exit.norm (cq_norm o w n c cs.toNat l ⟨cw, cs, cst, cwt, cu⟩ _ _) (Nat.zero_le _)
      · simp only [M.get_ret, Option.some.injEq, Prod.mk.injEq] at hF3
        obtain ⟨rfl, rfl, rfl⟩ := hF3
        have hl := cq_runN (cq0Env_ok X w0 h0 hB hT) o w n c l ⟨cw, cs, cst, cwt, cu⟩ hr (fun e => by rw [e, Nat.beq_refl] at hn; cases hn)
        exact hl.runs.block_exit.norm (cq_normN o w n c l ⟨cw, cs, cst, cwt, cu⟩ _) (Nat.zero_le _)
    · cases hF2
  · cases hF
noncomputable def cqEnv : Env := mkEnv Tryd.prog cqFns [] md0 [(30, 0, loopV 37 [1, 2, 5, 6] [5] cqF 1)]
theorem cqEnv_ok (X : Nat → Prop) (w0 : World) (h0 : X 0) (hB : Bnd X w0) (hT : Tab w0) : EnvOK cqEnv X w0 := mkEnv_ok (fun e he => by cases he) (by kernel_rfl) cqFns_ok md0_ok (lpSounds_cons cq_lp lpSounds_nil) h0 hB hT
theorem cqF_tree (o w : Bool) (n c : Nat) (l : List Int) (cf : Cf) : (callV cqEnv 40 30 [cf.val, wv n c] [.ints o w l]).get =
    bif rightC cf && lenOK n l then bif Nat.beq n (cntN cf) then some (vecOf 1 cf.s.toNat, [.ints o w l, .rows true true 9 cf.s.toNat (slR (slD cf l))]) else some (.slice none 0 0, [.ints o w l]) else none := by kernel_rfl
def slotsQO : Orc := fun args lh => match args, lh with
  | [cf, .slice (some ⟨0, 0, some 2⟩) n _], [.ints o w l] => confM cf fun cf => .br (rightC cf && lenOK n l) (.br (Nat.beq n (cntN cf)) (.ret (vecOf 1 cf.s.toNat, [.ints o w l, .rows true true 9 cf.s.toNat (slR (slD cf l))])) (.ret (.slice none 0 0, [.ints o w l]))) .bad
  | _, _ => .bad
theorem slotsQ_sound : Sound Tryd.prog Tab 30 slotsQO := by
  refine Sound.of_run ⟨Tryd.func30, by kernel_rfl, by kernel_rfl⟩ rfl rfl cqEnv_ok 40 fun args lh r hr => ?_
  unfold slotsQO at hr
  split at hr
  · rename_i cf n c o w l
    obtain ⟨cf, rfl, hr2⟩ := confM_some hr
    clear hr
    refine (cqF_tree o w n c l cf).trans ?_
    rcases M.get_br_some hr2 with ⟨hc, hr3⟩ | ⟨_, hr3⟩
    · rw [hc]
      rcases M.get_br_some hr3 with ⟨h, hr4⟩ | ⟨h, hr4⟩
      · rw [h]; exact hr4
      · rw [h]; exact hr4
    · cases hr3
  · cases hr
/-! ### Pins -/
noncomputable def pqBody : Code := Tryd.f32.body.getD .skip
noncomputable def pqRound : Code := lpB (blkAt 0 pqBody)
theorem pq_loop : blkAt 0 pqBody = .loop pqRound := by kernel_rfl
def pqX (cf : Cf) (n : Nat) (l : List Int) (i : Int) (K : Int → Option (Exit × List Value × List Go.Sx.Blk)) (E : Option (Exit × List Value × List Go.Sx.Blk)) : Option (Exit × List Value × List Go.Sx.Blk) :=
  bif decide (i < cf.w) then bif (n : Int) == cntQ cf then bif inRange (pinC cf i) n then bif Nat.blt (pinC cf i).toNat l.length then K (l.getD (pinC cf i).toNat 0) else none else none else E else E
theorem pq_tree0 (o w : Bool) (n c : Nat) (l : List Int) (cf : Cf) (i : Int) :
    (roundV cq0Env 30 noLps 30 [1, 2, 5, 6] 1 pqRound (unpack 30 [1, 2, 5, 6] (cqQ n c (.slice none 0 0) i) (slH o w l cf))).get =
    pqX cf n l i (fun x => some (.normal, cqQ n c (vecOf 2 1) (w64 (i + 1)), slH o w l cf ++ [.ints true true [x]])) (some (.exit 0, cqQ n c (.slice none 0 0) i, slH o w l cf)) := by kernel_rfl
theorem pq_tree1 (o w : Bool) (n c m : Nat) (k : List Int) (l : List Int) (cf : Cf) (i : Int) :
    (roundV cq0Env 30 noLps 30 [1, 2, 5, 6] 1 pqRound (unpack 30 [1, 2, 5, 6] (cqQ n c (vecOf 2 m) i) (slH o w l cf ++ [.ints true true k]))).get =
    pqX cf n l i (fun x => bif Nat.beq m k.length then bif smallN (m + 1) then some (.normal, cqQ n c (vecOf 2 (m + 1)) (w64 (i + 1)), slH o w l cf ++ [.ints true true (k ++ [x])]) else none else none) (some (.exit 0, cqQ n c (vecOf 2 m) i, slH o w l cf ++ [.ints true true k])) := by kernel_rfl
theorem pqX_in {cf : Cf} (h : RightC cf) {l : List Int} (hl : l.length = cntN cf) {i : Nat} (hi : (i : Int) < cf.w) {K : Int → Option (Exit × List Value × List Go.Sx.Blk)} {E : Option (Exit × List Value × List Go.Sx.Blk)} : pqX cf (cntN cf) l i K E = K (l.getD (3 + i) 0) := by
  have h1 := h.w
  have h2 := h.s
  have hN := h.cntN
  unfold pqX
  rw [decide_eq_true hi, h.cntQ, show (((cntN cf : Nat) : Int) == 3 + 2 * cf.w + cf.s) = true by simp; omega, h.pinC (i := i) (by omega) hi, show (3 + (i : Int)) = ((3 + i : Nat) : Int) by omega, Int.toNat_natCast,
    show inRange ((3 + i : Nat) : Int) (cntN cf) = true by unfold inRange; simp; omega, show Nat.blt (3 + i) l.length = true by rw [Nat.blt_eq]; omega]
  rfl
theorem pqX_out {cf : Cf} {n : Nat} {l : List Int} {i : Int} (hi : ¬ i < cf.w) {K : Int → Option (Exit × List Value × List Go.Sx.Blk)} {E : Option (Exit × List Value × List Go.Sx.Blk)} : pqX cf n l i K E = E := by
  unfold pqX; rw [decide_eq_false hi]; rfl
theorem pqX_no {cf : Cf} (h : RightC cf) {n : Nat} (hn : n ≠ cntN cf) {l : List Int} {i : Int} {K : Int → Option (Exit × List Value × List Go.Sx.Blk)} {E : Option (Exit × List Value × List Go.Sx.Blk)} : pqX cf n l i K E = E := by
  have hq := h.cntQ
  have hc := h.cntN
  unfold pqX
  rw [show ((n : Int) == cntQ cf) = false by simp; omega]
  cases decide (i < cf.w) <;> rfl
theorem pq_take {l : List Int} {i : Nat} (h : 3 + i < l.length) : (l.drop 3).take i ++ [l.getD (3 + i) 0] = (l.drop 3).take (i + 1) := by
  rw [List.take_add_one, List.getElem?_drop, List.getElem?_eq_getElem h, List.getD_eq_getElem?_getD, List.getElem?_eq_getElem h]; rfl
theorem pq_rounds {X : Nat → Prop} {w0 : World} (hE : EnvOK cq0Env X w0) (o w : Bool) (c : Nat) (l : List Int) (cf : Cf) (h : RightC cf) (hl : l.length = cntN cf) : ∀ (k i : Nat), 1 ≤ i → i + k = cf.w.toNat →
    LoopRunsB Tryd.prog X w0 0 1 pqRound (unpack 30 [1, 2, 5, 6] (cqQ (cntN cf) c (vecOf 2 i) i) (slH o w l cf ++ [.ints true true ((l.drop 3).take i)])) (.exit 0) (unpack 30 [1, 2, 5, 6] (cqQ (cntN cf) c (vecOf 2 cf.w.toNat) cf.w.toNat) (slH o w l cf ++ [.ints true true (pinsC cf l)]))
  | 0, i, h1, hi => by
    have ht := pq_tree1 o w (cntN cf) c i ((l.drop 3).take i) l cf i
    rw [pqX_out (by omega)] at ht
    obtain rfl : i = cf.w.toNat := by omega
    exact LoopRunsB.exit (round_runs hE (noLps_ok _) ht (Nat.zero_le _) (show 1 ≤ 3 by decide)) (by simp)
  | k + 1, i, h1, hi => by
    have ht := pq_tree1 o w (cntN cf) c i ((l.drop 3).take i) l cf i
    have hw := h.w
    have hs := h.s
    have hN := h.cntN
    have e : ((l.drop 3).take i).length = i := by rw [List.length_take, List.length_drop]; omega
    rw [pqX_in h hl (by omega), e, Nat.beq_refl, show smallN (i + 1) = true from Nat.ble_eq_true_of_le (by omega), w64_succ (by omega), pq_take (by omega)] at ht
    exact LoopRunsB.step (round_runs hE (noLps_ok _) ht (Nat.zero_le _) (show 1 ≤ 3 by decide)) (pq_rounds hE o w c l cf h hl k (i + 1) (by omega) (by omega))
theorem pq_run {X : Nat → Prop} {w0 : World} (hE : EnvOK cq0Env X w0) (o w : Bool) (c : Nat) (l : List Int) (cf : Cf) (h : RightC cf) (hl : l.length = cntN cf) :
    LoopRunsB Tryd.prog X w0 0 1 pqRound (unpack 30 [1, 2, 5, 6] (cqQ (cntN cf) c (.slice none 0 0) 0) (slH o w l cf)) (.exit 0) (unpack 30 [1, 2, 5, 6] (cqQ (cntN cf) c (vecOf 2 cf.w.toNat) cf.w.toNat) (slH o w l cf ++ [.ints true true (pinsC cf l)])) := by
  have ht := pq_tree0 o w (cntN cf) c l cf ((0 : Nat) : Int)
  have hw := h.w
  have hs := h.s
  have hN := h.cntN
  rw [pqX_in h hl (by omega), w64_succ (by omega)] at ht
  have e : [l.getD (3 + 0) 0] = (l.drop 3).take 1 := by rw [← pq_take (i := 0) (by omega)]; rfl
  rw [e] at ht
  exact LoopRunsB.step (round_runs hE (noLps_ok _) ht (Nat.zero_le _) (show 1 ≤ 2 by decide)) (pq_rounds hE o w c l cf h hl (cf.w.toNat - 1) 1 (Nat.le_refl _) (by omega))
theorem pq_runN {X : Nat → Prop} {w0 : World} (hE : EnvOK cq0Env X w0) (o w : Bool) (n c : Nat) (l : List Int) (cf : Cf) (h : RightC cf) (hn : n ≠ cntN cf) :
    LoopRunsB Tryd.prog X w0 0 1 pqRound (unpack 30 [1, 2, 5, 6] (cqQ n c (.slice none 0 0) 0) (slH o w l cf)) (.exit 0) (unpack 30 [1, 2, 5, 6] (cqQ n c (.slice none 0 0) 0) (slH o w l cf)) := by
  have ht := pq_tree0 o w n c l cf 0
  rw [pqX_no h hn] at ht
  exact LoopRunsB.exit (round_runs hE (noLps_ok _) ht (Nat.zero_le _) (show 1 ≤ 2 by decide)) (by simp)
def pqF (vals : List Value) (lh : List Go.Sx.Blk) : M (Exit × List Value × List Go.Sx.Blk) :=
  match vals, lh with
  | [.slice (some ⟨0, 0, some 2⟩) n _, .pointer (some ⟨1, 0, none⟩), .slice none 0 0, .int .i64 0], [.ints o w l, .cells true true [.int .i64 cw, .int .i64 cs, .int .i64 cst, .int .i64 cwt, .int .i64 cu]] =>
    .br (rightC ⟨cw, cs, cst, cwt, cu⟩ && lenOK n l) (.br (Nat.beq n (cntN ⟨cw, cs, cst, cwt, cu⟩)) (.ret (.normal, [vecOf 1 cw.toNat], [.ints o w l, .ints true true (pinsC ⟨cw, cs, cst, cwt, cu⟩ l)])) (.ret (.normal, [.slice none 0 0], [.ints o w l]))) .bad
  | _, _ => .bad
theorem pq_norm (o w : Bool) (n c m : Nat) (l k : List Int) (cf : Cf) (i : Int) : (normV 30 [5] 1 (unpack 30 [1, 2, 5, 6] (cqQ n c (vecOf 2 m) i) (slH o w l cf ++ [.ints true true k]))).get = some ([vecOf 1 m], [.ints o w l, .ints true true k]) := by kernel_rfl
theorem pq_normN (o w : Bool) (n c : Nat) (l : List Int) (cf : Cf) (i : Int) : (normV 30 [5] 1 (unpack 30 [1, 2, 5, 6] (cqQ n c (.slice none 0 0) i) (slH o w l cf))).get = some ([.slice none 0 0], [.ints o w l]) := by kernel_rfl
theorem pq_lp : LpSound Tryd.prog Tab 32 0 (loopV 30 [1, 2, 5, 6] [5] pqF 1) := by
  refine LpSound.of_loop (c := pqBody) Tryd.func32 (by kernel_rfl) (by kernel_rfl) fun X w0 h0 hB hT vals lh e vals' lh' hF hb => ?_
  unfold pqF at hF
  split at hF
  · rename_i n c o w l cw cs cst cwt cu
    rcases M.get_br_some hF with ⟨hc, hF2⟩ | ⟨_, hF2⟩
    · clear hF
      simp only [Bool.and_eq_true] at hc
      obtain ⟨hc1, hc2⟩ := hc
      obtain ⟨g1, g3⟩ := lenOK_iff.1 hc2
      have hr := rightC_iff.1 hc1
      rw [pq_loop]
      rcases M.get_br_some hF2 with ⟨hn, hF3⟩ | ⟨hn, hF3⟩
      · have hn' := Nat.eq_of_beq_eq_true hn
        simp only [M.get_ret, Option.some.injEq, Prod.mk.injEq] at hF3
        obtain ⟨rfl, rfl, rfl⟩ := hF3
        have hl := pq_run (cq0Env_ok X w0 h0 hB hT) o w c l ⟨cw, cs, cst, cwt, cu⟩ hr (by omega)
        rw [← hn'] at hl
        exact hl.runs.block_exit.norm (pq_norm o w n c cw.toNat l _ ⟨cw, cs, cst, cwt, cu⟩ _) (Nat.zero_le _)
      · simp only [M.get_ret, Option.some.injEq, Prod.mk.injEq] at hF3
        obtain ⟨rfl, rfl, rfl⟩ := hF3
        have hl := pq_runN (cq0Env_ok X w0 h0 hB hT) o w n c l ⟨cw, cs, cst, cwt, cu⟩ hr (fun e => by rw [e, Nat.beq_refl] at hn; cases hn)
        exact hl.runs.block_exit.norm (pq_normN o w n c l ⟨cw, cs, cst, cwt, cu⟩ _) (Nat.zero_le _)
    · cases hF2
  · cases hF
noncomputable def pqEnv : Env := mkEnv Tryd.prog cqFns [] md0 [(32, 0, loopV 30 [1, 2, 5, 6] [5] pqF 1)]
theorem pqEnv_ok (X : Nat → Prop) (w0 : World) (h0 : X 0) (hB : Bnd X w0) (hT : Tab w0) : EnvOK pqEnv X w0 := mkEnv_ok (fun e he => by cases he) (by kernel_rfl) cqFns_ok md0_ok (lpSounds_cons pq_lp lpSounds_nil) h0 hB hT
theorem pqF_tree (o w : Bool) (n c : Nat) (l : List Int) (cf : Cf) : (callV pqEnv 40 32 [cf.val, wv n c] [.ints o w l]).get =
    bif rightC cf && lenOK n l then bif Nat.beq n (cntN cf) then some (vecOf 1 cf.w.toNat, [.ints o w l, .ints true true (pinsC cf l)]) else some (.slice none 0 0, [.ints o w l]) else none := by kernel_rfl
theorem pinsQ_sound : Sound Tryd.prog Tab 32 pinsPO := by
  refine Sound.of_run ⟨Tryd.func32, by kernel_rfl, by kernel_rfl⟩ rfl rfl pqEnv_ok 40 fun args lh r hr => ?_
  unfold pinsPO at hr
  split at hr
  · rename_i cf n c o w l
    obtain ⟨cf, rfl, hr2⟩ := confM_some hr
    clear hr
    refine (pqF_tree o w n c l cf).trans ?_
    rcases M.get_br_some hr2 with ⟨hc, hr3⟩ | ⟨_, hr3⟩
    · rw [hc]
      rcases M.get_br_some hr3 with ⟨h, hr4⟩ | ⟨h, hr4⟩
      · rw [h]; exact hr4
      · rw [h]; exact hr4
    · cases hr3
  · cases hr
end Go.Proofs.YthfoljgaiincdaaDoor
