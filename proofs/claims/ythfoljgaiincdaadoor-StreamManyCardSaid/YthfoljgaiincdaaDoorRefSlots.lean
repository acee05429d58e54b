
/- The slots of words: the document's Slots. No condition of its own. -/
import Derived.Test.YthfoljgaiincdaaDoorRefMade
namespace Go.Proofs.YthfoljgaiincdaaDoor
open Go.RowKit Go.Fld Go.Sx
set_option linter.unusedVariables false
set_option linter.unusedSimpArgs false
def sltI (s : Slt) : Nat → Int
  | 0 => s.st
  | 1 => s.own
  | 2 => s.str
  | 5 => s.uses
  | 6 => s.gen
  | 7 => s.ep
  | 8 => s.ver
  | _ => 0
def sltB (s : Slt) : Nat → Bool
  | 3 => s.brk
  | 4 => s.mrk
  | _ => false
/-- Rows that are slots. -/
def slR (D : Nat → Slt) : Go.Sx.Rows := ⟨slKs, fun i j => sltI (D i) j, fun i j => sltB (D i) j⟩
abbrev sltCells (s : Slt) : List Value := [.int .i64 s.st, .int .i64 s.own, .int .i64 s.str, .bool s.brk, .bool s.mrk, .int .i64 s.uses, .int .i64 s.gen, .int .i64 s.ep, .int .i64 s.ver]
theorem slR_slot (D : Nat → Slt) (i : Nat) : slotR (slR D).gi (slR D).gb i = D i := rfl
theorem slR_more (D : Nat → Slt) (m : Nat) : moreRow m (sltCells (D m)) (slR D) = slR D := by
  unfold moreRow slR
  congr 1
  · funext i j
    cases hb : Nat.beq i m with
    | false => rfl
    | true =>
      have e := Nat.eq_of_beq_eq_true hb
      subst e
      rw [cond_true]
      match j with
      | 0 | 1 | 2 | 3 | 4 | 5 | 6 | 7 | 8 => rfl
      | j + 9 => rfl
  · funext i j
    cases hb : Nat.beq i m with
    | false => rfl
    | true =>
      have e := Nat.eq_of_beq_eq_true hb
      subst e
      rw [cond_true]
      match j with
      | 0 | 1 | 2 | 3 | 4 | 5 | 6 | 7 | 8 => rfl
      | j + 9 => rfl
theorem slR_first (D : Nat → Slt) : ∀ i j, i < 1 → j < 9 → ((rowOf (sltCells (D 0))).at i j).val = ((slR D).at i j).val := by
  intro i j hi hj
  obtain rfl : i = 0 := by omega
  match j, hj with
  | 0, _ | 1, _ | 2, _ | 3, _ | 4, _ | 5, _ | 6, _ | 7, _ | 8, _ => rfl
noncomputable def slFns : List (FuncId × Func) := [(30, Tryd.f30)]
theorem slFns_ok : ∀ e ∈ slFns, FnOK Tryd.prog e.1 e.2 := fns_ok_cons ⟨Tryd.func30, by kernel_rfl, by kernel_rfl⟩ <| fns_ok_nil rfl
noncomputable def sl0Env : Env := mkEnv Tryd.prog slFns [] md0 []
theorem sl0Env_ok (X : Nat → Prop) (w0 : World) (h0 : X 0) (hB : Bnd X w0) (hT : Tab w0) : EnvOK sl0Env X w0 := mkEnv_ok (fun e he => by cases he) (by kernel_rfl) slFns_ok md0_ok lpSounds_nil h0 hB hT
noncomputable def slBody : Code := Tryd.f30.body.getD .skip
noncomputable def slRound : Code := lpB (blkAt 0 slBody)
theorem sl_loop : blkAt 0 slBody = .loop slRound := by kernel_rfl
abbrev slQ (s1 : Bool) (n c : Nat) (v : Value) (i : Int) : List Value := [slV s1 0 n c, .pointer (some ⟨1, 0, none⟩), v, .int .i64 i]
abbrev slH (o w : Bool) (l : List Int) (cf : Cf) : List Go.Sx.Blk := [.ints o w l, .cells true true (cfCells cf)]
def slD (cf : Cf) (l : List Int) (i : Nat) : Slt := slt0 (decA (l.getD (cellC cf i).toNat 0))
def slX (s1 : Bool) (cf : Cf) (n : Nat) (l : List Int) (i : Int) (K : Slt → Option (Exit × List Value × List Go.Sx.Blk)) (E : Option (Exit × List Value × List Go.Sx.Blk)) : Option (Exit × List Value × List Go.Sx.Blk) :=
  bif decide (i < cf.s) then bif (n : Int) == cntQ cf then bif inRange (cellC cf i) n then bif Nat.blt (ixB s1 (cellC cf i)) l.length then K (slt0 (decA (l.getD (ixB s1 (cellC cf i)) 0))) else none else none else E else E
theorem sl_tree0 (s1 o w : Bool) (n c : Nat) (l : List Int) (cf : Cf) (i : Int) :
    (roundV sl0Env 30 noLps 37 [1, 2, 5, 6] 1 slRound (unpack 37 [1, 2, 5, 6] (slQ s1 n c (.slice none 0 0) i) (slH o w l cf))).get =
    slX s1 cf n l i (fun s => some (.normal, slQ s1 n c (vecOf 2 1) (w64 (i + 1)), slH o w l cf ++ [.rows true true 9 1 (rowOf (sltCells s))])) (some (.exit 0, slQ s1 n c (.slice none 0 0) i, slH o w l cf)) := by
  cases s1 <;> kernel_rfl
theorem sl_tree1 (s1 o w : Bool) (n c m : Nat) (R : Nat → Slt) (l : List Int) (cf : Cf) (i : Int) :
    (roundV sl0Env 30 noLps 37 [1, 2, 5, 6] 1 slRound (unpack 37 [1, 2, 5, 6] (slQ s1 n c (vecOf 2 m) i) (slH o w l cf ++ [.rows true true 9 m (slR R)]))).get =
    slX s1 cf n l i (fun s => bif Nat.beq m m then bif smallN (m + 1) && true then some (.normal, slQ s1 n c (vecOf 2 (m + 1)) (w64 (i + 1)), slH o w l cf ++ [.rows true true 9 (m + 1) (moreRow m (sltCells s) (slR R))]) else none else none) (some (.exit 0, slQ s1 n c (vecOf 2 m) i, slH o w l cf ++ [.rows true true 9 m (slR R)])) := by
  cases s1 <;> kernel_rfl
theorem slX_in {s1 : Bool} {cf : Cf} (h : RightC cf) {l : List Int} (hl : l.length = cntN cf) {i : Nat} (hi : (i : Int) < cf.s) {K : Slt → Option (Exit × List Value × List Go.Sx.Blk)} {E : Option (Exit × List Value × List Go.Sx.Blk)} : slX s1 cf (cntN cf) l i K E = K (slD cf l i) := by
  obtain ⟨g1, g2⟩ := cell_in h hi hl
  have hq := h.cntQ
  have hc := h.cntN
  unfold slX slD
  rw [decide_eq_true hi, show (((cntN cf : Nat) : Int) == cntQ cf) = true by simp; omega, g1]
  have e : ixB s1 (cellC cf i) = (cellC cf i).toNat := by unfold ixB; cases s1 <;> simp
  rw [Nat.zero_add] at g2
  rw [e, g2]; rfl
theorem slX_out {s1 : Bool} {cf : Cf} {n : Nat} {l : List Int} {i : Int} (hi : ¬ i < cf.s) {K : Slt → Option (Exit × List Value × List Go.Sx.Blk)} {E : Option (Exit × List Value × List Go.Sx.Blk)} : slX s1 cf n l i K E = E := by
  unfold slX; rw [decide_eq_false hi]; rfl
theorem sl_rounds {X : Nat → Prop} {w0 : World} (hE : EnvOK sl0Env X w0) (s1 o w : Bool) (c : Nat) (l : List Int) (cf : Cf) (h : RightC cf) (hl : l.length = cntN cf) : ∀ (k i : Nat), 1 ≤ i → i + k = cf.s.toNat →
    LoopRunsB Tryd.prog X w0 0 1 slRound (unpack 37 [1, 2, 5, 6] (slQ s1 (cntN cf) c (vecOf 2 i) i) (slH o w l cf ++ [.rows true true 9 i (slR (slD cf l))])) (.exit 0) (unpack 37 [1, 2, 5, 6] (slQ s1 (cntN cf) c (vecOf 2 cf.s.toNat) cf.s.toNat) (slH o w l cf ++ [.rows true true 9 cf.s.toNat (slR (slD cf l))]))
  | 0, i, h1, hi => by
    have ht := sl_tree1 s1 o w (cntN cf) c i (slD cf l) l cf i
    rw [slX_out (by omega)] at ht
    obtain rfl : i = cf.s.toNat := by omega
    exact LoopRunsB.exit (round_runs hE (noLps_ok _) ht (Nat.zero_le _) (show 1 ≤ 3 by decide)) (by simp)
  | k + 1, i, h1, hi => by
    have ht := sl_tree1 s1 o w (cntN cf) c i (slD cf l) l cf i
    have hs := h.s
    rw [slX_in h hl (by omega), Nat.beq_refl, show smallN (i + 1) = true from Nat.ble_eq_true_of_le (by omega), w64_succ (by omega), slR_more] at ht
    exact LoopRunsB.step (round_runs hE (noLps_ok _) ht (Nat.zero_le _) (show 1 ≤ 3 by decide)) (sl_rounds hE s1 o w c l cf h hl k (i + 1) (by omega) (by omega))
theorem sl_run {X : Nat → Prop} {w0 : World} (hE : EnvOK sl0Env X w0) (s1 o w : Bool) (c : Nat) (l : List Int) (cf : Cf) (h : RightC cf) (hl : l.length = cntN cf) :
    LoopRunsB Tryd.prog X w0 0 1 slRound (unpack 37 [1, 2, 5, 6] (slQ s1 (cntN cf) c (.slice none 0 0) 0) (slH o w l cf)) (.exit 0) (unpack 37 [1, 2, 5, 6] (slQ s1 (cntN cf) c (vecOf 2 cf.s.toNat) cf.s.toNat) (slH o w l cf ++ [.rows true true 9 cf.s.toNat (slR (slD cf l))])) := by
  have ht := sl_tree0 s1 o w (cntN cf) c l cf 0
  have hs := h.s
  have e := slX_in (s1 := s1) h hl (i := 0) (by omega) (K := fun s => some (.normal, slQ s1 (cntN cf) c (vecOf 2 1) (w64 (0 + 1)), slH o w l cf ++ [.rows true true 9 1 (rowOf (sltCells s))])) (E := some (.exit 0, slQ s1 (cntN cf) c (.slice none 0 0) 0, slH o w l cf))
  have ht' := ht.trans e
  have hr := (round_runs hE (noLps_ok _) ht' (Nat.zero_le _) (show 1 ≤ 2 by decide)).rows 2 (o := true) (R := rowOf (sltCells (slD cf l 0))) (slR (slD cf l)) rfl (slR_first (slD cf l)) (by decide)
  exact LoopRunsB.step hr (sl_rounds hE s1 o w c l cf h hl (cf.s.toNat - 1) 1 (Nat.le_refl _) (by omega))
def slF (vals : List Value) (lh : List Go.Sx.Blk) : M (Exit × List Value × List Go.Sx.Blk) :=
  match vals, lh with
  | [a, .pointer (some ⟨1, 0, none⟩), .slice none 0 0, .int .i64 0], [.ints o w l, .cells true true [.int .i64 cw, .int .i64 cs, .int .i64 cst, .int .i64 cwt, .int .i64 cu]] =>
    match slOf 0 a with
    | some (_, n, _) => .br (rightC ⟨cw, cs, cst, cwt, cu⟩ && okM n l && Nat.beq n (cntN ⟨cw, cs, cst, cwt, cu⟩)) (.ret (.normal, [vecOf 1 cs.toNat], [.ints o w l, .rows true true 9 cs.toNat (slR (slD ⟨cw, cs, cst, cwt, cu⟩ l))])) .bad
    | _ => .bad
  | _, _ => .bad
theorem sl_norm (s1 o w : Bool) (n c m : Nat) (l : List Int) (cf : Cf) (i : Int) (D : Nat → Slt) : (normV 37 [5] 1 (unpack 37 [1, 2, 5, 6] (slQ s1 n c (vecOf 2 m) i) (slH o w l cf ++ [.rows true true 9 m (slR D)]))).get = some ([vecOf 1 m], [.ints o w l, .rows true true 9 m (slR D)]) := by kernel_rfl
theorem sl_lp : LpSound Tryd.prog Tab 30 0 (loopV 37 [1, 2, 5, 6] [5] slF 1) := by
  refine LpSound.of_loop (c := slBody) Tryd.func30 (by kernel_rfl) (by kernel_rfl) fun X w0 h0 hB hT vals lh e vals' lh' hF hb => ?_
  unfold slF at hF
  split at hF
  · rename_i a o w l cw cs cst cwt cu
    split at hF
    · rename_i s1 n c ha
      obtain rfl := slOf_some ha
      rcases M.get_br_some hF with ⟨hc, hF2⟩ | ⟨_, hF2⟩
      · clear hF
        simp only [Bool.and_eq_true] at hc
        obtain ⟨⟨hc1, hc2⟩, hc3⟩ := hc
        obtain ⟨g1, g2, g3⟩ := okM_iff.1 hc2
        have hn := Nat.eq_of_beq_eq_true hc3
        simp only [M.get_ret, Option.some.injEq, Prod.mk.injEq] at hF2
        obtain ⟨rfl, rfl, rfl⟩ := hF2
        have hl := sl_run (sl0Env_ok X w0 h0 hB hT) s1 o w c l ⟨cw, cs, cst, cwt, cu⟩ (rightC_iff.1 hc1) (by omega)
        rw [sl_loop]
        rw [← hn] at hl
        exact hl.runs.block_exit.norm (sl_norm s1 o w n c cs.toNat l ⟨cw, cs, cst, cwt, cu⟩ _ _) (Nat.zero_le _)
      · cases hF2
    · cases hF
  · cases hF
noncomputable def slEnv : Env := mkEnv Tryd.prog slFns [] md0 [(30, 0, loopV 37 [1, 2, 5, 6] [5] slF 1)]
theorem slEnv_ok (X : Nat → Prop) (w0 : World) (h0 : X 0) (hB : Bnd X w0) (hT : Tab w0) : EnvOK slEnv X w0 := mkEnv_ok (fun e he => by cases he) (by kernel_rfl) slFns_ok md0_ok (lpSounds_cons sl_lp lpSounds_nil) h0 hB hT
theorem slF_tree (s1 o w : Bool) (n c : Nat) (l : List Int) (cf : Cf) : (callV slEnv 40 30 [cf.val, slV s1 0 n c] [.ints o w l]).get =
    bif rightC cf && okM n l && Nat.beq n (cntN cf) then some (vecOf 1 cf.s.toNat, [.ints o w l, .rows true true 9 cf.s.toNat (slR (slD cf l))]) else none := by
  cases s1 <;> kernel_rfl
def slotsO : Orc := fun args lh => match args, lh with
  | [cf, a], [.ints o w l] => confM cf fun cf =>
    match slOf 0 a with
    | some (_, n, _) => .br (rightC cf && okM n l && Nat.beq n (cntN cf)) (.ret (vecOf 1 cf.s.toNat, [.ints o w l, .rows true true 9 cf.s.toNat (slR (slD cf l))])) .bad
    | _ => .bad
  | _, _ => .bad
theorem slots_sound : Sound Tryd.prog Tab 30 slotsO := by
  refine Sound.of_run ⟨Tryd.func30, by kernel_rfl, by kernel_rfl⟩ rfl rfl slEnv_ok 40 fun args lh r hr => ?_
  unfold slotsO at hr
  split at hr
  · rename_i cf a o w l
    obtain ⟨cf, rfl, hr2⟩ := confM_some hr
    clear hr
    split at hr2
    · rename_i s1 n c ha
      obtain rfl := slOf_some ha
      rcases M.get_br_some hr2 with ⟨hc, hr3⟩ | ⟨_, hr3⟩
      · simp only [M.get_ret, Option.some.injEq] at hr3; subst hr3
        refine (slF_tree s1 o w n c l cf).trans ?_
        rw [hc]; rfl
      · cases hr3
    · cases hr2
  · cases hr
end Go.Proofs.YthfoljgaiincdaaDoor
