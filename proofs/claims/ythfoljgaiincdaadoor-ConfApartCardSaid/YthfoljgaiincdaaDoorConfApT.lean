
/- ConfApart: its loops. No condition of its own. -/
import Derived.Test.YthfoljgaiincdaaDoorConfL
namespace Go.Proofs.YthfoljgaiincdaaDoor
open Go.RowKit Go.Fld Go.Sx
set_option linter.unusedVariables false
set_option linter.unusedSimpArgs false
noncomputable def cpBody : Code := Tryd.f4.body.getD .skip
noncomputable def cpRound0 : Code := lpB (blkAt 0 cpBody)
noncomputable def cpRound2 : Code := lpB (blkAt 2 cpBody)
noncomputable def cpRound4 : Code := lpB (blkAt 4 cpBody)
noncomputable def cpRound6 : Code := lpB (blkAt 6 cpBody)
theorem cp_loop0 : blkAt 0 cpBody = .loop cpRound0 := by kernel_rfl
theorem cp_loop2 : blkAt 2 cpBody = .loop cpRound2 := by kernel_rfl
theorem cp_loop4 : blkAt 4 cpBody = .loop cpRound4 := by kernel_rfl
theorem cp_loop6 : blkAt 6 cpBody = .loop cpRound6 := by kernel_rfl
abbrev cpW (n : Nat) (v : Value) : List Value := [.pointer (some ⟨0, 0, none⟩), .bool true, .slice (some ⟨1, 0, none⟩) n n, v]
abbrev cpV (n : Nat) (v : Value) (i : Int) : List Value := cpW n v ++ [.int .i64 i]
abbrev cpH (cf : Cf) (sn al : List Int) : List Go.Sx.Blk := [.cells true true (cfCells cf), .ints true true sn, .ints true true al]
abbrev cpH0 (cf : Cf) (sn : List Int) : List Go.Sx.Blk := [.cells true true (cfCells cf), .ints true true sn, .cells true true [.int .i64 0, .int .i64 1, .int .i64 2]]
abbrev cpV0 : Value := .slice (some ⟨2, 0, none⟩) 3 3
theorem cp_tree0a (cf : Cf) (n : Nat) (sn : List Int) (i : Int) :
    (roundV clEnv 40 noLps 128 [1, 3, 6, 7, 8] 0 cpRound0 (unpack 128 [1, 3, 6, 7, 8] (cpV n cpV0 i) (cpH0 cf sn))).get =
    bif decide (i < cf.w) then some (.normal, cpV n (vecOf 2 5) (w64 (i + 1)), cpH cf sn [0, 1, 2, pinC cf i, grC cf i]) else some (.exit 0, cpV n cpV0 i, cpH0 cf sn) := by kernel_rfl
theorem cp_tree0 (cf : Cf) (n : Nat) (sn al : List Int) (m : Nat) (i : Int) :
    (roundV clEnv 40 noLps 128 [1, 3, 6, 7, 8] 0 cpRound0 (unpack 128 [1, 3, 6, 7, 8] (cpV n (vecOf 2 m) i) (cpH cf sn al))).get =
    bif decide (i < cf.w) then bt (Nat.beq m al.length) (bt (smallN (m + 2)) (some (.normal, cpV n (vecOf 2 (m + 2)) (w64 (i + 1)), cpH cf sn (al ++ [pinC cf i, grC cf i])))) else some (.exit 0, cpV n (vecOf 2 m) i, cpH cf sn al) := by kernel_rfl
theorem cp_tree2 (cf : Cf) (n : Nat) (sn al : List Int) (m : Nat) (i : Int) :
    (roundV clEnv 40 noLps 128 [1, 3, 6, 7, 9] 0 cpRound2 (unpack 128 [1, 3, 6, 7, 9] (cpV n (vecOf 2 m) i) (cpH cf sn al))).get =
    bif decide (i < cf.s) then bt (Nat.beq m al.length) (bt (smallN (m + 1)) (some (.normal, cpV n (vecOf 2 (m + 1)) (w64 (i + 1)), cpH cf sn (al ++ [cellC cf i])))) else some (.exit 2, cpV n (vecOf 2 m) i, cpH cf sn al) := by kernel_rfl
def cpAl {α : Type} (m : Nat) (al : List Int) (i : Int) (K : Option α) : Option α := bt (inRange i m) (bt (Nat.blt i.toNat al.length) K)
def cpSn {α : Type} (n : Nat) (sn : List Int) (i : Int) (K : Option α) : Option α := bt (inRange i n) (bt (Nat.blt (0 + i.toNat) sn.length) K)
theorem cp_norm0 (cf : Cf) (n : Nat) (sn al : List Int) (m : Nat) (i : Int) : (normV 128 [1, 3, 6, 7] 0 (unpack 128 [1, 3, 6, 7, 8] (cpV n (vecOf 2 m) i) (cpH cf sn al))).get = some (cpW n (vecOf 2 m), cpH cf sn al) := by kernel_rfl
theorem cp_norm2 (cf : Cf) (n : Nat) (sn al : List Int) (m : Nat) (i : Int) : (normV 128 [1, 3, 6, 7] 0 (unpack 128 [1, 3, 6, 7, 9] (cpV n (vecOf 2 m) i) (cpH cf sn al))).get = some (cpW n (vecOf 2 m), cpH cf sn al) := by kernel_rfl
theorem cp_norm4 (cf : Cf) (n : Nat) (sn al : List Int) (m : Nat) (i : Int) : (normV 128 [1, 3, 6, 7] 0 (unpack 128 [1, 3, 6, 7, 10] (cpV n (vecOf 2 m) i) (cpH cf sn al))).get = some (cpW n (vecOf 2 m), cpH cf sn al) := by kernel_rfl
theorem cp_norm6 (cf : Cf) (n : Nat) (sn al : List Int) (m : Nat) (i : Int) : (normV 128 [1, 3, 6, 7] 0 (unpack 128 [1, 3, 6, 7, 11] (cpV n (vecOf 2 m) i) (cpH cf sn al))).get = some (cpW n (vecOf 2 m), cpH cf sn al) := by kernel_rfl
theorem cp_tree4 (cf : Cf) (n : Nat) (sn al : List Int) (m : Nat) (i : Int) :
    (roundV clEnv 40 noLps 128 [1, 3, 6, 7, 10] 0 cpRound4 (unpack 128 [1, 3, 6, 7, 10] (cpV n (vecOf 2 m) i) (cpH cf sn al))).get =
    bif decide (i < (m : Int)) then cpAl m al i (bif decide (al.getD i.toNat 0 < 0) then some (.ret, cpV n (vecOf 2 m) i, cpH cf sn al) else cpAl m al i (bif decide (al.getD i.toNat 0 ≥ (n : Int)) then some (.ret, cpV n (vecOf 2 m) i, cpH cf sn al) else
      cpAl m al i (cpAl m al i (cpSn n sn (al.getD i.toNat 0) (cpSn n sn (al.getD i.toNat 0) (some (.normal, cpV n (vecOf 2 m) (w64 (i + 1)), cpH cf (sn.set (0 + (al.getD i.toNat 0).toNat) (w64 (sn.getD (0 + (al.getD i.toNat 0).toNat) 0 + 1))) al)))))))
    else some (.exit 4, cpV n (vecOf 2 m) i, cpH cf sn al) := by kernel_rfl
theorem cp_tree6 (cf : Cf) (n : Nat) (sn al : List Int) (m : Nat) (i : Int) :
    (roundV clEnv 40 noLps 128 [1, 3, 6, 7, 11] 0 cpRound6 (unpack 128 [1, 3, 6, 7, 11] (cpV n (vecOf 2 m) i) (cpH cf sn al))).get =
    bif decide (i < (n : Int)) then cpSn n sn i (bif sn.getD (0 + i.toNat) 0 != 1 then some (.ret, cpV n (vecOf 2 m) i, cpH cf sn al) else some (.normal, cpV n (vecOf 2 m) (w64 (i + 1)), cpH cf sn al))
    else some (.exit 6, cpV n (vecOf 2 m) i, cpH cf sn al) := by kernel_rfl
/-! ### The plain law -/
def apP (cf : Cf) : Nat → List Int
  | 0 => [0, 1, 2]
  | k + 1 => apP cf k ++ [pinC cf k, grC cf k]
def apS (cf : Cf) : Nat → List Int
  | 0 => apP cf cf.w.toNat
  | k + 1 => apS cf k ++ [cellC cf k]
def snL (n : Nat) (al : List Int) : Nat → List Int
  | 0 => List.replicate n 0
  | k + 1 => (snL n al k).set (al.getD k 0).toNat (w64 ((snL n al k).getD (al.getD k 0).toNat 0 + 1))
theorem apP_length (cf : Cf) : ∀ k, (apP cf k).length = 3 + 2 * k
  | 0 => rfl
  | k + 1 => by unfold apP; rw [List.length_append, apP_length cf k]; rfl
theorem apS_length (cf : Cf) : ∀ k, (apS cf k).length = 3 + 2 * cf.w.toNat + k
  | 0 => apP_length cf _
  | k + 1 => by unfold apS; rw [List.length_append, apS_length cf k]; rfl
theorem snL_length (n : Nat) (al : List Int) : ∀ k, (snL n al k).length = n
  | 0 => List.length_replicate ..
  | k + 1 => by unfold snL; rw [List.length_set, snL_length n al k]
def okAl (n : Nat) (al : List Int) : Bool := (List.range al.length).all fun k => decide (0 ≤ al.getD k 0) && decide (al.getD k 0 < (n : Int))
def chk (w s : Nat) : Bool :=
  okAl (3 + 2 * w + s) (apS ⟨w, s, 0, 0, 1⟩ s) && decide (snL (3 + 2 * w + s) (apS ⟨w, s, 0, 0, 1⟩ s) (3 + 2 * w + s) = List.replicate (3 + 2 * w + s) 1)
theorem chk_all : ((List.range 8).all fun w => (List.range 16).all fun s => chk (w + 1) (s + 1)) = true := by kernel_rfl
theorem chk_at {w s : Nat} (h0 : 1 ≤ w) (h1 : w ≤ 8) (h2 : 1 ≤ s) (h3 : s ≤ 16) : chk w s = true := by
  have h := chk_all
  rw [List.all_eq_true] at h
  have h := h (w - 1) (List.mem_range.2 (by omega))
  rw [List.all_eq_true] at h
  have h := h (s - 1) (List.mem_range.2 (by omega))
  rw [show w - 1 + 1 = w by omega, show s - 1 + 1 = s by omega] at h
  exact h
theorem apP_eq (w s st wt u : Int) : ∀ k, apP ⟨w, s, st, wt, u⟩ k = apP ⟨w, s, 0, 0, 1⟩ k
  | 0 => rfl
  | k + 1 => by unfold apP; rw [apP_eq w s st wt u k]; rfl
theorem apS_eq (w s st wt u : Int) : ∀ k, apS ⟨w, s, st, wt, u⟩ k = apS ⟨w, s, 0, 0, 1⟩ k
  | 0 => apP_eq w s st wt u _
  | k + 1 => by unfold apS; rw [apS_eq w s st wt u k]; rfl
structure ApOK (cf : Cf) : Prop where
  al : ∀ k, k < (apS cf cf.s.toNat).length → 0 ≤ (apS cf cf.s.toNat).getD k 0 ∧ (apS cf cf.s.toNat).getD k 0 < (cntN cf : Int)
  sn : snL (cntN cf) (apS cf cf.s.toNat) (cntN cf) = List.replicate (cntN cf) 1
  len : (apS cf cf.s.toNat).length = cntN cf
theorem ap_ok {cf : Cf} (h : RightC cf) : ApOK cf := by
  obtain ⟨w, s, st, wt, u⟩ := cf
  have hw := h.w
  have hs := h.s
  have hN := h.cntN
  simp only at hw hs
  obtain ⟨W, rfl⟩ : ∃ W : Nat, w = (W : Int) := ⟨w.toNat, by omega⟩
  obtain ⟨S, rfl⟩ : ∃ S : Nat, s = (S : Int) := ⟨s.toNat, by omega⟩
  have hn : cntN ⟨(W : Int), (S : Int), st, wt, u⟩ = 3 + 2 * W + S := by have := hN.1; simp only at this; omega
  have hc := chk_at (w := W) (s := S) (by omega) (by omega) (by omega) (by omega)
  unfold chk at hc
  rw [Bool.and_eq_true, decide_eq_true_eq] at hc
  have hl := apS_length ⟨(W : Int), (S : Int), st, wt, u⟩ S
  simp only [Int.toNat_natCast] at hl
  refine ⟨?_, ?_, ?_⟩
  · show ∀ k, k < (apS ⟨(W : Int), (S : Int), st, wt, u⟩ (S : Int).toNat).length → _
    rw [Int.toNat_natCast, hn, apS_eq]
    have := hc.1
    unfold okAl at this
    rw [List.all_eq_true] at this
    intro k hk
    have := this k (List.mem_range.2 hk)
    rw [Bool.and_eq_true, decide_eq_true_eq, decide_eq_true_eq] at this
    exact this
  · show snL _ (apS ⟨(W : Int), (S : Int), st, wt, u⟩ (S : Int).toNat) _ = _
    rw [Int.toNat_natCast, hn, apS_eq]
    exact hc.2
  · show (apS ⟨(W : Int), (S : Int), st, wt, u⟩ (S : Int).toNat).length = _
    rw [Int.toNat_natCast, hn]; exact hl
/-! ### The loops -/
theorem cp_rounds0 {X : Nat → Prop} {w0 : World} (hE : EnvOK clEnv X w0) (cf : Cf) (n : Nat) (sn : List Int) (hc : RightC cf) : ∀ (m k : Nat), 1 ≤ k → k + m = cf.w.toNat →
    LoopRunsB Tryd.prog X w0 0 0 cpRound0 (unpack 128 [1, 3, 6, 7, 8] (cpV n (vecOf 2 (3 + 2 * k)) k) (cpH cf sn (apP cf k))) (.exit 0) (unpack 128 [1, 3, 6, 7, 8] (cpV n (vecOf 2 (3 + 2 * cf.w.toNat)) cf.w.toNat) (cpH cf sn (apP cf cf.w.toNat)))
  | 0, k, h1, hk => by
    obtain rfl : k = cf.w.toNat := by omega
    have ht := cp_tree0 cf n sn (apP cf cf.w.toNat) (3 + 2 * cf.w.toNat) cf.w.toNat
    have hw := hc.w
    rw [decide_eq_false (by omega)] at ht
    exact LoopRunsB.exit (round_runs hE (noLps_ok _) ht (Nat.le_refl _) (Nat.zero_le _)) (by simp)
  | m + 1, k, h1, hk => by
    have hw := hc.w
    have ht := cp_tree0 cf n sn (apP cf k) (3 + 2 * k) k
    rw [decide_eq_true (by omega), bt_of (by rw [apP_length]; exact Nat.beq_refl _), bt_of (show smallN (3 + 2 * k + 2) = true from Nat.ble_eq_true_of_le (by omega)), w64_succ (by omega)] at ht
    exact LoopRunsB.step (round_runs hE (noLps_ok _) ht (Nat.le_refl _) (Nat.zero_le _)) (cp_rounds0 hE cf n sn hc m (k + 1) (by omega) (by omega))
theorem cp_rounds2 {X : Nat → Prop} {w0 : World} (hE : EnvOK clEnv X w0) (cf : Cf) (n : Nat) (sn : List Int) (hc : RightC cf) : ∀ (m k : Nat), k + m = cf.s.toNat →
    LoopRunsB Tryd.prog X w0 0 0 cpRound2 (unpack 128 [1, 3, 6, 7, 9] (cpV n (vecOf 2 (3 + 2 * cf.w.toNat + k)) k) (cpH cf sn (apS cf k))) (.exit 2) (unpack 128 [1, 3, 6, 7, 9] (cpV n (vecOf 2 (3 + 2 * cf.w.toNat + cf.s.toNat)) cf.s.toNat) (cpH cf sn (apS cf cf.s.toNat)))
  | 0, k, hk => by
    obtain rfl : k = cf.s.toNat := by omega
    have hs := hc.s
    have ht := cp_tree2 cf n sn (apS cf cf.s.toNat) (3 + 2 * cf.w.toNat + cf.s.toNat) cf.s.toNat
    rw [decide_eq_false (by omega)] at ht
    exact LoopRunsB.exit (round_runs hE (noLps_ok _) ht (Nat.le_refl _) (Nat.zero_le _)) (by simp)
  | m + 1, k, hk => by
    have hs := hc.s
    have hw := hc.w
    have ht := cp_tree2 cf n sn (apS cf k) (3 + 2 * cf.w.toNat + k) k
    rw [decide_eq_true (by omega), bt_of (by rw [apS_length]; exact Nat.beq_refl _), bt_of (show smallN (3 + 2 * cf.w.toNat + k + 1) = true from Nat.ble_eq_true_of_le (by omega)), w64_succ (by omega)] at ht
    exact LoopRunsB.step (round_runs hE (noLps_ok _) ht (Nat.le_refl _) (Nat.zero_le _)) (cp_rounds2 hE cf n sn hc m (k + 1) (by omega))
theorem cpAl_of {α : Type} {m : Nat} {al : List Int} (h : m = al.length) {i : Nat} (hi : i < m) {K : Option α} : cpAl m al i K = K := by
  unfold cpAl
  rw [bt_of (by unfold inRange; simp; omega), bt_of (by rw [Nat.blt_eq, Int.toNat_natCast]; omega)]
theorem cpSn_of {α : Type} {n : Nat} {sn : List Int} (h : n = sn.length) {x : Int} (h0 : 0 ≤ x) (h1 : x < n) {K : Option α} : cpSn n sn x K = K := by
  unfold cpSn
  rw [bt_of (by unfold inRange; simp; omega), bt_of (by rw [Nat.blt_eq]; omega)]
theorem cp_rounds4 {X : Nat → Prop} {w0 : World} (hE : EnvOK clEnv X w0) (cf : Cf) (n : Nat) (al : List Int) (hl : al.length ≤ 100) (ha : ∀ k, k < al.length → 0 ≤ al.getD k 0 ∧ al.getD k 0 < (n : Int)) : ∀ (m k : Nat), k + m = al.length →
    LoopRunsB Tryd.prog X w0 0 0 cpRound4 (unpack 128 [1, 3, 6, 7, 10] (cpV n (vecOf 2 al.length) k) (cpH cf (snL n al k) al)) (.exit 4) (unpack 128 [1, 3, 6, 7, 10] (cpV n (vecOf 2 al.length) al.length) (cpH cf (snL n al al.length) al))
  | 0, k, hk => by
    obtain rfl : k = al.length := by omega
    have ht := cp_tree4 cf n (snL n al al.length) al al.length al.length
    rw [decide_eq_false (by omega)] at ht
    exact LoopRunsB.exit (round_runs hE (noLps_ok _) ht (Nat.le_refl _) (Nat.zero_le _)) (by simp)
  | m + 1, k, hk => by
    obtain ⟨h0, h1⟩ := ha k (by omega)
    have ht := cp_tree4 cf n (snL n al k) al al.length k
    have hsl := (snL_length n al k).symm
    rw [decide_eq_true (by omega), cpAl_of rfl (by omega), cpAl_of rfl (by omega), cpAl_of rfl (by omega), cpAl_of rfl (by omega), Int.toNat_natCast, decide_eq_false (by omega), decide_eq_false (by omega), cpSn_of hsl h0 h1, cpSn_of hsl h0 h1, w64_succ (by omega), Nat.zero_add] at ht
    exact LoopRunsB.step (round_runs hE (noLps_ok _) ht (Nat.le_refl _) (Nat.zero_le _)) (cp_rounds4 hE cf n al hl ha m (k + 1) (by omega))
theorem cp_rounds6 {X : Nat → Prop} {w0 : World} (hE : EnvOK clEnv X w0) (cf : Cf) (n : Nat) (hn : n ≤ 100) (al : List Int) (m0 : Nat) : ∀ (m k : Nat), k + m = n →
    LoopRunsB Tryd.prog X w0 0 0 cpRound6 (unpack 128 [1, 3, 6, 7, 11] (cpV n (vecOf 2 m0) k) (cpH cf (List.replicate n 1) al)) (.exit 6) (unpack 128 [1, 3, 6, 7, 11] (cpV n (vecOf 2 m0) n) (cpH cf (List.replicate n 1) al))
  | 0, k, hk => by
    obtain rfl : k = n := by omega
    have ht := cp_tree6 cf k (List.replicate k 1) al m0 k
    rw [decide_eq_false (by omega)] at ht
    exact LoopRunsB.exit (round_runs hE (noLps_ok _) ht (Nat.le_refl _) (Nat.zero_le _)) (by simp)
  | m + 1, k, hk => by
    have ht := cp_tree6 cf n (List.replicate n 1) al m0 k
    have e : (List.replicate n (1 : Int)).getD (0 + (k : Int).toNat) 0 = 1 := by
      rw [Nat.zero_add, Int.toNat_natCast, List.getD_eq_getElem?_getD, List.getElem?_replicate, if_pos (by omega)]; rfl
    rw [decide_eq_true (by omega), cpSn_of (by rw [List.length_replicate]) (by omega) (by omega), e, bne_self_eq_false, w64_succ (by omega)] at ht
    exact LoopRunsB.step (round_runs hE (noLps_ok _) ht (Nat.le_refl _) (Nat.zero_le _)) (cp_rounds6 hE cf n hn al m0 m (k + 1) (by omega))
noncomputable def cpEnv (o0 o2 o4 o6 : Exit × List Value × List Go.Sx.Blk) (V0 V2 V4 V6 : List Value) (H0 H2 H4 H6 : List Go.Sx.Blk) : Env :=
  mkEnv Tryd.prog clFns [] cl1 [(4, 0, loopV 128 [1, 3, 6, 7, 8] [1, 3, 6, 7] (specC V0 H0 o0) 0), (4, 2, loopV 128 [1, 3, 6, 7, 9] [1, 3, 6, 7] (specC V2 H2 o2) 0), (4, 4, loopV 128 [1, 3, 6, 7, 10] [1, 3, 6, 7] (specC V4 H4 o4) 0), (4, 6, loopV 128 [1, 3, 6, 7, 11] [1, 3, 6, 7] (specC V6 H6 o6) 0)]
abbrev cpO (cf : Cf) (n m : Nat) (sn al : List Int) : Exit × List Value × List Go.Sx.Blk := (.normal, cpW n (vecOf 2 m), cpH cf sn al)
theorem cpEnv_ok (cf : Cf) (hc : RightC cf) (X : Nat → Prop) (w0 : World) (hX : X 0) (hB : Bnd X w0) (hT : Tab w0) :
    EnvOK (cpEnv (cpO cf (cntN cf) (3 + 2 * cf.w.toNat) (List.replicate (cntN cf) 0) (apP cf cf.w.toNat)) (cpO cf (cntN cf) (3 + 2 * cf.w.toNat + cf.s.toNat) (List.replicate (cntN cf) 0) (apS cf cf.s.toNat)) (cpO cf (cntN cf) (3 + 2 * cf.w.toNat + cf.s.toNat) (List.replicate (cntN cf) 1) (apS cf cf.s.toNat)) (cpO cf (cntN cf) (3 + 2 * cf.w.toNat + cf.s.toNat) (List.replicate (cntN cf) 1) (apS cf cf.s.toNat))
      (cpV (cntN cf) cpV0 0) (cpV (cntN cf) (vecOf 2 (3 + 2 * cf.w.toNat)) 0) (cpV (cntN cf) (vecOf 2 (3 + 2 * cf.w.toNat + cf.s.toNat)) 0) (cpV (cntN cf) (vecOf 2 (3 + 2 * cf.w.toNat + cf.s.toNat)) 0)
      (cpH0 cf (List.replicate (cntN cf) 0)) (cpH cf (List.replicate (cntN cf) 0) (apP cf cf.w.toNat)) (cpH cf (List.replicate (cntN cf) 0) (apS cf cf.s.toNat)) (cpH cf (List.replicate (cntN cf) 1) (apS cf cf.s.toNat))) X w0 := by
  have hA := ap_ok hc
  have hN := hc.cntN
  have hw := hc.w
  have hl := apS_length cf cf.s.toNat
  refine mkEnv_ok (fun e he => by cases he) (by kernel_rfl) clFns_ok cl1_ok (lpSounds_cons (lpSound_const (c := cpBody) Tryd.func4 (by kernel_rfl) (by kernel_rfl) fun X W a b c => ?_) <| lpSounds_cons (lpSound_const (c := cpBody) Tryd.func4 (by kernel_rfl) (by kernel_rfl) fun X W a b c => ?_) <| lpSounds_cons (lpSound_const (c := cpBody) Tryd.func4 (by kernel_rfl) (by kernel_rfl) fun X W a b c => ?_) <| lpSounds_cons (lpSound_const (c := cpBody) Tryd.func4 (by kernel_rfl) (by kernel_rfl) fun X W a b c => ?_) lpSounds_nil) hX hB hT
  · have hE := clEnv_ok X W a b c
    have ht := cp_tree0a cf (cntN cf) (List.replicate (cntN cf) 0) 0
    rw [decide_eq_true (show (0 : Int) < cf.w by omega)] at ht
    rw [cp_loop0]
    exact (LoopRunsB.step (round_runs hE (noLps_ok _) ht (Nat.le_refl _) (Nat.zero_le _)) (cp_rounds0 hE cf (cntN cf) (List.replicate (cntN cf) 0) hc (cf.w.toNat - 1) 1 (Nat.le_refl _) (by omega))).runs.block_exit.norm (cp_norm0 cf _ _ _ _ _) (Nat.le_refl _)
  · have hE := clEnv_ok X W a b c
    rw [cp_loop2]
    exact (cp_rounds2 hE cf (cntN cf) (List.replicate (cntN cf) 0) hc cf.s.toNat 0 (Nat.zero_add _)).runs.block_exit.norm (cp_norm2 cf _ _ _ _ _) (Nat.le_refl _)
  · have hE := clEnv_ok X W a b c
    rw [cp_loop4]
    have h := cp_rounds4 hE cf (cntN cf) (apS cf cf.s.toNat) (by rw [hA.len]; omega) hA.al (apS cf cf.s.toNat).length 0 (Nat.zero_add _)
    rw [hA.len, hA.sn] at h
    rw [hA.len] at hl
    rw [← hl]
    exact h.runs.block_exit.norm (cp_norm4 cf _ _ _ _ _) (Nat.le_refl _)
  · have hE := clEnv_ok X W a b c
    rw [cp_loop6]
    exact (cp_rounds6 hE cf (cntN cf) (by omega) (apS cf cf.s.toNat) (3 + 2 * cf.w.toNat + cf.s.toNat) (cntN cf) 0 (Nat.zero_add _)).runs.block_exit.norm (cp_norm6 cf _ _ _ _ _) (Nat.le_refl _)
noncomputable def cpEnvN : Env := mkEnv Tryd.prog clFns [] cl1 [(4, 0, fun _ _ => .bad), (4, 2, fun _ _ => .bad), (4, 4, fun _ _ => .bad), (4, 6, fun _ _ => .bad)]
theorem lp_bad {P : Program} {T : World → Prop} {f : FuncId} {fn : Func} {c : Code} {id : Nat} (hf : P.funcs[f]? = some fn) (hb : fn.body = some c) (ho : (onlyBlk id c).isSome = true) : LpSound P T f id (fun _ _ => .bad) :=
  ⟨fn, c, hf, hb, ho, fun X w0 h0 hB hT base s e s' hbs hs => by cases hs⟩
theorem cpEnvN_ok (X : Nat → Prop) (w0 : World) (hX : X 0) (hB : Bnd X w0) (hT : Tab w0) : EnvOK cpEnvN X w0 :=
  mkEnv_ok (fun e he => by cases he) (by kernel_rfl) clFns_ok cl1_ok (lpSounds_cons (lp_bad (c := cpBody) Tryd.func4 (by kernel_rfl) (by kernel_rfl)) <| lpSounds_cons (lp_bad (c := cpBody) Tryd.func4 (by kernel_rfl) (by kernel_rfl)) <| lpSounds_cons (lp_bad (c := cpBody) Tryd.func4 (by kernel_rfl) (by kernel_rfl)) <| lpSounds_cons (lp_bad (c := cpBody) Tryd.func4 (by kernel_rfl) (by kernel_rfl)) lpSounds_nil) hX hB hT
theorem cp_not (cf : Cf) : (call cpEnvN 60 4 [cf.val] []).run (Option Value) none (fun r => some r.1) = bif !rightC cf then isT else bif decide (cntC cf < 0) then isF else bif decide (cntC cf > 100) then isF else bif decide (cntC cf = cntC cf) then (bif decide (0 ≤ cntC cf) && decide (cntC cf ≤ 1048576) then none else none) else none := by kernel_rfl
def cpFin (cf : Cf) (m n : Nat) : Option Value := bif (m : Int) == (n : Int) then bif pinC cf cf.w == -1 then bif grC cf (-1) == -1 then some (.bool (cellC cf cf.s == -1)) else isF else isF else isF
theorem cp_all (cf c0 c2 c4 c6 : Cf) (n0 m0 n2 m2 n4 m4 n6 m6 : Nat) (s0 a0 s2 a2 s4 a4 s6 a6 : List Int) (V0 V2 V4 V6 : List Value) (H0 H2 H4 H6 : List Go.Sx.Blk) :
  (call (cpEnv (cpO c0 n0 m0 s0 a0) (cpO c2 n2 m2 s2 a2) (cpO c4 n4 m4 s4 a4) (cpO c6 n6 m6 s6 a6) V0 V2 V4 V6 H0 H2 H4 H6) 60 4 [cf.val] []).run (Option Value) none (fun r => some r.1) =
    bif !rightC cf then isT else bif decide (cntC cf < 0) then isF else bif decide (cntC cf > 100) then isF else bif decide (cntC cf = cntC cf) then (bif decide (0 ≤ cntC cf) && decide (cntC cf ≤ 1048576) then
      bt (sure (isIt (cpV (cntC cf).toNat cpV0 0) (cpH0 cf (List.replicate (cntC cf).toNat 0)) V0 H0)) (bt (sure (isIt (cpV n0 (vecOf 2 m0) 0) (cpH c0 s0 a0) V2 H2)) (bt (sure (isIt (cpV n2 (vecOf 2 m2) 0) (cpH c2 s2 a2) V4 H4)) (bt (sure (isIt (cpV n4 (vecOf 2 m4) 0) (cpH c4 s4 a4) V6 H6)) (cpFin c6 m6 n6)))) else none) else none := by kernel_rfl
theorem cp_walk (w : World) (hT : Tab w) (cf : Cf) : Calls Tryd.prog 4 #[cf.val] w fun e w' => e = .returned (.bool true) ∧ Below w.heap.size w w' := by
  cases hr : rightC cf with
  | false => exact call_start (cpEnvN_ok _ w hT.lt (bnd_self w) hT) rfl (args := [cf.val]) (fuel := 60) (by rw [cp_not, hr]; rfl) rfl (by simp [undef]) (by simp [Cf.val, Go.Sx.plain, plain1])
  | true =>
    have hc := rightC_iff.1 hr
    have hN := hc.cntN
    have hw := hc.w
    have hs := hc.s
    have e1 := hc.cntC
    have e3 : (cntC cf).toNat = cntN cf := by omega
    refine call_start (cpEnv_ok cf hc _ w hT.lt (bnd_self w) hT) rfl (args := [cf.val]) (fuel := 60) ?_ rfl (by simp [undef]) (by simp [Cf.val, Go.Sx.plain, plain1])
    rw [cp_all, hr, e3, Bool.not_true, cond_false, decide_eq_false (show ¬ cntC cf < 0 by omega), decide_eq_false (show ¬ cntC cf > 100 by omega), decide_eq_true (rfl : cntC cf = cntC cf), decide_eq_true (show 0 ≤ cntC cf by omega), decide_eq_true (show cntC cf ≤ 1048576 by omega), cond_false, cond_false, cond_true,
      bt_of (isIt_refl _ _), bt_of (isIt_refl _ _), bt_of (isIt_refl _ _), bt_of (isIt_refl _ _)]
    unfold cpFin
    have q1 : (((3 + 2 * cf.w.toNat + cf.s.toNat : Nat) : Int) == (cntN cf : Int)) = true := by simp; omega
    have q2 : (pinC cf cf.w == -1) = true := by unfold pinC inI; rw [if_neg (by simp)]; rfl
    have q3 : (grC cf (-1) == -1) = true := by unfold grC inI; rw [if_neg (by simp)]; rfl
    have q4 : (cellC cf cf.s == -1) = true := by unfold cellC inI; rw [if_neg (by simp)]; rfl
    rw [q1, q2, q3, q4]; rfl
end Go.Proofs.YthfoljgaiincdaaDoor
