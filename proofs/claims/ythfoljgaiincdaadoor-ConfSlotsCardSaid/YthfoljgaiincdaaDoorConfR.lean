
/- Are two lists of slots one; ConfSlots. No condition of its own. -/
import Derived.Test.YthfoljgaiincdaaDoorConfQ
namespace Go.Proofs.YthfoljgaiincdaaDoor
open Go.RowKit Go.Fld Go.Sx
set_option linter.unusedVariables false
set_option linter.unusedSimpArgs false
noncomputable def smFns : List (FuncId × Func) := [(28, Tryd.f28), (25, Tryd.f25)]
theorem smFns_ok : ∀ e ∈ smFns, FnOK Tryd.prog e.1 e.2 :=
  fns_ok_cons ⟨Tryd.func28, by kernel_rfl, by kernel_rfl⟩ <| fns_ok_cons ⟨Tryd.func25, by kernel_rfl, by kernel_rfl⟩ <| fns_ok_nil rfl
noncomputable def sm0Env : Env := mkEnv Tryd.prog smFns [slotEq] [] []
theorem sm0Env_ok (X : Nat → Prop) (w0 : World) (h0 : X 0) (hB : Bnd X w0) (hT : Tab w0) : EnvOK sm0Env X w0 := mkEnv_ok slotEq_ok (by kernel_rfl) smFns_ok sounds_nil lpSounds_nil h0 hB hT
noncomputable def smBody : Code := Tryd.f28.body.getD .skip
noncomputable def smRound : Code := lpB (blkAt 0 smBody)
theorem sm_loop : blkAt 0 smBody = .loop smRound := by kernel_rfl
abbrev smV (m : Nat) (i : Int) : List Value := [vecOf 0 m, vecOf 1 m, .bool false, .int .i64 i]
abbrev smH (m : Nat) (D D' : Nat → Slt) : List Go.Sx.Blk := [.rows true true 9 m (slR D), .rows true true 9 m (slR D')]
def sltE (s t : Slt) : Bool := s.st == t.st && (s.own == t.own && (s.str == t.str && (s.brk == t.brk && (s.mrk == t.mrk && (s.uses == t.uses && (s.gen == t.gen && (s.ep == t.ep && (s.ver == t.ver && true))))))))
theorem sm_tree (m : Nat) (D D' : Nat → Slt) (i : Int) :
    (roundV sm0Env 30 noLps 26 [0, 1, 4, 5] 2 smRound (unpack 26 [0, 1, 4, 5] (smV m i) (smH m D D'))).get =
    bif decide (i < (m : Int)) then bif inRange i m then bif Nat.blt i.toNat m then bif inRange i m then bif Nat.blt i.toNat m then bif !sltE (D i.toNat) (D' i.toNat) then some (.ret, smV m i, smH m D D') else some (.normal, smV m (w64 (i + 1)), smH m D D') else none else none else none else none else some (.exit 0, smV m i, smH m D D') := by kernel_rfl
theorem sm_treeN : (roundV sm0Env 30 noLps 26 [0, 1, 4, 5] 0 smRound (unpack 26 [0, 1, 4, 5] [.slice none 0 0, .slice none 0 0, .bool false, .int .i64 0] [])).get = some (.exit 0, [.slice none 0 0, .slice none 0 0, .bool false, .int .i64 0], []) := by kernel_rfl
theorem in_treeN : (roundV sm0Env 30 noLps 26 [0, 1, 4, 5] 0 intsRound (unpack 26 [0, 1, 4, 5] [.slice none 0 0, .slice none 0 0, .bool false, .int .i64 0] [])).get = some (.exit 0, [.slice none 0 0, .slice none 0 0, .bool false, .int .i64 0], []) := by kernel_rfl
theorem sltE_refl (s : Slt) : sltE s s = true := by unfold sltE; simp
theorem sm_rounds {X : Nat → Prop} {w0 : World} (hE : EnvOK sm0Env X w0) (m : Nat) (D D' : Nat → Slt) (hm : m ≤ 1000) (hD : ∀ i, i < m → D i = D' i) : ∀ (k i : Nat), i + k = m →
    LoopRunsB Tryd.prog X w0 0 2 smRound (unpack 26 [0, 1, 4, 5] (smV m i) (smH m D D')) (.exit 0) (unpack 26 [0, 1, 4, 5] (smV m m) (smH m D D'))
  | 0, i, hi => by
    obtain rfl : i = m := by omega
    have ht := sm_tree i D D' i
    rw [decide_eq_false (by omega)] at ht
    exact LoopRunsB.exit (round_runs hE (noLps_ok _) ht (Nat.zero_le _) (Nat.le_refl _)) (by simp)
  | k + 1, i, hi => by
    have ht := sm_tree m D D' i
    rw [decide_eq_true (by omega), show inRange (i : Int) m = true by unfold inRange; simp; omega, Int.toNat_natCast, show Nat.blt i m = true by rw [Nat.blt_eq]; omega, hD i (by omega), sltE_refl, w64_succ (by omega)] at ht
    exact LoopRunsB.step (round_runs hE (noLps_ok _) ht (Nat.zero_le _) (Nat.le_refl _)) (sm_rounds hE m D D' hm hD k (i + 1) (by omega))
theorem sm_norm (m : Nat) (D D' : Nat → Slt) (i : Int) : (normV 26 [4] 2 (unpack 26 [0, 1, 4, 5] (smV m i) (smH m D D'))).get = some ([.bool false], smH m D D') := by kernel_rfl
theorem sm_normN : (normV 26 [4] 0 (unpack 26 [0, 1, 4, 5] [.slice none 0 0, .slice none 0 0, .bool false, .int .i64 0] [])).get = some ([.bool false], []) := by kernel_rfl
def smOK (m : Nat) (R R' : Go.Sx.Rows) : Prop := m ≤ 1000 ∧ ∃ D D', R = slR D ∧ R' = slR D' ∧ ∀ i, i < m → D i = D' i
noncomputable def smF (vals : List Value) (lh : List Go.Sx.Blk) : M (Exit × List Value × List Go.Sx.Blk) :=
  match vals, lh with
  | [.slice (some ⟨0, 0, some 1⟩) m 0, .slice (some ⟨1, 0, some 1⟩) m1 0, .bool false, .int .i64 0], [.rows true true 9 m2 R, .rows true true 9 m3 R'] => .br (Nat.beq m1 m && Nat.beq m2 m && Nat.beq m3 m && sure (smOK m R R')) (.ret (.normal, [.bool false], [.rows true true 9 m R, .rows true true 9 m R'])) .bad
  | _, _ => .bad
theorem sm_lp : LpSound Tryd.prog Tab 28 0 (loopV 26 [0, 1, 4, 5] [4] smF 2) := by
  refine LpSound.of_loop (c := smBody) Tryd.func28 (by kernel_rfl) (by kernel_rfl) fun X w0 h0 hB hT vals lh e vals' lh' hF hb => ?_
  unfold smF at hF
  split at hF
  · rename_i m m1 m2 R m3 R'
    rcases M.get_br_some hF with ⟨hc, hF2⟩ | ⟨_, hF2⟩
    · clear hF
      simp only [Bool.and_eq_true] at hc
      obtain ⟨⟨⟨c1, c2⟩, c3⟩, c4⟩ := hc
      obtain rfl := Nat.eq_of_beq_eq_true c1
      obtain rfl := Nat.eq_of_beq_eq_true c2
      obtain rfl := Nat.eq_of_beq_eq_true c3
      obtain ⟨hm, D, D', rfl, rfl, hD⟩ := sure_iff.1 c4
      simp only [M.get_ret, Option.some.injEq, Prod.mk.injEq] at hF2
      obtain ⟨rfl, rfl, rfl⟩ := hF2
      have hl := sm_rounds (sm0Env_ok X w0 h0 hB hT) _ D D' hm hD _ 0 (Nat.zero_add _)
      rw [sm_loop]
      exact hl.runs.block_exit.norm (sm_norm _ D D' _) (Nat.zero_le _)
    · cases hF2
  · cases hF
theorem smN_lp : LpSound Tryd.prog Tab 28 0 (loopV 26 [0, 1, 4, 5] [4] (specC [.slice none 0 0, .slice none 0 0, .bool false, .int .i64 0] [] (.normal, [.bool false], [])) 0) := by
  refine lpSound_const (c := smBody) Tryd.func28 (by kernel_rfl) (by kernel_rfl) fun X W0 h0 hB hT => ?_
  rw [sm_loop]
  exact (LoopRunsB.exit (round_runs (sm0Env_ok X W0 h0 hB hT) (noLps_ok _) sm_treeN (Nat.zero_le _) (Nat.le_refl _)) (by simp)).runs.block_exit.norm sm_normN (Nat.zero_le _)
theorem inN_lp : LpSound Tryd.prog Tab 25 0 (loopV 26 [0, 1, 4, 5] [4] (specC [.slice none 0 0, .slice none 0 0, .bool false, .int .i64 0] [] (.normal, [.bool false], [])) 0) := by
  refine lpSound_const (c := intsBody) Tryd.func25 (by kernel_rfl) (by kernel_rfl) fun X W0 h0 hB hT => ?_
  rw [ints_loop]
  exact (LoopRunsB.exit (round_runs (sm0Env_ok X W0 h0 hB hT) (noLps_ok _) in_treeN (Nat.zero_le _) (Nat.le_refl _)) (by simp)).runs.block_exit.norm sm_normN (Nat.zero_le _)
noncomputable def smEnv : Env := mkEnv Tryd.prog smFns [slotEq] [] [(28, 0, loopV 26 [0, 1, 4, 5] [4] smF 2)]
theorem smEnv_ok (X : Nat → Prop) (w0 : World) (h0 : X 0) (hB : Bnd X w0) (hT : Tab w0) : EnvOK smEnv X w0 := mkEnv_ok slotEq_ok (by kernel_rfl) smFns_ok sounds_nil (lpSounds_cons sm_lp lpSounds_nil) h0 hB hT
noncomputable def snEnv : Env := mkEnv Tryd.prog smFns [slotEq] [] [(28, 0, loopV 26 [0, 1, 4, 5] [4] (specC [.slice none 0 0, .slice none 0 0, .bool false, .int .i64 0] [] (.normal, [.bool false], [])) 0), (25, 0, loopV 26 [0, 1, 4, 5] [4] (specC [.slice none 0 0, .slice none 0 0, .bool false, .int .i64 0] [] (.normal, [.bool false], [])) 0)]
theorem snEnv_ok (X : Nat → Prop) (w0 : World) (h0 : X 0) (hB : Bnd X w0) (hT : Tab w0) : EnvOK snEnv X w0 := mkEnv_ok slotEq_ok (by kernel_rfl) smFns_ok sounds_nil (lpSounds_cons smN_lp <| lpSounds_cons inN_lp lpSounds_nil) h0 hB hT
theorem smY_tree (m : Nat) (R R' : Go.Sx.Rows) : (callV smEnv 40 28 [vecOf 0 m, vecOf 1 m] [.rows true true 9 m R, .rows true true 9 m R']).get =
    bif (m : Int) != (m : Int) then some (.bool false, [.rows true true 9 m R, .rows true true 9 m R']) else bif Nat.beq m m && Nat.beq m m && Nat.beq m m && sure (smOK m R R') then some (.bool true, [.rows true true 9 m R, .rows true true 9 m R']) else none := by kernel_rfl
theorem smN_tree : (callV snEnv 40 28 [.slice none 0 0, .slice none 0 0] []).get = bif sure (([Value.slice none 0 0, .slice none 0 0, .bool false, .int .i64 0] : List Value) = [Value.slice none 0 0, .slice none 0 0, .bool false, .int .i64 0] ∧ ([] : List Go.Sx.Blk) = []) then some (.bool true, []) else none := by kernel_rfl
theorem inN_tree : (callV snEnv 40 25 [.slice none 0 0, .slice none 0 0] []).get = bif sure (([Value.slice none 0 0, .slice none 0 0, .bool false, .int .i64 0] : List Value) = [Value.slice none 0 0, .slice none 0 0, .bool false, .int .i64 0] ∧ ([] : List Go.Sx.Blk) = []) then some (.bool true, []) else none := by kernel_rfl
noncomputable def sameYO : Orc := fun args lh => match args, lh with
  | [.slice (some ⟨0, 0, some 1⟩) m 0, .slice (some ⟨1, 0, some 1⟩) m1 0], [.rows true true 9 m2 R, .rows true true 9 m3 R'] => .br (Nat.beq m1 m && Nat.beq m2 m && Nat.beq m3 m && sure (smOK m R R')) (.ret (.bool true, [.rows true true 9 m R, .rows true true 9 m R'])) .bad
  | _, _ => .bad
theorem sameY_sound : Sound Tryd.prog Tab 28 sameYO := by
  refine Sound.of_run ⟨Tryd.func28, by kernel_rfl, by kernel_rfl⟩ rfl rfl smEnv_ok 40 fun args lh r hr => ?_
  unfold sameYO at hr
  split at hr
  · rename_i m m1 m2 R m3 R'
    rcases M.get_br_some hr with ⟨hc, hr2⟩ | ⟨_, hr2⟩
    · have hc' := hc
      simp only [Bool.and_eq_true] at hc'
      obtain ⟨⟨⟨c1, c2⟩, c3⟩, c4⟩ := hc'
      obtain rfl := Nat.eq_of_beq_eq_true c1
      obtain rfl := Nat.eq_of_beq_eq_true c2
      obtain rfl := Nat.eq_of_beq_eq_true c3
      refine (smY_tree _ R R').trans ?_
      rw [hc, bne_self_eq_false]
      exact hr2
    · cases hr2
  · cases hr
def nilO : Orc := fun args lh => match args, lh with
  | [.slice none 0 0, .slice none 0 0], [] => .ret (.bool true, [])
  | _, _ => .bad
theorem sameN_sound : Sound Tryd.prog Tab 28 nilO := by
  refine Sound.of_run ⟨Tryd.func28, by kernel_rfl, by kernel_rfl⟩ rfl rfl snEnv_ok 40 fun args lh r hr => ?_
  unfold nilO at hr
  split at hr
  · refine smN_tree.trans ?_
    rw [sure_of ⟨rfl, rfl⟩]; exact hr
  · cases hr
theorem intsN_sound : Sound Tryd.prog Tab 25 nilO := by
  refine Sound.of_run ⟨Tryd.func25, by kernel_rfl, by kernel_rfl⟩ rfl rfl snEnv_ok 40 fun args lh r hr => ?_
  unfold nilO at hr
  split at hr
  · refine inN_tree.trans ?_
    rw [sure_of ⟨rfl, rfl⟩]; exact hr
  · cases hr
/-- A contract for nils, and one for the others. -/
noncomputable def orN (F : Orc) : Orc := fun args lh => match args with
  | [.slice none 0 0, .slice none 0 0] => frameM nilO args lh
  | _ => frameM F args lh
theorem orN_sound {f : FuncId} {F : Orc} (h1 : Sound Tryd.prog Tab f nilO) (h2 : Sound Tryd.prog Tab f F) : Sound Tryd.prog Tab f (orN F) := by
  refine ⟨h1.1, fun X w0 h0 hB hT args lh r hr => ?_⟩
  unfold orN at hr
  split at hr
  · exact (h1.frame tab_kept).2 X w0 h0 hB hT _ lh r hr
  · exact (h2.frame tab_kept).2 X w0 h0 hB hT _ lh r hr
/-! ### ConfSlots -/
noncomputable def csOrcs : List (FuncId × Orc) := [(13, awakeO), (29, frameM slotsPO), (30, frameM slotsQO), (31, frameM pinsPO), (32, frameM pinsPO), (28, orN sameYO), (25, orN intsO)] ++ caOrcs
theorem csOrcs_ok : Sounds Tryd.prog Tab csOrcs := sounds_append (sounds_cons awake_sound <| sounds_cons (slotsP_sound.frame tab_kept) <| sounds_cons (slotsQ_sound.frame tab_kept) <| sounds_cons (pinsP_sound.frame tab_kept) <| sounds_cons (pinsQ_sound.frame tab_kept) <| sounds_cons (orN_sound sameN_sound sameY_sound) <| sounds_cons (orN_sound intsN_sound ints_sound) sounds_nil) caOrcs_ok
noncomputable def csEnv : Env := mkEnv Tryd.prog clFns [] csOrcs []
theorem csEnv_ok (X : Nat → Prop) (w0 : World) (h0 : X 0) (hB : Bnd X w0) (hT : Tab w0) : EnvOK csEnv X w0 := mkEnv_ok (fun e he => by cases he) (by kernel_rfl) clFns_ok csOrcs_ok lpSounds_nil h0 hB hT
def dual {α : Type} (c : Cf) (n : Nat) (l : List Int) (Y N : Option α) : Option α := bif rightC c && lenOK n l then bif Nat.beq n (cntN c) then Y else N else none
theorem dual_y {α : Type} {c : Cf} {n : Nat} {l : List Int} {Y N : Option α} (h : (rightC c && lenOK n l) = true) (hn : Nat.beq n (cntN c) = true) : dual c n l Y N = Y := by unfold dual; rw [h, hn]; rfl
theorem dual_n {α : Type} {c : Cf} {n : Nat} {l : List Int} {Y N : Option α} (h : (rightC c && lenOK n l) = true) (hn : Nat.beq n (cntN c) = false) : dual c n l Y N = N := by unfold dual; rw [h, hn]; rfl
noncomputable def csY (c : Cf) (n : Nat) (l : List Int) : Option Value :=
  dual c n l (dual c n l (bif lenOK c.w.toNat (pinsC c l) && lenOK c.w.toNat (pinsC c l) then some (.bool (decide (pinsC c l = pinsC c l))) else none) none) (dual c n l none (some (.bool true)))
noncomputable def csT (c : Cf) (n : Nat) (l : List Int) : Option Value :=
  bif !rightC c then isT else bif decide ((n : Int) > 50) then isT else
    dual c n l (dual c n l (bif Nat.beq c.s.toNat c.s.toNat && Nat.beq c.s.toNat c.s.toNat && Nat.beq c.s.toNat c.s.toNat && sure (smOK c.s.toNat (slR (cpD (slK c l))) (slR (slD c l))) then csY c n l else none) none) (dual c n l none (csY c n l))
theorem cs_tree (c : Cf) (n q : Nat) (l : List Int) : (callV csEnv 60 6 [c.val, wv n q] [.ints false false l]).run (Option Value) none (fun r => some r.1) = csT c n l := by kernel_rfl
end Go.Proofs.YthfoljgaiincdaaDoor
