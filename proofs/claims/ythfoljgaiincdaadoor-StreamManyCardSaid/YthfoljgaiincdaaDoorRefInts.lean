
/- Are two lists of ints one: its contract, over any two slices. No condition of its own. -/
import Derived.Test.YthfoljgaiincdaaDoorRefConf
namespace Go.Proofs.YthfoljgaiincdaaDoor
open Go.RowKit Go.Fld Go.Sx
set_option linter.unusedVariables false
set_option linter.unusedSimpArgs false
noncomputable def intsFns : List (FuncId × Func) := [(25, Tryd.f25)]
theorem intsFns_ok : ∀ e ∈ intsFns, FnOK Tryd.prog e.1 e.2 := fns_ok_cons ⟨Tryd.func25, by kernel_rfl, by kernel_rfl⟩ <| fns_ok_nil rfl
noncomputable def ints0Env : Env := mkEnv Tryd.prog intsFns [] [] []
theorem ints0Env_ok (X : Nat → Prop) (w0 : World) (h0 : X 0) (hB : Bnd X w0) (hT : Tab w0) : EnvOK ints0Env X w0 := mkEnv_ok (fun e he => by cases he) (by kernel_rfl) intsFns_ok sounds_nil lpSounds_nil h0 hB hT
def slV (sp : Bool) (k n c : Nat) : Value := bif sp then .slice (some ⟨k, 0, some 1⟩) n 0 else .slice (some ⟨k, 0, none⟩) n c
noncomputable def intsBody : Code := Tryd.f25.body.getD .skip
noncomputable def intsRound : Code := lpB (blkAt 0 intsBody)
theorem ints_loop : blkAt 0 intsBody = .loop intsRound := by kernel_rfl
abbrev intsV (s1 s2 : Bool) (n c m d : Nat) (r : Bool) (i : Int) : List Value := [slV s1 0 n c, slV s2 1 m d, .bool r, .int .i64 i]
abbrev intsL (o w o' w' : Bool) (la lb : List Int) : List Go.Sx.Blk := [.ints o w la, .ints o' w' lb]
def ixB (sp : Bool) (i : Int) : Nat := bif sp then i.toNat else 0 + i.toNat
def ixM {α : Type} (sp : Bool) (i : Int) (n : Nat) (l : List Int) (K : Option α) : Option α := bif inRange i n then bif Nat.blt (ixB sp i) l.length then K else none else none
def intsT (s1 s2 o w o' w' : Bool) (n c m d : Nat) (la lb : List Int) (i : Int) : Option (Exit × List Value × List Go.Sx.Blk) :=
  bif decide (i < (n : Int)) then ixM s1 i n la (ixM s2 i m lb (bif la.getD (ixB s1 i) 0 != lb.getD (ixB s2 i) 0 then some (.ret, intsV s1 s2 n c m d false i, intsL o w o' w' la lb) else some (.normal, intsV s1 s2 n c m d false (w64 (i + 1)), intsL o w o' w' la lb)))
  else some (.exit 0, intsV s1 s2 n c m d false i, intsL o w o' w' la lb)
theorem ints_tree (s1 s2 o w o' w' : Bool) (n c m d : Nat) (la lb : List Int) (i : Int) :
    (roundV ints0Env 30 noLps 26 [0, 1, 4, 5] 2 intsRound (unpack 26 [0, 1, 4, 5] (intsV s1 s2 n c m d false i) (intsL o w o' w' la lb))).get = intsT s1 s2 o w o' w' n c m d la lb i := by
  cases s1 <;> cases s2 <;> kernel_rfl
def slOf (k : Nat) : Value → Option (Bool × Nat × Nat)
  | .slice (some ⟨k', 0, none⟩) n c => cond (Nat.beq k' k) (some (false, n, c)) none
  | .slice (some ⟨k', 0, some 1⟩) n 0 => cond (Nat.beq k' k) (some (true, n, 0)) none
  | _ => none
theorem slOf_some {k n c : Nat} {sp : Bool} {v : Value} (h : slOf k v = some (sp, n, c)) : v = slV sp k n c := by
  unfold slOf at h
  split at h
  · rename_i k' n' c'
    cases hk : Nat.beq k' k with
    | false => rw [hk] at h; cases h
    | true => rw [hk] at h; cases h; rw [Nat.eq_of_beq_eq_true hk]; rfl
  · rename_i k' n'
    cases hk : Nat.beq k' k with
    | false => rw [hk] at h; cases h
    | true => rw [hk] at h; cases h; rw [Nat.eq_of_beq_eq_true hk]; rfl
  · cases h
theorem ixM_in {α : Type} {sp : Bool} {i n : Nat} {l : List Int} {K : Option α} (h : n = l.length) (hi : i < n) : ixM sp i n l K = K := by
  unfold ixM ixB inRange
  have e1 : (decide ((0 : Int) ≤ (i : Int)) && decide ((i : Int) < (n : Int))) = true := by simp; omega
  have e2 : Nat.blt (bif sp then ((i : Nat) : Int).toNat else 0 + ((i : Nat) : Int).toNat) l.length = true := by
    rw [Nat.blt_eq]; cases sp <;> simp <;> omega
  rw [e1, e2]; rfl
theorem ixB_nat (sp : Bool) (i : Nat) : ixB sp i = i := by unfold ixB; cases sp <;> simp
theorem w64_succ {i : Nat} (h : i < 4611686018427387904) : w64 ((i : Int) + 1) = ((i + 1 : Nat) : Int) := by
  rw [w64_in ⟨by omega, by omega⟩]; omega
theorem ints_rounds {X : Nat → Prop} {w0 : World} (hE : EnvOK ints0Env X w0) (s1 s2 o w o' w' : Bool) (n c m d : Nat) (la lb : List Int) (h1 : n = la.length) (h2 : m = lb.length) (h3 : n = m) (h4 : n ≤ 1073741824) : ∀ (k i : Nat), i + k = n →
    ∃ i' : Int, LoopRunsB Tryd.prog X w0 0 2 intsRound (unpack 26 [0, 1, 4, 5] (intsV s1 s2 n c m d false i) (intsL o w o' w' la lb)) (if la.drop i = lb.drop i then .exit 0 else .ret) (unpack 26 [0, 1, 4, 5] (intsV s1 s2 n c m d false i') (intsL o w o' w' la lb))
  | 0, i, hi => by
    have ht := ints_tree s1 s2 o w o' w' n c m d la lb i
    unfold intsT at ht
    rw [decide_eq_false (by omega)] at ht
    have hr := round_runs hE (noLps_ok _) ht (Nat.zero_le _) (Nat.le_refl _)
    refine ⟨i, ?_⟩
    rw [if_pos (by rw [List.drop_of_length_le (by omega), List.drop_of_length_le (by omega)])]
    exact LoopRunsB.exit hr (by simp)
  | k + 1, i, hi => by
    have ht := ints_tree s1 s2 o w o' w' n c m d la lb i
    unfold intsT at ht
    rw [decide_eq_true (by omega), ixM_in h1 (by omega), ixM_in h2 (by omega), ixB_nat, ixB_nat] at ht
    have ea : la.drop i = la.getD i 0 :: la.drop (i + 1) := by
      rw [List.getD_eq_getElem?_getD, List.getElem?_eq_getElem (by omega)]; exact List.drop_eq_getElem_cons (by omega)
    have eb : lb.drop i = lb.getD i 0 :: lb.drop (i + 1) := by
      rw [List.getD_eq_getElem?_getD, List.getElem?_eq_getElem (by omega)]; exact List.drop_eq_getElem_cons (by omega)
    by_cases hx : la.getD i 0 = lb.getD i 0
    · rw [show (la.getD i 0 != lb.getD i 0) = false from bne_eq_false_iff_eq.2 hx, w64_succ (by omega)] at ht
      have hr := round_runs hE (noLps_ok _) ht (Nat.zero_le _) (Nat.le_refl _)
      obtain ⟨i', hl⟩ := ints_rounds hE s1 s2 o w o' w' n c m d la lb h1 h2 h3 h4 k (i + 1) (by omega)
      refine ⟨i', ?_⟩
      have e : (la.drop i = lb.drop i) = (la.drop (i + 1) = lb.drop (i + 1)) := by rw [ea, eb, hx]; simp
      simp only [e]
      exact LoopRunsB.step hr hl
    · rw [show (la.getD i 0 != lb.getD i 0) = true from bne_iff_ne.2 hx] at ht
      have hr := round_runs hE (noLps_ok _) ht (Nat.zero_le _) (Nat.le_refl _)
      refine ⟨i, ?_⟩
      rw [if_neg (by rw [ea, eb]; intro h; exact hx (List.cons.inj h).1)]
      exact LoopRunsB.exit hr (by simp)
def lenOK (n : Nat) (l : List Int) : Bool := Nat.beq n l.length && smallN n
theorem lenOK_iff {n : Nat} {l : List Int} : lenOK n l = true ↔ n = l.length ∧ n ≤ 1073741824 := by
  unfold lenOK smallN
  rw [Bool.and_eq_true]
  exact ⟨fun ⟨a, c⟩ => ⟨Nat.eq_of_beq_eq_true a, Nat.le_of_ble_eq_true c⟩, fun ⟨a, c⟩ => ⟨by rw [← a]; exact Nat.beq_refl n, Nat.ble_eq_true_of_le c⟩⟩
def intsF (vals : List Value) (lh : List Go.Sx.Blk) : M (Exit × List Value × List Go.Sx.Blk) :=
  match vals, lh with
  | [a, b, .bool false, .int .i64 0], [.ints o w la, .ints o' w' lb] =>
    match slOf 0 a, slOf 1 b with
    | some (_, n, _), some (_, m, _) => .br (lenOK n la && lenOK m lb && Nat.beq n m) (.br (decide (la = lb)) (.ret (.normal, [.bool false], [.ints o w la, .ints o' w' lb])) (.ret (.ret, [.bool false], [.ints o w la, .ints o' w' lb]))) .bad
    | _, _ => .bad
  | _, _ => .bad
theorem ints_norm (s1 s2 o w o' w' : Bool) (n c m d : Nat) (la lb : List Int) (i : Int) : (normV 26 [4] 2 (unpack 26 [0, 1, 4, 5] (intsV s1 s2 n c m d false i) (intsL o w o' w' la lb))).get = some ([.bool false], intsL o w o' w' la lb) := by kernel_rfl
theorem ints_lp : LpSound Tryd.prog Tab 25 0 (loopV 26 [0, 1, 4, 5] [4] intsF 2) := by
  refine LpSound.of_loop (c := intsBody) Tryd.func25 (by kernel_rfl) (by kernel_rfl) fun X w0 h0 hB hT vals lh e vals' lh' hF hb => ?_
  unfold intsF at hF
  split at hF
  · rename_i a b o w la o' w' lb
    split at hF
    · rename_i s1 n c s2 m d ha hb2
      obtain rfl := slOf_some ha
      obtain rfl := slOf_some hb2
      rcases M.get_br_some hF with ⟨hc, hF⟩ | ⟨_, hF⟩
      · simp only [Bool.and_eq_true] at hc
        obtain ⟨⟨hc1, hc2⟩, hc3⟩ := hc
        obtain ⟨g1, g2⟩ := lenOK_iff.1 hc1
        obtain ⟨g3, g4⟩ := lenOK_iff.1 hc2
        have hE := ints0Env_ok X w0 h0 hB hT
        obtain ⟨i', hl⟩ := ints_rounds hE s1 s2 o w o' w' n c m d la lb g1 g3 (Nat.eq_of_beq_eq_true hc3) g2 n 0 (Nat.zero_add _)
        simp only [List.drop_zero] at hl
        have hr := hl.runs
        rw [ints_loop]
        rcases M.get_br_some hF with ⟨he, hF⟩ | ⟨he, hF⟩
        · rw [if_pos (by simpa using he)] at hr
          simp only [M.get_ret, Option.some.injEq, Prod.mk.injEq] at hF
          obtain ⟨rfl, rfl, rfl⟩ := hF
          exact hr.block_exit.norm (ints_norm s1 s2 o w o' w' n c m d la lb i') (Nat.zero_le _)
        · rw [if_neg (by simpa using he)] at hr
          simp only [M.get_ret, Option.some.injEq, Prod.mk.injEq] at hF
          obtain ⟨rfl, rfl, rfl⟩ := hF
          exact (hr.block_out (by simp)).norm (ints_norm s1 s2 o w o' w' n c m d la lb i') (Nat.zero_le _)
      · cases hF
    · cases hF
  · cases hF
noncomputable def intsEnv : Env := mkEnv Tryd.prog intsFns [] [] [(25, 0, loopV 26 [0, 1, 4, 5] [4] intsF 2)]
theorem intsEnv_ok (X : Nat → Prop) (w0 : World) (h0 : X 0) (hB : Bnd X w0) (hT : Tab w0) : EnvOK intsEnv X w0 := mkEnv_ok (fun e he => by cases he) (by kernel_rfl) intsFns_ok sounds_nil (lpSounds_cons ints_lp lpSounds_nil) h0 hB hT
theorem intsF_tree (s1 s2 o w o' w' : Bool) (n c m d : Nat) (la lb : List Int) : (callV intsEnv 40 25 [slV s1 0 n c, slV s2 1 m d] (intsL o w o' w' la lb)).get =
    bif (n : Int) != (m : Int) then some (.bool false, intsL o w o' w' la lb) else bif lenOK n la && lenOK m lb && Nat.beq n m then bif decide (la = lb) then some (.bool true, intsL o w o' w' la lb) else some (.bool false, intsL o w o' w' la lb) else none := by
  cases s1 <;> cases s2 <;> kernel_rfl
def intsO : Orc := fun args lh => match args, lh with
  | [a, b], [.ints o w la, .ints o' w' lb] =>
    match slOf 0 a, slOf 1 b with
    | some (_, n, _), some (_, m, _) => .br (lenOK n la && lenOK m lb) (.ret (.bool (decide (la = lb)), [.ints o w la, .ints o' w' lb])) .bad
    | _, _ => .bad
  | _, _ => .bad
theorem ints_sound : Sound Tryd.prog Tab 25 intsO := by
  refine Sound.of_run ⟨Tryd.func25, by kernel_rfl, by kernel_rfl⟩ rfl rfl intsEnv_ok 40 fun args lh r hr => ?_
  unfold intsO at hr
  split at hr
  · rename_i a b o w la o' w' lb
    split at hr
    · rename_i s1 n c s2 m d ha hb2
      obtain rfl := slOf_some ha
      obtain rfl := slOf_some hb2
      rcases M.get_br_some hr with ⟨hc, hr⟩ | ⟨_, hr⟩
      · simp only [M.get_ret, Option.some.injEq] at hr; subst hr
        refine (intsF_tree s1 s2 o w o' w' n c m d la lb).trans ?_
        have hc' := hc
        simp only [Bool.and_eq_true] at hc'
        obtain ⟨g1, g2⟩ := lenOK_iff.1 hc'.1
        obtain ⟨g3, g4⟩ := lenOK_iff.1 hc'.2
        rw [hc]
        by_cases hnm : n = m
        · subst hnm
          rw [show ((n : Int) != (n : Int)) = false by simp, Nat.beq_refl]
          by_cases hl : la = lb
          · rw [decide_eq_true hl]; rfl
          · rw [decide_eq_false hl]; rfl
        · rw [show ((n : Int) != (m : Int)) = true by simp; omega, decide_eq_false (fun hl => hnm (by rw [g1, g3, hl]))]; rfl
      · cases hr
    · cases hr
  · cases hr
def intsOrcs : List (FuncId × Orc) := [(25, frameM intsO)]
theorem intsOrcs_ok : Sounds Tryd.prog Tab intsOrcs := sounds_cons (ints_sound.frame tab_kept) sounds_nil
end Go.Proofs.YthfoljgaiincdaaDoor
