
/- The memory of cells: what each of its functions does, in plain words. No condition of its own. -/
import Derived.Test.YthfoljgaiincdaaDoorLifeNext
namespace Go.Proofs.YthfoljgaiincdaaDoor
open Go.RowKit Go.Fld Go.Sx
set_option linter.unusedVariables false
set_option linter.unusedSimpArgs false
noncomputable def memFns : List (FuncId × Func) := [(48, Tryd.f48), (56, Tryd.f56), (62, Tryd.f62), (128, Tryd.f128), (26, Tryd.f26), (50, Tryd.f50), (69, Tryd.f69), (73, Tryd.f73), (70, Tryd.f70), (74, Tryd.f74), (78, Tryd.f78), (129, Tryd.f129), (53, Tryd.f53), (15, Tryd.f15), (51, Tryd.f51), (16, Tryd.f16), (52, Tryd.f52), (17, Tryd.f17), (23, Tryd.f23)]
theorem memFns_ok : ∀ e ∈ memFns, FnOK Tryd.prog e.1 e.2 :=
  fns_ok_cons ⟨Tryd.func48, by kernel_rfl, by kernel_rfl⟩ <| fns_ok_cons ⟨Tryd.func56, by kernel_rfl, by kernel_rfl⟩ <| fns_ok_cons ⟨Tryd.func62, by kernel_rfl, by kernel_rfl⟩ <| fns_ok_cons ⟨Tryd.func128, by kernel_rfl, by kernel_rfl⟩ <| fns_ok_cons ⟨Tryd.func26, by kernel_rfl, by kernel_rfl⟩ <| fns_ok_cons ⟨Tryd.func50, by kernel_rfl, by kernel_rfl⟩ <| fns_ok_cons ⟨Tryd.func69, by kernel_rfl, by kernel_rfl⟩ <| fns_ok_cons ⟨Tryd.func73, by kernel_rfl, by kernel_rfl⟩ <| fns_ok_cons ⟨Tryd.func70, by kernel_rfl, by kernel_rfl⟩ <| fns_ok_cons ⟨Tryd.func74, by kernel_rfl, by kernel_rfl⟩ <| fns_ok_cons ⟨Tryd.func78, by kernel_rfl, by kernel_rfl⟩ <| fns_ok_cons ⟨Tryd.func129, by kernel_rfl, by kernel_rfl⟩ <| fns_ok_cons ⟨Tryd.func53, by kernel_rfl, by kernel_rfl⟩ <| fns_ok_cons ⟨Tryd.func15, by kernel_rfl, by kernel_rfl⟩ <| fns_ok_cons ⟨Tryd.func51, by kernel_rfl, by kernel_rfl⟩ <| fns_ok_cons ⟨Tryd.func16, by kernel_rfl, by kernel_rfl⟩ <| fns_ok_cons ⟨Tryd.func52, by kernel_rfl, by kernel_rfl⟩ <| fns_ok_cons ⟨Tryd.func17, by kernel_rfl, by kernel_rfl⟩ <| fns_ok_cons ⟨Tryd.func23, by kernel_rfl, by kernel_rfl⟩ <| fns_ok_nil rfl
noncomputable def memEnv : Env := mkEnv Tryd.prog memFns [] [] []
theorem memEnv_ok (X : Nat → Prop) (w0 : World) (h0 : X 0) (hB : Bnd X w0) (hT : Tab w0) : EnvOK memEnv X w0 := mkEnv_ok (fun e he => by cases he) (by kernel_rfl) memFns_ok sounds_nil lpSounds_nil h0 hB hT
/-! ### In plain words -/
def inR (n : Nat) (i : Int) : Bool := decide (0 ≤ i) && decide (i < (n : Int))
def ldS (n : Nat) (l : List Int) (i : Int) : Int := if inR n i then l.getD i.toNat 0 else 0
def stS (n : Nat) (l : List Int) (i v : Int) : List Int := if inR n i then l.set i.toNat v else l
def tcS (n : Nat) (i t : Int) : Int := if inR n i then IntKind.i64.wrap (t + 1) else t
def casB (n : Nat) (l : List Int) (i a : Int) : Bool := inR n i && (ldS n l i == a)
def casS (n : Nat) (l : List Int) (i a b : Int) : List Int := if casB n l i a then stS n l i b else l
def addS (n : Nat) (l : List Int) (i d : Int) : List Int := stS n l i (IntKind.i64.wrap (ldS n l i + d))
/-- As many words as are told, and not too many. -/
def okM (n : Nat) (l : List Int) : Bool := Nat.beq n l.length && Nat.blt 0 n && smallN n
theorem okM_iff {n : Nat} {l : List Int} : okM n l = true ↔ n = l.length ∧ 0 < n ∧ n ≤ 1073741824 := by
  unfold okM smallN
  rw [Bool.and_eq_true, Bool.and_eq_true, Nat.blt_eq, and_assoc]
  exact ⟨fun ⟨a, b, c⟩ => ⟨Nat.eq_of_beq_eq_true a, b, Nat.le_of_ble_eq_true c⟩, fun ⟨a, b, c⟩ => ⟨by rw [← a]; exact Nat.beq_refl n, b, Nat.ble_eq_true_of_le c⟩⟩
theorem stS_length (n : Nat) (l : List Int) (i v : Int) : (stS n l i v).length = l.length := by unfold stS; split <;> simp
theorem casS_length (n : Nat) (l : List Int) (i a b : Int) : (casS n l i a b).length = l.length := by unfold casS; split; exact stS_length _ _ _ _; rfl
theorem addS_length (n : Nat) (l : List Int) (i d : Int) : (addS n l i d).length = l.length := stS_length _ _ _ _
theorem okM_st (n : Nat) (l : List Int) (i v : Int) : okM n (stS n l i v) = okM n l := by unfold okM; rw [stS_length]
theorem okM_cas (n : Nat) (l : List Int) (i a b : Int) : okM n (casS n l i a b) = okM n l := by unfold okM; rw [casS_length]
theorem okM_add (n : Nat) (l : List Int) (i d : Int) : okM n (addS n l i d) = okM n l := by unfold okM; rw [addS_length]
/-! ### Memory of the program -/
abbrev memB (n c : Nat) (t : Int) (l : List Int) : List Go.Sx.Blk := [.cells true true [.slice (some ⟨1, 0, none⟩) n c, .int .i64 t], .ints true true l]
abbrev p0 : Value := .pointer (some ⟨0, 0, none⟩)
def out3 {α : Type} (n : Nat) (i : Int) (x y : α) (bad : α) (l : List Int) (off : Nat) : α :=
  bif decide (i < 0) then x else bif decide (i ≥ (n : Int)) then x else bif inRange i n then bif Nat.blt (off + i.toNat) l.length then y else bad else bad
theorem out3_eq {α : Type} {n : Nat} {i : Int} {x y bad z : α} {l : List Int} {off : Nat} (h : n = l.length) (ho : off = 0) (h1 : inR n i = false → x = z) (h2 : inR n i = true → y = z) : out3 n i x y bad l off = z := by
  unfold out3
  unfold inR at h1 h2
  by_cases h0 : i < 0
  · rw [decide_eq_true h0]; exact h1 (by simp; omega)
  · rw [decide_eq_false h0]
    by_cases h3 : i ≥ (n : Int)
    · rw [decide_eq_true h3]; exact h1 (by simp; omega)
    · rw [decide_eq_false h3]
      have e1 : inRange i n = true := by unfold inRange; simp; omega
      have e2 : Nat.blt (off + i.toNat) l.length = true := by rw [Nat.blt_eq]; omega
      rw [e1, e2]
      exact h2 (by simp; omega)
def memLoadO : Orc := fun args lh => match args, lh with
  | [.pointer (some ⟨0, 0, none⟩), .int .i64 i], [.cells true true [.slice (some ⟨1, 0, none⟩) n c, .int .i64 t], .ints true true l] => .br (okM n l) (.ret (.int .i64 (ldS n l i), memB n c (tcS n i t) l)) .bad
  | _, _ => .bad
def memStoreO : Orc := fun args lh => match args, lh with
  | [.pointer (some ⟨0, 0, none⟩), .int .i64 i, .int .i64 v], [.cells true true [.slice (some ⟨1, 0, none⟩) n c, .int .i64 t], .ints true true l] => .br (okM n l) (.ret (.bool (inR n i), memB n c (tcS n i t) (stS n l i v))) .bad
  | _, _ => .bad
def memCasO : Orc := fun args lh => match args, lh with
  | [.pointer (some ⟨0, 0, none⟩), .int .i64 i, .int .i64 a, .int .i64 b], [.cells true true [.slice (some ⟨1, 0, none⟩) n c, .int .i64 t], .ints true true l] => .br (okM n l) (.ret (.bool (casB n l i a), memB n c (tcS n i t) (casS n l i a b))) .bad
  | _, _ => .bad
def memAddO : Orc := fun args lh => match args, lh with
  | [.pointer (some ⟨0, 0, none⟩), .int .i64 i, .int .i64 d], [.cells true true [.slice (some ⟨1, 0, none⟩) n c, .int .i64 t], .ints true true l] => .br (okM n l) (.ret (.int .i64 (ldS n l i), memB n c (tcS n i t) (addS n l i d))) .bad
  | _, _ => .bad
def memWordsO : Orc := fun args lh => match args, lh with
  | [.pointer (some ⟨0, 0, none⟩)], [.cells true true [.slice (some ⟨1, 0, none⟩) n c, .int .i64 t], .ints true true l] => .br (okM n l) (.ret (vecOf 2 n, memB n c t l ++ [.ints true true l])) .bad
  | _, _ => .bad
def memManyO : Orc := fun args lh => match args, lh with
  | [.pointer (some ⟨0, 0, none⟩)], [.cells true true [.slice (some ⟨1, 0, none⟩) n c, .int .i64 t], .ints true true l] => .ret (.int .i64 n, memB n c t l)
  | _, _ => .bad
def memTouchedO : Orc := fun args lh => match args, lh with
  | [.pointer (some ⟨0, 0, none⟩)], [.cells true true [.slice (some ⟨1, 0, none⟩) n c, .int .i64 t], .ints true true l] => .ret (.int .i64 t, memB n c t l)
  | _, _ => .bad
theorem load_tree (n c : Nat) (t : Int) (l : List Int) (i : Int) : (callV memEnv 40 48 [p0, .int .i64 i] (memB n c t l)).get =
    out3 n i (some (.int .i64 0, memB n c t l)) (some (.int .i64 (l.getD (0 + i.toNat) 0), memB n c (IntKind.i64.wrap (t + 1)) l)) none l 0 := by kernel_rfl
theorem store_tree (n c : Nat) (t : Int) (l : List Int) (i v : Int) : (callV memEnv 40 56 [p0, .int .i64 i, .int .i64 v] (memB n c t l)).get =
    out3 n i (some (.bool false, memB n c t l)) (some (.bool true, memB n c (IntKind.i64.wrap (t + 1)) (l.set (0 + i.toNat) v))) none l 0 := by kernel_rfl
theorem cas_tree (n c : Nat) (t : Int) (l : List Int) (i a b : Int) : (callV memEnv 40 62 [p0, .int .i64 i, .int .i64 a, .int .i64 b] (memB n c t l)).get =
    out3 n i (some (.bool false, memB n c t l)) (bif l.getD (0 + i.toNat) 0 != a then some (.bool false, memB n c (IntKind.i64.wrap (t + 1)) l) else bif Nat.blt (0 + i.toNat) l.length then some (.bool true, memB n c (IntKind.i64.wrap (t + 1)) (l.set (0 + i.toNat) b)) else none) none l 0 := by kernel_rfl
theorem add_tree (n c : Nat) (t : Int) (l : List Int) (i d : Int) : (callV memEnv 40 128 [p0, .int .i64 i, .int .i64 d] (memB n c t l)).get =
    out3 n i (some (.int .i64 0, memB n c t l)) (bif Nat.blt (0 + i.toNat) l.length then bif Nat.blt (0 + i.toNat) l.length then some (.int .i64 (l.getD (0 + i.toNat) 0), memB n c (IntKind.i64.wrap (t + 1)) (l.set (0 + i.toNat) (IntKind.i64.wrap (l.getD (0 + i.toNat) 0 + d)))) else none else none) none l 0 := by kernel_rfl
theorem words_tree (n c : Nat) (t : Int) (l : List Int) : (callV memEnv 40 26 [p0] (memB n c t l)).get =
    bif Nat.ble (0 + n) l.length then bif Nat.beq ((l.drop 0).take n).length 0 then none else
    bif smallN (0 + ((l.drop 0).take n).length) then some (vecOf 2 (0 + ((l.drop 0).take n).length), memB n c t l ++ [.ints true true ((l.drop 0).take n)]) else none else none := by kernel_rfl
theorem many_tree (n c : Nat) (t : Int) (l : List Int) : (callV memEnv 40 50 [p0] (memB n c t l)).get = some (.int .i64 n, memB n c t l) := by kernel_rfl
theorem blt_len {l : List Int} {n : Nat} {i : Int} (h : n = l.length) (hr : inR n i = true) : Nat.blt (0 + i.toNat) l.length = true := by
  unfold inR at hr
  simp only [Bool.and_eq_true, decide_eq_true_eq] at hr
  rw [Nat.blt_eq]; omega
theorem memLoad_sound : Sound Tryd.prog Tab 48 memLoadO := by
  refine Sound.of_run ⟨Tryd.func48, by kernel_rfl, by kernel_rfl⟩ rfl rfl memEnv_ok 40 fun args lh r hr => ?_
  unfold memLoadO at hr
  split at hr
  · rename_i i n c t l
    rcases M.get_br_some hr with ⟨hc, h2⟩ | ⟨hc, h2⟩
    · simp only [M.get_ret, Option.some.injEq] at h2; subst h2
      obtain ⟨hn, _, _⟩ := okM_iff.1 hc
      refine ((load_tree n c t l i).trans (out3_eq hn rfl (fun h => ?_) fun h => ?_))
      · simp [ldS, tcS, h]
      · simp [ldS, tcS, h]
    · cases h2
  · cases hr
theorem memStore_sound : Sound Tryd.prog Tab 56 memStoreO := by
  refine Sound.of_run ⟨Tryd.func56, by kernel_rfl, by kernel_rfl⟩ rfl rfl memEnv_ok 40 fun args lh r hr => ?_
  unfold memStoreO at hr
  split at hr
  · rename_i i v n c t l
    rcases M.get_br_some hr with ⟨hc, h2⟩ | ⟨hc, h2⟩
    · simp only [M.get_ret, Option.some.injEq] at h2; subst h2
      obtain ⟨hn, _, _⟩ := okM_iff.1 hc
      refine ((store_tree n c t l i v).trans (out3_eq hn rfl (fun h => ?_) fun h => ?_))
      · simp [stS, tcS, h]
      · simp [stS, tcS, h]
    · cases h2
  · cases hr
theorem memCas_sound : Sound Tryd.prog Tab 62 memCasO := by
  refine Sound.of_run ⟨Tryd.func62, by kernel_rfl, by kernel_rfl⟩ rfl rfl memEnv_ok 40 fun args lh r hr => ?_
  unfold memCasO at hr
  split at hr
  · rename_i i a b n c t l
    rcases M.get_br_some hr with ⟨hc, h2⟩ | ⟨hc, h2⟩
    · simp only [M.get_ret, Option.some.injEq] at h2; subst h2
      obtain ⟨hn, _, _⟩ := okM_iff.1 hc
      refine ((cas_tree n c t l i a b).trans (out3_eq hn rfl (fun h => ?_) fun h => ?_))
      · simp [casS, casB, tcS, h]
      · rw [blt_len hn h]
        have e1 : ldS n l i = l.getD i.toNat 0 := by simp [ldS, h]
        cases hx : (l.getD i.toNat 0 == a) with
        | true =>
          have e2 : casB n l i a = true := by unfold casB; rw [h, e1, hx]; rfl
          simp only [Nat.zero_add, bne, hx, casS, e2, tcS, stS, h, if_true, Bool.false_eq_true, if_false]; rfl
        | false =>
          have e2 : casB n l i a = false := by unfold casB; rw [h, e1, hx]; rfl
          simp only [Nat.zero_add, bne, hx, casS, e2, tcS, stS, h, if_true, Bool.false_eq_true, if_false]; rfl
    · cases h2
  · cases hr
theorem memAdd_sound : Sound Tryd.prog Tab 128 memAddO := by
  refine Sound.of_run ⟨Tryd.func128, by kernel_rfl, by kernel_rfl⟩ rfl rfl memEnv_ok 40 fun args lh r hr => ?_
  unfold memAddO at hr
  split at hr
  · rename_i i d n c t l
    rcases M.get_br_some hr with ⟨hc, h2⟩ | ⟨hc, h2⟩
    · simp only [M.get_ret, Option.some.injEq] at h2; subst h2
      obtain ⟨hn, _, _⟩ := okM_iff.1 hc
      refine ((add_tree n c t l i d).trans (out3_eq hn rfl (fun h => ?_) fun h => ?_))
      · simp [addS, stS, ldS, tcS, h]
      · rw [blt_len hn h]
        simp [addS, stS, ldS, tcS, h]
    · cases h2
  · cases hr
theorem memWords_sound : Sound Tryd.prog Tab 26 memWordsO := by
  refine Sound.of_run ⟨Tryd.func26, by kernel_rfl, by kernel_rfl⟩ rfl rfl memEnv_ok 40 fun args lh r hr => ?_
  unfold memWordsO at hr
  split at hr
  · rename_i n c t l
    rcases M.get_br_some hr with ⟨hc, h2⟩ | ⟨hc, h2⟩
    · simp only [M.get_ret, Option.some.injEq] at h2; subst h2
      obtain ⟨hn, h0, h1⟩ := okM_iff.1 hc
      refine ((words_tree n c t l).trans ?_)
      have e1 : (l.drop 0).take n = l := by rw [List.drop_zero, hn]; exact List.take_length
      have e2 : Nat.ble (0 + n) l.length = true := Nat.ble_eq_true_of_le (by omega)
      have e3 : Nat.beq l.length 0 = false := by cases hx : Nat.beq l.length 0; rfl; exact absurd (Nat.eq_of_beq_eq_true hx) (by omega)
      have e4 : smallN l.length = true := Nat.ble_eq_true_of_le (by omega)
      rw [e1, e2, e3, Nat.zero_add, e4, hn]; rfl
    · cases h2
  · cases hr
theorem memMany_sound : Sound Tryd.prog Tab 50 memManyO := by
  refine Sound.of_run ⟨Tryd.func50, by kernel_rfl, by kernel_rfl⟩ rfl rfl memEnv_ok 40 fun args lh r hr => ?_
  unfold memManyO at hr
  split at hr
  · rename_i n c t l
    simp only [M.get_ret, Option.some.injEq] at hr; subst hr
    exact (many_tree n c t l)
  · cases hr
def memOrcs : List (FuncId × Orc) := [(48, frameM memLoadO), (56, frameM memStoreO), (62, frameM memCasO), (128, frameM memAddO), (26, frameM memWordsO), (50, frameM memManyO)]
theorem memOrcs_ok : Sounds Tryd.prog Tab memOrcs := sounds_cons (memLoad_sound.frame tab_kept) <| sounds_cons (memStore_sound.frame tab_kept) <| sounds_cons (memCas_sound.frame tab_kept) <| sounds_cons (memAdd_sound.frame tab_kept) <| sounds_cons (memWords_sound.frame tab_kept) <| sounds_cons (memMany_sound.frame tab_kept) <| sounds_nil
end Go.Proofs.YthfoljgaiincdaaDoor
