
/- The laws of conf: what they run over; ConfTells, ConfMore. No condition of its own. -/
import Derived.Test.YthfoljgaiincdaaDoorConfA
namespace Go.Proofs.YthfoljgaiincdaaDoor
open Go.RowKit Go.Fld Go.Sx
set_option linter.unusedVariables false
set_option linter.unusedSimpArgs false
noncomputable def awFns : List (FuncId × Func) := [(13, Tryd.f13), (29, Tryd.f29), (54, Tryd.f54), (23, Tryd.f23), (53, Tryd.f53)]
theorem awFns_ok : ∀ e ∈ awFns, FnOK Tryd.prog e.1 e.2 :=
  fns_ok_cons ⟨Tryd.func13, by kernel_rfl, by kernel_rfl⟩ <| fns_ok_cons ⟨Tryd.func29, by kernel_rfl, by kernel_rfl⟩ <| fns_ok_cons ⟨Tryd.func54, by kernel_rfl, by kernel_rfl⟩ <| fns_ok_cons ⟨Tryd.func23, by kernel_rfl, by kernel_rfl⟩ <| fns_ok_cons ⟨Tryd.func53, by kernel_rfl, by kernel_rfl⟩ <| fns_ok_nil rfl
def aw1 : List (FuncId × Orc) := caOrcs ++ wordOrcs ++ memOrcs ++ confOrcs
theorem aw1_ok : Sounds Tryd.prog Tab aw1 := sounds_append (sounds_append (sounds_append caOrcs_ok wordOrcs_ok) memOrcs_ok) confOrcs_ok
noncomputable def awEnv : Env := mkEnv Tryd.prog awFns [] aw1 []
theorem awEnv_ok (X : Nat → Prop) (w0 : World) (h0 : X 0) (hB : Bnd X w0) (hT : Tab w0) : EnvOK awEnv X w0 := mkEnv_ok (fun e he => by cases he) (by kernel_rfl) awFns_ok aw1_ok lpSounds_nil h0 hB hT
theorem awake_tree : (callV awEnv 60 13 [] []).get = some (.bool true, []) := by kernel_rfl
def awakeO : Orc := fun args lh => match args with | [] => .ret (.bool true, lh) | _ => .bad
theorem awake_sound : Sound Tryd.prog Tab 13 awakeO := by
  refine Sound.of_empty ⟨Tryd.func13, by kernel_rfl, by kernel_rfl⟩ rfl rfl awEnv_ok 60 fun args lh r hr => ?_
  unfold awakeO at hr
  split at hr
  · simp only [M.get_ret, Option.some.injEq] at hr; subst hr
    exact ⟨rfl, rfl, rfl, by simp [undef], awake_tree⟩
  · cases hr
noncomputable def clFns : List (FuncId × Func) := [(3, Tryd.f3), (4, Tryd.f4), (5, Tryd.f5), (6, Tryd.f6)]
theorem clFns_ok : ∀ e ∈ clFns, FnOK Tryd.prog e.1 e.2 :=
  fns_ok_cons ⟨Tryd.func3, by kernel_rfl, by kernel_rfl⟩ <| fns_ok_cons ⟨Tryd.func4, by kernel_rfl, by kernel_rfl⟩ <| fns_ok_cons ⟨Tryd.func5, by kernel_rfl, by kernel_rfl⟩ <| fns_ok_cons ⟨Tryd.func6, by kernel_rfl, by kernel_rfl⟩ <| fns_ok_nil rfl
def cl1 : List (FuncId × Orc) := [(13, awakeO)] ++ caOrcs ++ memOrcs ++ confOrcs ++ intsOrcs
theorem cl1_ok : Sounds Tryd.prog Tab cl1 := sounds_append (sounds_append (sounds_append (sounds_append (sounds_cons awake_sound sounds_nil) caOrcs_ok) memOrcs_ok) confOrcs_ok) intsOrcs_ok
noncomputable def clEnv : Env := mkEnv Tryd.prog clFns [] cl1 []
theorem clEnv_ok (X : Nat → Prop) (w0 : World) (h0 : X 0) (hB : Bnd X w0) (hT : Tab w0) : EnvOK clEnv X w0 := mkEnv_ok (fun e he => by cases he) (by kernel_rfl) clFns_ok cl1_ok lpSounds_nil h0 hB hT
/-! ### ConfTells -/
def zeros (n : Nat) : List Int := List.replicate n 0
def ctYes (c : Cf) (w i : Int) : Option Value :=
  bif cntC c == cntQ c then bif pinC c w == pinC c w then bif grC c w == grC c w then bif cellC c i == cellC c i then
    bt (okM (cntN c) (zeros (cntN c))) (bif decide (cntC c = cntC c) then bif decide (0 ≤ cntC c) && decide (cntC c ≤ 1048576) then bt (lenOK (cntN c) (zeros (cntN c)) && lenOK (cntC c).toNat (zeros (cntC c).toNat)) (some (.bool (decide (zeros (cntN c) = zeros (cntC c).toNat)))) else none else none)
  else isF else isF else isF else isF
theorem ct_tree (c : Cf) (w i : Int) : (call clEnv 60 3 [c.val, .int .i64 w, .int .i64 i] []).run (Option Value) none (fun r => some r.1) =
    bif rightC c then (bif !(rightC c == rightC c) then isF else bif !rightC c then isF else ctYes c w i) else (bif !(rightC c == rightC c) then isF else bif !rightC c then isT else isF) := by kernel_rfl
theorem ct_true (c : Cf) (w i : Int) : (call clEnv 60 3 [c.val, .int .i64 w, .int .i64 i] []).run (Option Value) none (fun r => some r.1) = some (.bool true) := by
  rw [ct_tree]
  cases hr : rightC c with
  | false => rfl
  | true =>
    have h := rightC_iff.1 hr
    have hN := h.cntN
    have e1 := h.cntC
    have e2 := h.cntQ
    have hok : okM (cntN c) (zeros (cntN c)) = true := okM_iff.2 ⟨by unfold zeros; rw [List.length_replicate], by omega, by omega⟩
    have e3 : (cntC c).toNat = cntN c := by omega
    show ctYes c w i = _
    unfold ctYes
    rw [e3, e1, e2, beq_self_eq_true, beq_self_eq_true, beq_self_eq_true, beq_self_eq_true, bt_of hok, decide_eq_true (rfl : 3 + 2 * c.w + c.s = 3 + 2 * c.w + c.s), decide_eq_true (show (0 : Int) ≤ 3 + 2 * c.w + c.s by omega), decide_eq_true (show 3 + 2 * c.w + c.s ≤ (1048576 : Int) by omega), lenOK_okM hok, bt_of (c := true && true) rfl, decide_eq_true rfl]
    rfl
/-! ### ConfMore -/
def cfD (c : Cf) : Cf := ⟨w64 (c.w + 1), c.s, c.st, c.wt, c.u⟩
def cfF (c : Cf) : Cf := ⟨c.w, w64 (c.s + 1), c.st, c.wt, c.u⟩
def cmT (c : Cf) (k x : Int) : Option Value :=
  bif cellC (cfD c) k == w64 (cellC c k + 2) then bif pinC (cfD c) x == pinC c x then bif grC (cfD c) x == w64 (grC c x + 1) then bif cellC (cfF c) k == cellC c k then bif cntC (cfF c) == w64 (cntC c + 1) then bif cntC (cfD c) == w64 (cntC c + 2) then some (.bool (cellC (cfF c) c.s == cntC c)) else isF else isF else isF else isF else isF else isF
theorem cm_tree (a b c d e i w : Int) : (call clEnv 60 5 [.agg #[.int .u8 a, .int .u8 b, .int .u8 c, .int .u8 d, .int .u8 e], .int .u8 i, .int .u8 w] []).run (Option Value) none (fun r => some r.1) =
    noS (confG a b c d e) (noW (confG a b c d e) (cmT (confG a b c d e) (atI (confG a b c d e).s i) (atI (confG a b c d e).w w))) := by kernel_rfl
theorem cellC_at {c : Cf} (hw : 0 ≤ c.w ∧ c.w ≤ 100) (hs : c.s ≤ 100) {i : Int} (h0 : 0 ≤ i) (h1 : i < c.s) : cellC c i = 3 + 2 * c.w + i := by
  unfold cellC inI
  rw [if_pos (by simp; omega)]
  exact w64_in ⟨by omega, by omega⟩
theorem cntC_at {c : Cf} (hw : 0 ≤ c.w ∧ c.w ≤ 100) (hs : 0 ≤ c.s ∧ c.s ≤ 100) : cntC c = 3 + 2 * c.w + c.s := by
  unfold cntC
  exact w64_in ⟨by omega, by omega⟩
theorem pinC_at {c : Cf} (hw : 0 ≤ c.w ∧ c.w ≤ 100) {i : Int} (h0 : 0 ≤ i) (h1 : i < c.w) : pinC c i = 3 + i := by
  unfold pinC inI
  rw [if_pos (by simp; omega)]
  exact w64_in ⟨by omega, by omega⟩
theorem grC_at {c : Cf} (hw : 0 ≤ c.w ∧ c.w ≤ 100) {i : Int} (h0 : 0 ≤ i) (h1 : i < c.w) : grC c i = 3 + c.w + i := by
  unfold grC inI
  rw [if_pos (by simp; omega)]
  exact w64_in ⟨by omega, by omega⟩
theorem cm_true (a b c d e i w : Int) (ha : 0 ≤ a ∧ a ≤ 255) (hb : 0 ≤ b ∧ b ≤ 255) (hc : 0 ≤ c ∧ c ≤ 255) (hd : 0 ≤ d ∧ d ≤ 255) (he : 0 ≤ e ∧ e ≤ 255) (hi : 0 ≤ i ∧ i ≤ 255) (hw : 0 ≤ w ∧ w ≤ 255) : (call clEnv 60 5 [.agg #[.int .u8 a, .int .u8 b, .int .u8 c, .int .u8 d, .int .u8 e], .int .u8 i, .int .u8 w] []).run (Option Value) none (fun r => some r.1) = some (.bool true) := by
  have hS := confG_small ha.1 hb.1 hc.1 hd.1 he.1
  rw [cm_tree, noS_of hS.right, noW_of hS.right]
  obtain ⟨k, hk, hks⟩ := atI_in (m := (confG a b c d e).s) hS.s.1 hi
  obtain ⟨x, hx, hxs⟩ := atI_in (m := (confG a b c d e).w) hS.w.1 hw
  rw [hk, hx]
  generalize confG a b c d e = g at hS hks hxs
  have h1 := hS.w
  have h2 := hS.s
  have dw : (cfD g).w = g.w + 1 := w64_in ⟨by omega, by omega⟩
  have fs : (cfF g).s = g.s + 1 := w64_in ⟨by omega, by omega⟩
  have ds : (cfD g).s = g.s := rfl
  have fw : (cfF g).w = g.w := rfl
  unfold cmT
  rw [cellC_at (c := cfD g) (by omega) (by omega) (by omega) (by omega), cellC_at (c := g) (i := (k : Int)) (by omega) (by omega) (by omega) hks, cellC_at (c := cfF g) (i := (k : Int)) (by omega) (by omega) (by omega) (by omega), cellC_at (c := cfF g) (i := g.s) (by omega) (by omega) (by omega) (by omega),
    pinC_at (c := cfD g) (by omega) (by omega) (by omega), pinC_at (c := g) (by omega) (by omega) hxs, grC_at (c := cfD g) (by omega) (by omega) (by omega), grC_at (c := g) (by omega) (by omega) hxs,
    cntC_at (c := cfF g) (by omega) (by omega), cntC_at (c := cfD g) (by omega) (by omega), cntC_at (c := g) (by omega) (by omega), dw, fs, ds, fw,
    w64_in (x := 3 + 2 * g.w + (k : Int) + 2) ⟨by omega, by omega⟩, w64_in (x := 3 + g.w + (x : Int) + 1) ⟨by omega, by omega⟩, w64_in (x := 3 + 2 * g.w + g.s + 1) ⟨by omega, by omega⟩, w64_in (x := 3 + 2 * g.w + g.s + 2) ⟨by omega, by omega⟩]
  have q1 : (3 + 2 * (g.w + 1) + (k : Int) == 3 + 2 * g.w + k + 2) = true := by simp; omega
  have q2 : (3 + (g.w + 1) + (x : Int) == 3 + g.w + x + 1) = true := by simp; omega
  have q3 : (3 + 2 * g.w + (g.s + 1) == 3 + 2 * g.w + g.s + 1) = true := by simp; omega
  have q4 : (3 + 2 * (g.w + 1) + g.s == 3 + 2 * g.w + g.s + 2) = true := by simp; omega
  rw [q1, q2, q3, q4, beq_self_eq_true, beq_self_eq_true, beq_self_eq_true]; rfl
theorem ct_walk (w : World) (hT : Tab w) (c : Cf) (x1 x2 : Int) : Calls Tryd.prog 3 #[c.val, .int .i64 x1, .int .i64 x2] w fun e w' => e = .returned (.bool true) ∧ Below w.heap.size w w' :=
  call_start (clEnv_ok _ w hT.lt (bnd_self w) hT) rfl (args := [c.val, .int .i64 x1, .int .i64 x2]) (fuel := 60) (ct_true c x1 x2) rfl (by simp [undef]) (by simp [Cf.val, Go.Sx.plain, plain1])
theorem cm_walk (w : World) (hT : Tab w) (a b c d e : Int) (ha : 0 ≤ a ∧ a ≤ 255) (hb : 0 ≤ b ∧ b ≤ 255) (hc : 0 ≤ c ∧ c ≤ 255) (hd : 0 ≤ d ∧ d ≤ 255) (he : 0 ≤ e ∧ e ≤ 255) (x1 : Int) (h1 : 0 ≤ x1 ∧ x1 ≤ 255) (x2 : Int) (h2 : 0 ≤ x2 ∧ x2 ≤ 255) : Calls Tryd.prog 5 #[.agg #[.int .u8 a, .int .u8 b, .int .u8 c, .int .u8 d, .int .u8 e], .int .u8 x1, .int .u8 x2] w fun e w' => e = .returned (.bool true) ∧ Below w.heap.size w w' :=
  call_start (clEnv_ok _ w hT.lt (bnd_self w) hT) rfl (args := [.agg #[.int .u8 a, .int .u8 b, .int .u8 c, .int .u8 d, .int .u8 e], .int .u8 x1, .int .u8 x2]) (fuel := 60) (cm_true a b c d e x1 x2 ha hb hc hd he h1 h2) rfl (by simp [undef]) (by simp [Go.Sx.plain, plain1])
end Go.Proofs.YthfoljgaiincdaaDoor
