/- Between the rounds of a loop: what is no longer needed is forgotten; blocks, sequences and conditions put together by hand. No condition of its own. -/
import Derived.Test.YtjgifhegfadohaaDoorSxO
namespace Go.Sx
open Go Go.RowKit
set_option linter.unusedVariables false
/-- Does a value hang on blocks below m alone? -/
def fit1 (m : Nat) : Value → Bool
  | .pointer (some a) => Nat.blt a.block m
  | .slice (some a) _ _ => Nat.blt a.block m
  | v => plain1 v
def fitV (m : Nat) : Value → Bool
  | .agg c => c.all (fit1 m)
  | .tuple c => Nat.beq c.size 0
  | .chan _ => true
  | v => fit1 m v
def rst (m : Nat) (σ : Nat → Option Pl) : Nat → Option Pl := fun k => if k < m then σ k else none
theorem rst_lt {m k : Nat} {σ : Nat → Option Pl} (h : k < m) : rst m σ k = σ k := if_pos h
theorem rst_some {m k : Nat} {σ : Nat → Option Pl} {p : Pl} (h : rst m σ k = some p) : k < m ∧ σ k = some p := by
  unfold rst at h
  split at h
  · rename_i hk; exact ⟨hk, h⟩
  · cases h
theorem VR.fit1 {m : Nat} {σ : Nat → Option Pl} {v v' : Value} (h : VR σ v v') (hf : fit1 m v = true) : VR (rst m σ) v v' := by
  unfold Sx.fit1 at hf
  split at hf
  · rename_i a
    have hk := blt_true hf
    cases h with
    | ptr h => exact .ptr ((rst_lt hk).trans h)
    | ptrRow h => exact .ptrRow ((rst_lt hk).trans h)
  · rename_i a l c
    have hk := blt_true hf
    cases h with
    | slice h => exact .slice ((rst_lt hk).trans h)
    | sliceRow h => exact .sliceRow ((rst_lt hk).trans h)
    | vec h hl => exact .vec ((rst_lt hk).trans h) hl
    | empty a => exact .empty a
  · rw [h.plain1_eq hf]
    exact VR.plain1 _ hf
theorem VR.fit {m : Nat} {σ : Nat → Option Pl} {v v' : Value} (h : VR σ v v') (hf : fitV m v = true) : VR (rst m σ) v v' := by
  unfold Sx.fitV at hf
  split at hf
  · rename_i c
    cases h with
    | agg hs hh =>
      refine .agg hs fun i x y hx hy => (hh i x y hx hy).fit1 ?_
      rw [Array.all_eq_true] at hf
      obtain ⟨hi, rfl⟩ := Array.getElem?_eq_some_iff.1 hx
      exact hf i hi
  · rename_i c
    have hz : c.size = 0 := beq_true hf
    obtain rfl : c = #[] := Array.eq_empty_of_size_eq_zero hz
    exact .any _
  · cases h with
    | skip => exact .skip
  · exact h.fit1 hf
def fitB (m : Nat) : Blk → Bool
  | .cells _ _ c => c.all (fitV m)
  | _ => true
def RowsPlain (lh : List Blk) : Prop := ∀ (k : Nat) (o wr : Bool) (wd n : Nat) (g : Nat → Nat → Value), lh[k]? = some (.rows o wr wd n g) → ∀ i j, Sx.plain1 (g i j) = true
theorem BR.rst {n m : Nat} {σ : Nat → Option Pl} {b : Blk} {p : Pl} {w : World} (h : BR n σ b p w) (hf : fitB m b = true) (hr : ∀ o wr wd k g, b = .rows o wr wd k g → ∀ i j, Sx.plain1 (g i j) = true) : BR n (Sx.rst m σ) b p w := by
  refine ⟨h.1, ?_⟩
  have hb := h.2
  cases b with
  | cells ow wr c =>
    intro i v hv
    obtain ⟨v', h1, h2⟩ := hb i v hv
    refine ⟨v', h1, h2.fit ?_⟩
    unfold fitB at hf
    rw [List.all_eq_true] at hf
    exact hf v (List.mem_of_getElem? hv)
  | ints ow wr l => exact hb
  | rows ow wr wd k g =>
    refine ⟨hb.1, fun i j hi hj => ?_⟩
    obtain ⟨v', h1, h2⟩ := hb.2 i j hi hj
    refine ⟨v', h1, ?_⟩
    have hp := hr _ _ _ _ _ rfl i j
    rw [h2.plain1_eq hp]
    exact VR.plain1 _ hp
  | dead => trivial
def maskL : List Bool → List Value → List Value
  | true :: ms, v :: vs => v :: maskL ms vs
  | _ :: ms, _ :: vs => undef :: maskL ms vs
  | _, [] => []
  | [], _ :: vs => undef :: maskL [] vs
theorem maskL_at : ∀ (ms : List Bool) (vs : List Value), (maskL ms vs).length = vs.length ∧ ∀ t, (maskL ms vs).getD t undef = undef ∨ (maskL ms vs).getD t undef = vs.getD t undef
  | [], [] => ⟨rfl, fun t => .inl (by simp [maskL])⟩
  | m :: ms, [] => by
    cases m <;> exact ⟨rfl, fun t => .inl (by simp [maskL])⟩
  | [], v :: vs => by
    obtain ⟨h1, h2⟩ := maskL_at [] vs
    refine ⟨by simp [maskL, h1], fun t => ?_⟩
    cases t with
    | zero => exact .inl (by simp [maskL])
    | succ t => simpa [maskL] using h2 t
  | m :: ms, v :: vs => by
    obtain ⟨h1, h2⟩ := maskL_at ms vs
    cases m
    · refine ⟨by simp [maskL, h1], fun t => ?_⟩
      cases t with
      | zero => exact .inl (by simp [maskL])
      | succ t => simpa [maskL] using h2 t
    · refine ⟨by simp [maskL, h1], fun t => ?_⟩
      cases t with
      | zero => exact .inr (by simp [maskL])
      | succ t => simpa [maskL] using h2 t
/-- What is forgotten: the temporaries that the mask doesn't keep, the blocks from m on. -/
def forgetM (mask : List Bool) (m : Nat) (s : St) : M St :=
  cond ((maskL mask s.tmps).all (fitV m) && (s.lh.take m).all (fitB m)) (.ret ⟨maskL mask s.tmps, s.lh.take m⟩) .bad
def roundM (E : Env) (fuel : Nat) (c : Code) (mask : List Bool) (m : Nat) (s : St) : M (Exit × St) :=
  .bind (exec E fuel c s) fun r => .bind (forgetM mask m r.2) fun s' => .ret (r.1, s')
variable {P : Program} {n : Nat} {w0 : World} {G : Nat}
theorem Runs.forget {c : Code} {s s1 s2 : St} {e : Exit} {mask : List Bool} {m : Nat} (h : Runs P n w0 G c s e s1) (hf : (forgetM mask m s1).get = some s2) (hm : s.lh.length ≤ m) (hG : G ≤ m) (hp : RowsPlain s2.lh) : Runs P n w0 G c s e s2 := by
  unfold forgetM at hf
  cases hc : ((maskL mask s1.tmps).all (fitV m) && (s1.lh.take m).all (fitB m)) with
  | false => rw [hc] at hf; cases hf
  | true =>
    rw [hc] at hf
    simp only [cond_true, M.get_ret, Option.some.injEq] at hf
    subst hf
    rw [Bool.and_eq_true, List.all_eq_true, List.all_eq_true] at hc
    obtain ⟨hc1, hc2⟩ := hc
    obtain ⟨ml, mt⟩ := maskL_at mask s1.tmps
    have tk : ∀ k, k < m → (s1.lh.take m).getD k .dead = s1.lh.getD k .dead := fun k hk => by
      simp [List.getElem?_take, hk]
    refine ⟨⟨by simp only [List.length_take]; have := h.1.1; omega, fun k hk hw => by rw [tk k (by omega)]; exact h.1.2 k hk hw⟩, fun σ a w hrel => wp_mono (h.2 σ a w hrel) fun e' a' w' hq => ?_⟩
    obtain ⟨rfl, σ', hext, hr⟩ := hq
    refine ⟨rfl, rst m σ', ⟨fun k p hk => ?_, fun k hk => ?_⟩, ?_⟩
    · rw [rst_lt (Nat.lt_of_lt_of_le (hrel.hr.dom k p hk) hm)]; exact hext.1 k p hk
    · rw [rst_lt (by omega)]; exact hext.2 k hk
    · refine ⟨by rw [hr.sz, ml], fun t => ?_, hr.df, ?_⟩
      · rcases mt t with h1 | h1
        · rw [h1]; exact .any _
        · rw [h1]
          have hv := hr.tm t
          by_cases ht : t < s1.tmps.length
          · refine hv.fit ?_
            rw [← h1]
            refine hc1 _ ?_
            rw [List.getD_eq_getElem?_getD, List.getElem?_eq_getElem (by rw [ml]; exact ht)]
            exact List.getElem_mem _
          · rw [List.getD_eq_getElem?_getD, List.getElem?_eq_none (by omega)]
            exact .any _
      · have H := hr.hr
        refine ⟨H.hn, H.below, fun g hg => ?_, fun k p hk => ?_, fun k p hk => H.lt k p (rst_some hk).2, fun k k' p p' hk hk' ho hl hb => ?_, fun k p hk => ?_⟩
        · obtain ⟨p, h1, h2⟩ := H.glob g hg
          exact ⟨p, (rst_lt (by omega)).trans h1, h2⟩
        · have := H.dom k p (rst_some hk).2
          have := (rst_some hk).1
          simp only [List.length_take]; omega
        · rw [tk k (rst_some hk).1] at ho
          rw [tk k' (rst_some hk').1] at hl
          exact H.inj k k' p p' (rst_some hk).2 (rst_some hk').2 ho hl hb
        · have hkm := (rst_some hk).1
          have hd := H.dom k p (rst_some hk).2
          rw [tk k hkm]
          have hget : (s1.lh.take m)[k]? = some (s1.lh.getD k .dead) := by
            rw [List.getElem?_take, if_pos hkm, List.getElem?_eq_getElem hd]
            simp [hd]
          refine (H.blk k p (rst_some hk).2).rst (hc2 _ (List.mem_of_getElem? hget)) fun o wr wd q g hb => hp k o wr wd q g (hget.trans (by rw [hb]))
theorem round_runs {E : Env} (hE : EnvOK E n w0) {fuel : Nat} {c : Code} {mask : List Bool} {m : Nat} {s s2 : St} {e : Exit} (h : (roundM E fuel c mask m s).get = some (e, s2)) (hm : s.lh.length ≤ m) (hG : E.G ≤ m) (hp : RowsPlain s2.lh) : Runs E.P n w0 E.G c s e s2 := by
  obtain ⟨⟨e1, s1⟩, h1, h2⟩ := M.get_bind_some h
  obtain ⟨s3, h3, h4⟩ := M.get_bind_some h2
  simp only [M.get_ret, Option.some.injEq, Prod.mk.injEq] at h4
  obtain ⟨rfl, rfl⟩ := h4
  exact (exec_runs hE h1).forget h3 hm hG hp
/-- A block whose body leaves it. -/
theorem Runs.block_exit {id : Nat} {b : Code} {s s' : St} (h : Runs P n w0 G b s (.exit id) s') : Runs P n w0 G (.block id b) s .normal s' := by
  refine ⟨h.1, fun σ a w hrel => wp_block (wp_mono (h.2 σ a w hrel) fun e' a' w' hq => ?_)⟩
  obtain ⟨rfl, hq⟩ := hq
  simp only [Exit.inBlock, if_true]
  exact ⟨trivial, hq⟩
theorem Runs.block_ret {id : Nat} {b : Code} {s s' : St} (h : Runs P n w0 G b s .ret s') : Runs P n w0 G (.block id b) s .ret s' := by
  refine ⟨h.1, fun σ a w hrel => wp_block (wp_mono (h.2 σ a w hrel) fun e' a' w' hq => ?_)⟩
  obtain ⟨rfl, hq⟩ := hq
  exact ⟨rfl, hq⟩
def seqL : Code → Code
  | .seq a _ => a
  | _ => .skip
def seqR : Code → Code
  | .seq _ b => b
  | _ => .skip
def blkB : Code → Code
  | .block _ b => b
  | _ => .skip
def lpB : Code → Code
  | .loop b => b
  | _ => .skip
end Go.Sx
