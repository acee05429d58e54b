/- FindPlays: its loop, and the whole. No condition of its own. -/
import Derived.Test.YtcakklnacnnlaaaDoorFindL
namespace Go.Proofs.YtcakklnacnnlaaaDoor
open Go.RowKit Go.Fld Go.Sx
set_option linter.unusedVariables false
set_option linter.unusedSimpArgs false
def bt {α : Type} (c : Bool) (K : Option α) : Option α := bif c then K else none
theorem bt_of {α : Type} {c : Bool} {K : Option α} (h : c = true) : bt c K = K := by unfold bt; rw [h]; rfl
/-- All words are numbers of 64 bits. -/
def AllI (l : List Int) : Prop := ∀ x ∈ l, I64i x
theorem AllI.ld {l : List Int} (h : AllI l) (n : Nat) (i : Int) : I64i (ldS n l i) := by
  unfold ldS
  split
  · rw [List.getD_eq_getElem?_getD]
    cases hq : l[i.toNat]? with
    | none => exact ⟨by decide, by decide⟩
    | some x => exact h x (List.mem_of_getElem? hq)
  · exact ⟨by decide, by decide⟩
theorem AllI.set {l : List Int} (h : AllI l) (k : Nat) {v : Int} (hv : I64i v) : AllI (l.set k v) := fun x hx => by
  rcases List.mem_or_eq_of_mem_set hx with hx | rfl
  · exact h x hx
  · exact hv
theorem AllI.st {l : List Int} (h : AllI l) (n : Nat) (i : Int) {v : Int} (hv : I64i v) : AllI (stS n l i v) := by
  unfold stS
  split
  · exact h.set _ hv
  · exact h
/-- The words that others store may be stored. -/
def WrI (gi : Nat → Nat → Int) (k : Nat) : Prop := ∀ i, i < k → (0 ≤ gi i 1 ∧ gi i 1 ≤ 255) ∧ I64i (gi i 2)
theorem AllI.wrs {l : List Int} (h : AllI l) (N : Nat) (gi : Nat → Nat → Int) (step : Int) : ∀ k, WrI gi k → AllI (wrsL N gi step k l)
  | 0, _ => h
  | k + 1, hw => by
    have ih := AllI.wrs h N gi step k fun i hi => hw i (by omega)
    unfold wrsL
    split
    · exact ih.st _ _ (hw k (by omega)).2
    · exact ih
theorem wrOK_of {N : Nat} {gi : Nat → Nat → Int} {k : Nat} (hN : 0 < N) (h : WrI gi k) : wrOK N gi k = true := by
  unfold wrOK
  rw [List.all_eq_true]
  intro i hi
  have h1 := (h i (List.mem_range.1 hi)).1
  unfold wrA inR
  rw [w64_in ⟨by omega, by omega⟩, Int.tmod_eq_emod_of_nonneg h1.1]
  have := Int.emod_nonneg (gi i 1) (show (N : Int) ≠ 0 by omega)
  have := Int.emod_lt_of_pos (gi i 1) (show (0 : Int) < N by omega)
  simp; omega
theorem encS_I {s : Slt} : I64i ((encS s).getD 0) := by
  cases h : encS s with
  | none => exact ⟨by decide, by decide⟩
  | some x =>
    have := dec_enc s x h
    exact ⟨by show (-9223372036854775808 : Int) ≤ x; omega, by show x ≤ 9223372036854775807; omega⟩
theorem madeP_I (cf : Cf) (pi : Nat → Nat → Int) {l : List Int} (h : AllI l) : ∀ k, AllI (madeP cf pi k l)
  | 0 => h
  | k + 1 => (madeP_I cf pi h k).set _ (w64_I _)
theorem madeS_I (cf : Cf) (si : Nat → Nat → Int) (sb : Nat → Nat → Bool) {l : List Int} (h : AllI l) : ∀ k, AllI (madeS cf si sb k l)
  | 0 => h
  | k + 1 => (madeS_I cf si sb h k).set _ encS_I
theorem madeL_I (cf : Cf) (nf : Nat) (fi : Nat → Nat → Int) (np : Nat) (pi : Nat → Nat → Int) (ns : Nat) (si : Nat → Nat → Int) (sb : Nat → Nat → Bool) : AllI (madeL cf nf fi np pi ns si sb) := by
  have h0 : AllI (List.replicate (cntN cf) (0 : Int)) := fun x hx => by rw [(List.mem_replicate.1 hx).2]; exact ⟨by decide, by decide⟩
  unfold madeL mdS
  refine madeS_I cf si sb (madeP_I cf pi ?_ _) _
  unfold mdFirst
  split
  · exact (h0.set _ (w64_I _)).set _ (w64_I _)
  · exact h0
abbrev rowsG (ns nf np : Nat) (si : Nat → Nat → Int) (sb : Nat → Nat → Bool) (fi : Nat → Nat → Int) (fb : Nat → Nat → Bool) (pi : Nat → Nat → Int) (pb : Nat → Nat → Bool) : List Go.Sx.Blk := [.rows false false 9 ns ⟨slKs, si, sb⟩, .rows false false 1 nf ⟨[.it .u8], fi, fb⟩, .rows false false 1 np ⟨[.it .u8], pi, pb⟩]
/-! ### One round -/
noncomputable def fpBody : Code := Tryd.f8.body.getD .skip
noncomputable def fpRound : Code := lpB (blkAt 0 fpBody)
theorem fp_loop : blkAt 0 fpBody = .loop fpRound := by kernel_rfl
abbrev fpV (nl cl nt ct : Nat) (i : Int) : List Value := [.slice (some ⟨3, 0, some 2⟩) nl cl, .slice (some ⟨4, 0, some 2⟩) nt ct, .bool true, .pointer (some ⟨5, 0, none⟩), .pointer (some ⟨6, 0, none⟩), .pointer (some ⟨7, 0, none⟩), .pointer (some ⟨8, 0, none⟩), .int .i64 i]
abbrev fpA (ns nf np nl nt : Nat) (si : Nat → Nat → Int) (sb : Nat → Nat → Bool) (fi : Nat → Nat → Int) (fb : Nat → Nat → Bool) (pi : Nat → Nat → Int) (pb : Nat → Nat → Bool) (gi : Nat → Nat → Int) (gb : Nat → Nat → Bool) (ti : Nat → Nat → Int) (tb : Nat → Nat → Bool) : List Go.Sx.Blk := rowsG ns nf np si sb fi fb pi pb ++ [.rows false false 3 nl ⟨wrKs, gi, gb⟩, .rows false false 1 nt ⟨[.it .u8], ti, tb⟩]
abbrev fpH (ns nf np nl nt : Nat) (si : Nat → Nat → Int) (sb : Nat → Nat → Bool) (fi : Nat → Nat → Int) (fb : Nat → Nat → Bool) (pi : Nat → Nat → Int) (pb : Nat → Nat → Bool) (gi : Nat → Nat → Int) (gb : Nat → Nat → Bool) (ti : Nat → Nat → Int) (tb : Nat → Nat → Bool) (cf : Cf) (k own : Int) (N C : Nat) (tp tr : Int) (lp lr : List Int) (q h : Fq) : List Go.Sx.Blk := fpA ns nf np nl nt si sb fi fb pi pb gi gb ti tb ++ [.cells true true [.slice (some ⟨9, 0, none⟩) N C, .int .i64 tp], fdB cf k own q, .cells true true [.slice (some ⟨10, 0, some 1⟩) N 0, .int .i64 tr], fdB cf k own h, .ints true true lp, .ints true true lr]
def turnT (ti : Nat → Nat → Int) (i : Nat) : Int := (ti i 0).tmod 3
theorem fp_tree (ns nf np nl nt : Nat) (si : Nat → Nat → Int) (sb : Nat → Nat → Bool) (fi : Nat → Nat → Int) (fb : Nat → Nat → Bool) (pi : Nat → Nat → Int) (pb : Nat → Nat → Bool) (gi : Nat → Nat → Int) (gb : Nat → Nat → Bool) (ti : Nat → Nat → Int) (tb : Nat → Nat → Bool) (cl ct : Nat) (cf : Cf) (k own : Int) (N C : Nat) (tp tr : Int) (lp lr : List Int) (q h : Fq) (i : Int) :
    (roundV flEnv 40 noLps 177 [4, 5, 13, 17, 18, 19, 20, 21] 5 fpRound (unpack 177 [4, 5, 13, 17, 18, 19, 20, 21] (fpV nl cl nt ct i) (fpH ns nf np nl nt si sb fi fb pi pb gi gb ti tb cf k own N C tp tr lp lr q h))).get =
    bif decide (i < (nt : Int)) then bt (okM N lp && Nat.beq nl nl && smallN nl) (bt (okM N lr && Nat.beq nl nl && smallN nl && wrOK N gi nl) (bt (okM N (wrsL N gi i nl lp)) (bt (okM N (wrsL N gi i nl lr))
      (bif !(fret cf k own N (wrsL N gi i nl lp) q == fretQ cf k own N (wrsL N gi i nl lr) h) then some (.ret, fpV nl cl nt ct i, fpH ns nf np nl nt si sb fi fb pi pb gi gb ti tb cf k own N C (ftch cf N q (wrsT N gi i nl tp)) (ftch cf N h tr) (wrsL N gi i nl lp) (wrsL N gi i nl lr) (fstep cf k own N (wrsL N gi i nl lp) q) (fstepQ cf k own N (wrsL N gi i nl lr) h)) else
       bif w64 (ftch cf N q (wrsT N gi i nl tp) - wrsT N gi i nl tp) != w64 (ftch cf N h tr - tr) then some (.ret, fpV nl cl nt ct i, fpH ns nf np nl nt si sb fi fb pi pb gi gb ti tb cf k own N C (ftch cf N q (wrsT N gi i nl tp)) (ftch cf N h tr) (wrsL N gi i nl lp) (wrsL N gi i nl lr) (fstep cf k own N (wrsL N gi i nl lp) q) (fstepQ cf k own N (wrsL N gi i nl lr) h)) else
       bif !(fstep cf k own N (wrsL N gi i nl lp) q).found then (bif !(false == (fstepQ cf k own N (wrsL N gi i nl lr) h).found) then some (.ret, fpV nl cl nt ct i, fpH ns nf np nl nt si sb fi fb pi pb gi gb ti tb cf k own N C (ftch cf N q (wrsT N gi i nl tp)) (ftch cf N h tr) (wrsL N gi i nl lp) (wrsL N gi i nl lr) (fstep cf k own N (wrsL N gi i nl lp) q) (fstepQ cf k own N (wrsL N gi i nl lr) h)) else (ixR i nt nt (bif (ti i.toNat 0).tmod 3 == 1 then some (.normal, fpV nl cl nt ct (w64 (i + 1)), fpH ns nf np nl nt si sb fi fb pi pb gi gb ti tb cf k own N C (ftch cf N q (wrsT N gi i nl tp)) (ftch cf N h tr) (wrsL N gi i nl lp) (wrsL N gi i nl lr) (fagain (fstep cf k own N (wrsL N gi i nl lp) q)) (fagain (fstepQ cf k own N (wrsL N gi i nl lr) h))) else bif (ti i.toNat 0).tmod 3 == 2 then some (.normal, fpV nl cl nt ct (w64 (i + 1)), fpH ns nf np nl nt si sb fi fb pi pb gi gb ti tb cf k own N C (ftch cf N q (wrsT N gi i nl tp)) (ftch cf N h tr) (wrsL N gi i nl lp) (wrsL N gi i nl lr) (fgo (fstep cf k own N (wrsL N gi i nl lp) q)) (fgoQ (fstepQ cf k own N (wrsL N gi i nl lr) h))) else some (.normal, fpV nl cl nt ct (w64 (i + 1)), fpH ns nf np nl nt si sb fi fb pi pb gi gb ti tb cf k own N C (ftch cf N q (wrsT N gi i nl tp)) (ftch cf N h tr) (wrsL N gi i nl lp) (wrsL N gi i nl lr) (fstep cf k own N (wrsL N gi i nl lp) q) (fstepQ cf k own N (wrsL N gi i nl lr) h)))))
       else bif !(true == (fstepQ cf k own N (wrsL N gi i nl lr) h).found) then some (.ret, fpV nl cl nt ct i, fpH ns nf np nl nt si sb fi fb pi pb gi gb ti tb cf k own N C (ftch cf N q (wrsT N gi i nl tp)) (ftch cf N h tr) (wrsL N gi i nl lp) (wrsL N gi i nl lr) (fstep cf k own N (wrsL N gi i nl lp) q) (fstepQ cf k own N (wrsL N gi i nl lr) h)) else bif (fstep cf k own N (wrsL N gi i nl lp) q).at_ != (fstepQ cf k own N (wrsL N gi i nl lr) h).at_ then some (.ret, fpV nl cl nt ct i, fpH ns nf np nl nt si sb fi fb pi pb gi gb ti tb cf k own N C (ftch cf N q (wrsT N gi i nl tp)) (ftch cf N h tr) (wrsL N gi i nl lp) (wrsL N gi i nl lr) (fstep cf k own N (wrsL N gi i nl lp) q) (fstepQ cf k own N (wrsL N gi i nl lr) h)) else bif (fstep cf k own N (wrsL N gi i nl lp) q).word != (fstepQ cf k own N (wrsL N gi i nl lr) h).word then some (.ret, fpV nl cl nt ct i, fpH ns nf np nl nt si sb fi fb pi pb gi gb ti tb cf k own N C (ftch cf N q (wrsT N gi i nl tp)) (ftch cf N h tr) (wrsL N gi i nl lp) (wrsL N gi i nl lr) (fstep cf k own N (wrsL N gi i nl lp) q) (fstepQ cf k own N (wrsL N gi i nl lr) h)) else (ixR i nt nt (bif (ti i.toNat 0).tmod 3 == 1 then some (.normal, fpV nl cl nt ct (w64 (i + 1)), fpH ns nf np nl nt si sb fi fb pi pb gi gb ti tb cf k own N C (ftch cf N q (wrsT N gi i nl tp)) (ftch cf N h tr) (wrsL N gi i nl lp) (wrsL N gi i nl lr) (fagain (fstep cf k own N (wrsL N gi i nl lp) q)) (fagain (fstepQ cf k own N (wrsL N gi i nl lr) h))) else bif (ti i.toNat 0).tmod 3 == 2 then some (.normal, fpV nl cl nt ct (w64 (i + 1)), fpH ns nf np nl nt si sb fi fb pi pb gi gb ti tb cf k own N C (ftch cf N q (wrsT N gi i nl tp)) (ftch cf N h tr) (wrsL N gi i nl lp) (wrsL N gi i nl lr) (fgo (fstep cf k own N (wrsL N gi i nl lp) q)) (fgoQ (fstepQ cf k own N (wrsL N gi i nl lr) h))) else some (.normal, fpV nl cl nt ct (w64 (i + 1)), fpH ns nf np nl nt si sb fi fb pi pb gi gb ti tb cf k own N C (ftch cf N q (wrsT N gi i nl tp)) (ftch cf N h tr) (wrsL N gi i nl lp) (wrsL N gi i nl lr) (fstep cf k own N (wrsL N gi i nl lp) q) (fstepQ cf k own N (wrsL N gi i nl lr) h))))))))
    else some (.exit 0, fpV nl cl nt ct i, fpH ns nf np nl nt si sb fi fb pi pb gi gb ti tb cf k own N C tp tr lp lr q h) := by kernel_rfl
end Go.Proofs.YtcakklnacnnlaaaDoor
