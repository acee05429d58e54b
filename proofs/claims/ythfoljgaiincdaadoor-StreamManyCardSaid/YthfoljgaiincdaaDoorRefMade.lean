
/- Memory's first words, made of small numbers: the document's Made. No condition of its own. -/
import Derived.Test.YthfoljgaiincdaaDoorRefWrites
namespace Go.Proofs.YthfoljgaiincdaaDoor
open Go.RowKit Go.Fld Go.Sx
set_option linter.unusedVariables false
set_option linter.unusedSimpArgs false
abbrev slKs : List Kd := [.it .i64, .it .i64, .it .i64, .bo, .bo, .it .i64, .it .i64, .it .i64, .it .i64]
def slotR (si : Nat → Nat → Int) (sb : Nat → Nat → Bool) (i : Nat) : Slt := ⟨si i 0, si i 1, si i 2, sb i 3, sb i 4, si i 5, si i 6, si i 7, si i 8⟩
def madeP (cf : Cf) (pi : Nat → Nat → Int) : Nat → List Int → List Int
  | 0, l => l
  | i + 1, l => (madeP cf pi i l).set (pinC cf i).toNat (w64 (pi i 0))
def madeS (cf : Cf) (si : Nat → Nat → Int) (sb : Nat → Nat → Bool) : Nat → List Int → List Int
  | 0, l => l
  | i + 1, l => (madeS cf si sb i l).set (cellC cf i).toNat ((encS (slotR si sb i)).getD 0)
theorem madeP_length (cf : Cf) (pi : Nat → Nat → Int) : ∀ (k : Nat) (l : List Int), (madeP cf pi k l).length = l.length
  | 0, _ => rfl
  | k + 1, l => by unfold madeP; rw [List.length_set, madeP_length]
theorem madeS_length (cf : Cf) (si : Nat → Nat → Int) (sb : Nat → Nat → Bool) : ∀ (k : Nat) (l : List Int), (madeS cf si sb k l).length = l.length
  | 0, _ => rfl
  | k + 1, l => by unfold madeS; rw [List.length_set, madeS_length]
noncomputable def mdFns : List (FuncId × Func) := [(41, Tryd.f41)]
theorem mdFns_ok : ∀ e ∈ mdFns, FnOK Tryd.prog e.1 e.2 := fns_ok_cons ⟨Tryd.func41, by kernel_rfl, by kernel_rfl⟩ <| fns_ok_nil rfl
def md0 : List (FuncId × Orc) := confOrcs ++ wordOrcs
theorem md0_ok : Sounds Tryd.prog Tab md0 := sounds_append confOrcs_ok wordOrcs_ok
noncomputable def md0Env : Env := mkEnv Tryd.prog mdFns [] md0 []
theorem md0Env_ok (X : Nat → Prop) (w0 : World) (h0 : X 0) (hB : Bnd X w0) (hT : Tab w0) : EnvOK md0Env X w0 := mkEnv_ok (fun e he => by cases he) (by kernel_rfl) mdFns_ok md0_ok lpSounds_nil h0 hB hT
noncomputable def mdBody : Code := Tryd.f41.body.getD .skip
noncomputable def mdRound1 : Code := lpB (blkAt 0 mdBody)
noncomputable def mdRound2 : Code := lpB (blkAt 2 mdBody)
theorem md_loop1 : blkAt 0 mdBody = .loop mdRound1 := by kernel_rfl
theorem md_loop2 : blkAt 2 mdBody = .loop mdRound2 := by kernel_rfl
abbrev mdA (a b c d e : Int) (ns cs nf cF np cp : Nat) (o0 w0 o1 w1 o2 w2 : Bool) (si : Nat → Nat → Int) (sb : Nat → Nat → Bool) (fi : Nat → Nat → Int) (fb : Nat → Nat → Bool) (pi : Nat → Nat → Int) (pb : Nat → Nat → Bool) : List Go.Sx.Blk := [.rows o0 w0 9 ns ⟨slKs, si, sb⟩, .rows o1 w1 1 nf ⟨[.it .u8], fi, fb⟩, .rows o2 w2 1 np ⟨[.it .u8], pi, pb⟩]
abbrev mdG (a b c d e : Int) (ns cs nf cF np cp : Nat) : List Value := [.int .u8 a, .int .u8 b, .int .u8 c, .int .u8 d, .int .u8 e, .slice (some ⟨0, 0, some 2⟩) ns cs, .slice (some ⟨1, 0, some 2⟩) nf cF, .slice (some ⟨2, 0, some 2⟩) np cp]
abbrev cfCells (cf : Cf) : List Value := [.int .i64 cf.w, .int .i64 cf.s, .int .i64 cf.st, .int .i64 cf.wt, .int .i64 cf.u]
abbrev mdH (a b c d e : Int) (ns cs nf cF np cp : Nat) (o0 w0 o1 w1 o2 w2 : Bool) (si : Nat → Nat → Int) (sb : Nat → Nat → Bool) (fi : Nat → Nat → Int) (fb : Nat → Nat → Bool) (pi : Nat → Nat → Int) (pb : Nat → Nat → Bool) (cf : Cf) (l : List Int) : List Go.Sx.Blk :=
  [.rows o0 w0 9 ns ⟨slKs, si, sb⟩, .rows o1 w1 1 nf ⟨[.it .u8], fi, fb⟩, .rows o2 w2 1 np ⟨[.it .u8], pi, pb⟩, .cells true true (mdG a b c d e ns cs nf cF np cp), .cells true true [.int .i64 0, .int .i64 0, .int .i64 0, .int .i64 0, .int .i64 0], .cells true true (cfCells cf), .ints true true l]
abbrev mdV (N : Nat) (i : Int) : List Value := [.pointer (some ⟨3, 0, none⟩), .pointer (some ⟨4, 0, none⟩), .pointer (some ⟨5, 0, none⟩), .slice (some ⟨6, 0, none⟩) N N, .int .i64 i]
abbrev mdV2 (N : Nat) : List Value := [.pointer (some ⟨3, 0, none⟩), .pointer (some ⟨4, 0, none⟩), .pointer (some ⟨5, 0, none⟩), .slice (some ⟨6, 0, none⟩) N N]
theorem md_tree1 (a b c d e : Int) (ns cs nf cF np cp : Nat) (o0 w0 o1 w1 o2 w2 : Bool) (si : Nat → Nat → Int) (sb : Nat → Nat → Bool) (fi : Nat → Nat → Int) (fb : Nat → Nat → Bool) (pi : Nat → Nat → Int) (pb : Nat → Nat → Bool) (N : Nat) (cf : Cf) (l : List Int) (i : Int) :
    (roundV md0Env 30 noLps 83 [1, 2, 4, 5, 6] 3 mdRound1 (unpack 83 [1, 2, 4, 5, 6] (mdV N i) (mdH a b c d e ns cs nf cF np cp o0 w0 o1 w1 o2 w2 si sb fi fb pi pb cf l))).get =
    bif decide (i < cf.w) then bif decide (i < (np : Int)) then ixR i np np (bif inRange (pinC cf i) N then bif Nat.blt (0 + (pinC cf i).toNat) l.length then some (.normal, mdV N (w64 (i + 1)), mdH a b c d e ns cs nf cF np cp o0 w0 o1 w1 o2 w2 si sb fi fb pi pb cf (l.set (0 + (pinC cf i).toNat) (w64 (pi i.toNat 0)))) else none else none)
      else some (.exit 0, mdV N i, mdH a b c d e ns cs nf cF np cp o0 w0 o1 w1 o2 w2 si sb fi fb pi pb cf l) else some (.exit 0, mdV N i, mdH a b c d e ns cs nf cF np cp o0 w0 o1 w1 o2 w2 si sb fi fb pi pb cf l) := by kernel_rfl
theorem md_tree2 (a b c d e : Int) (ns cs nf cF np cp : Nat) (o0 w0 o1 w1 o2 w2 : Bool) (si : Nat → Nat → Int) (sb : Nat → Nat → Bool) (fi : Nat → Nat → Int) (fb : Nat → Nat → Bool) (pi : Nat → Nat → Int) (pb : Nat → Nat → Bool) (N : Nat) (cf : Cf) (l : List Int) (i : Int) :
    (roundV md0Env 30 noLps 83 [1, 2, 4, 5, 7] 3 mdRound2 (unpack 83 [1, 2, 4, 5, 7] (mdV N i) (mdH a b c d e ns cs nf cF np cp o0 w0 o1 w1 o2 w2 si sb fi fb pi pb cf l))).get =
    bif decide (i < cf.s) then bif decide (i < (ns : Int)) then ixR i ns ns (bif inRange (cellC cf i) N then bif Nat.blt (0 + (cellC cf i).toNat) l.length then some (.normal, mdV N (w64 (i + 1)), mdH a b c d e ns cs nf cF np cp o0 w0 o1 w1 o2 w2 si sb fi fb pi pb cf (l.set (0 + (cellC cf i).toNat) ((encS (slotR si sb i.toNat)).getD 0))) else none else none)
      else some (.exit 2, mdV N i, mdH a b c d e ns cs nf cF np cp o0 w0 o1 w1 o2 w2 si sb fi fb pi pb cf l) else some (.exit 2, mdV N i, mdH a b c d e ns cs nf cF np cp o0 w0 o1 w1 o2 w2 si sb fi fb pi pb cf l) := by kernel_rfl
theorem pin_in {cf : Cf} (h : RightC cf) {i : Nat} (hi : (i : Int) < cf.w) {l : List Int} (hl : l.length = cntN cf) : inRange (pinC cf i) (cntN cf) = true ∧ Nat.blt (0 + (pinC cf i).toNat) l.length = true := by
  have e := h.pinC (i := i) (by omega) hi
  have hc := h.cntN
  have hs := h.s
  rw [e]
  unfold inRange
  rw [Nat.blt_eq]
  refine ⟨by simp; omega, by omega⟩
theorem cell_in {cf : Cf} (h : RightC cf) {i : Nat} (hi : (i : Int) < cf.s) {l : List Int} (hl : l.length = cntN cf) : inRange (cellC cf i) (cntN cf) = true ∧ Nat.blt (0 + (cellC cf i).toNat) l.length = true := by
  have e := h.cellC (i := i) (by omega) hi
  have hc := h.cntN
  have hw := h.w
  rw [e]
  unfold inRange
  rw [Nat.blt_eq]
  refine ⟨by simp; omega, by omega⟩
def mdOK (cf : Cf) (N N' : Nat) (l : List Int) (ns' ns nf' nf np' np : Nat) : Bool := rightC cf && Nat.beq N (cntN cf) && Nat.beq N' N && Nat.beq l.length N && Nat.beq ns' ns && Nat.beq nf' nf && Nat.beq np' np
def mn (x : Int) (n : Nat) : Nat := min x.toNat n
theorem md_rounds1 {X : Nat → Prop} {W0 : World} (hE : EnvOK md0Env X W0) (a b c d e : Int) (ns cs nf cF np cp : Nat) (o0 w0 o1 w1 o2 w2 : Bool) (si : Nat → Nat → Int) (sb : Nat → Nat → Bool) (fi : Nat → Nat → Int) (fb : Nat → Nat → Bool) (pi : Nat → Nat → Int) (pb : Nat → Nat → Bool) (cf : Cf) (l : List Int) (h : RightC cf) (hl : l.length = cntN cf) : ∀ (k i : Nat), i + k = mn cf.w np →
    LoopRunsB Tryd.prog X W0 0 3 mdRound1 (unpack 83 [1, 2, 4, 5, 6] (mdV (cntN cf) i) (mdH a b c d e ns cs nf cF np cp o0 w0 o1 w1 o2 w2 si sb fi fb pi pb cf (madeP cf pi i l))) (.exit 0) (unpack 83 [1, 2, 4, 5, 6] (mdV (cntN cf) (mn cf.w np)) (mdH a b c d e ns cs nf cF np cp o0 w0 o1 w1 o2 w2 si sb fi fb pi pb cf (madeP cf pi (mn cf.w np) l)))
  | 0, i, hi => by
    have ht := md_tree1 a b c d e ns cs nf cF np cp o0 w0 o1 w1 o2 w2 si sb fi fb pi pb (cntN cf) cf (madeP cf pi i l) i
    have hr : (roundV md0Env 30 noLps 83 [1, 2, 4, 5, 6] 3 mdRound1 (unpack 83 [1, 2, 4, 5, 6] (mdV (cntN cf) i) (mdH a b c d e ns cs nf cF np cp o0 w0 o1 w1 o2 w2 si sb fi fb pi pb cf (madeP cf pi i l)))).get = some (.exit 0, mdV (cntN cf) i, mdH a b c d e ns cs nf cF np cp o0 w0 o1 w1 o2 w2 si sb fi fb pi pb cf (madeP cf pi i l)) := by
      rw [ht]
      by_cases h1 : (i : Int) < cf.w
      · rw [decide_eq_true h1, decide_eq_false (by unfold mn at hi; omega)]; rfl
      · rw [decide_eq_false h1]; rfl
    obtain rfl : i = mn cf.w np := by omega
    exact LoopRunsB.exit (round_runs hE (noLps_ok _) hr (Nat.zero_le _) (show 3 ≤ 7 by decide)) (by simp)
  | k + 1, i, hi => by
    have ht := md_tree1 a b c d e ns cs nf cF np cp o0 w0 o1 w1 o2 w2 si sb fi fb pi pb (cntN cf) cf (madeP cf pi i l) i
    have h1 : (i : Int) < cf.w := by unfold mn at hi; omega
    have h2 : i < np := by unfold mn at hi; omega
    obtain ⟨g1, g2⟩ := pin_in h h1 (l := madeP cf pi i l) (by rw [madeP_length]; exact hl)
    rw [decide_eq_true h1, decide_eq_true (by omega), ixR_in rfl h2, g1, g2, w64_succ (by have := h.w; have := h.s; omega), Nat.zero_add, Int.toNat_natCast] at ht
    have hl' := md_rounds1 hE a b c d e ns cs nf cF np cp o0 w0 o1 w1 o2 w2 si sb fi fb pi pb cf l h hl k (i + 1) (by omega)
    exact LoopRunsB.step (round_runs hE (noLps_ok _) ht (Nat.zero_le _) (show 3 ≤ 7 by decide)) hl'
theorem md_rounds2 {X : Nat → Prop} {W0 : World} (hE : EnvOK md0Env X W0) (a b c d e : Int) (ns cs nf cF np cp : Nat) (o0 w0 o1 w1 o2 w2 : Bool) (si : Nat → Nat → Int) (sb : Nat → Nat → Bool) (fi : Nat → Nat → Int) (fb : Nat → Nat → Bool) (pi : Nat → Nat → Int) (pb : Nat → Nat → Bool) (cf : Cf) (l : List Int) (h : RightC cf) (hl : l.length = cntN cf) : ∀ (k i : Nat), i + k = mn cf.s ns →
    LoopRunsB Tryd.prog X W0 0 3 mdRound2 (unpack 83 [1, 2, 4, 5, 7] (mdV (cntN cf) i) (mdH a b c d e ns cs nf cF np cp o0 w0 o1 w1 o2 w2 si sb fi fb pi pb cf (madeS cf si sb i l))) (.exit 2) (unpack 83 [1, 2, 4, 5, 7] (mdV (cntN cf) (mn cf.s ns)) (mdH a b c d e ns cs nf cF np cp o0 w0 o1 w1 o2 w2 si sb fi fb pi pb cf (madeS cf si sb (mn cf.s ns) l)))
  | 0, i, hi => by
    have ht := md_tree2 a b c d e ns cs nf cF np cp o0 w0 o1 w1 o2 w2 si sb fi fb pi pb (cntN cf) cf (madeS cf si sb i l) i
    have hr : (roundV md0Env 30 noLps 83 [1, 2, 4, 5, 7] 3 mdRound2 (unpack 83 [1, 2, 4, 5, 7] (mdV (cntN cf) i) (mdH a b c d e ns cs nf cF np cp o0 w0 o1 w1 o2 w2 si sb fi fb pi pb cf (madeS cf si sb i l)))).get = some (.exit 2, mdV (cntN cf) i, mdH a b c d e ns cs nf cF np cp o0 w0 o1 w1 o2 w2 si sb fi fb pi pb cf (madeS cf si sb i l)) := by
      rw [ht]
      by_cases h1 : (i : Int) < cf.s
      · rw [decide_eq_true h1, decide_eq_false (by unfold mn at hi; omega)]; rfl
      · rw [decide_eq_false h1]; rfl
    obtain rfl : i = mn cf.s ns := by omega
    exact LoopRunsB.exit (round_runs hE (noLps_ok _) hr (Nat.zero_le _) (show 3 ≤ 7 by decide)) (by simp)
  | k + 1, i, hi => by
    have ht := md_tree2 a b c d e ns cs nf cF np cp o0 w0 o1 w1 o2 w2 si sb fi fb pi pb (cntN cf) cf (madeS cf si sb i l) i
    have h1 : (i : Int) < cf.s := by unfold mn at hi; omega
    have h2 : i < ns := by unfold mn at hi; omega
    obtain ⟨g1, g2⟩ := cell_in h h1 (l := madeS cf si sb i l) (by rw [madeS_length]; exact hl)
    rw [decide_eq_true h1, decide_eq_true (by omega), ixR_in rfl h2, g1, g2, w64_succ (by have := h.w; have := h.s; omega), Nat.zero_add, Int.toNat_natCast] at ht
    have hl' := md_rounds2 hE a b c d e ns cs nf cF np cp o0 w0 o1 w1 o2 w2 si sb fi fb pi pb cf l h hl k (i + 1) (by omega)
    exact LoopRunsB.step (round_runs hE (noLps_ok _) ht (Nat.zero_le _) (show 3 ≤ 7 by decide)) hl'
def mdF1 (vals : List Value) (lh : List Go.Sx.Blk) : M (Exit × List Value × List Go.Sx.Blk) :=
  match vals, lh with
  | [.pointer (some ⟨3, 0, none⟩), .pointer (some ⟨4, 0, none⟩), .pointer (some ⟨5, 0, none⟩), .slice (some ⟨6, 0, none⟩) N N', .int .i64 0], [.rows o0 w0 9 ns ⟨[.it .i64, .it .i64, .it .i64, .bo, .bo, .it .i64, .it .i64, .it .i64, .it .i64], si, sb⟩, .rows o1 w1 1 nf ⟨[.it .u8], fi, fb⟩, .rows o2 w2 1 np ⟨[.it .u8], pi, pb⟩,
      .cells true true [.int .u8 a, .int .u8 b, .int .u8 c, .int .u8 d, .int .u8 e, .slice (some ⟨0, 0, some 2⟩) ns' cs, .slice (some ⟨1, 0, some 2⟩) nf' cF, .slice (some ⟨2, 0, some 2⟩) np' cp], .cells true true [.int .i64 0, .int .i64 0, .int .i64 0, .int .i64 0, .int .i64 0], .cells true true [.int .i64 cw, .int .i64 cs', .int .i64 cst, .int .i64 cwt, .int .i64 cu], .ints true true l] =>
    .br (mdOK ⟨cw, cs', cst, cwt, cu⟩ N N' l ns' ns nf' nf np' np)
      (.ret (.normal, mdV2 N, mdH a b c d e ns cs nf cF np cp o0 w0 o1 w1 o2 w2 si sb fi fb pi pb ⟨cw, cs', cst, cwt, cu⟩ (madeP ⟨cw, cs', cst, cwt, cu⟩ pi (mn cw np) l))) .bad
  | _, _ => .bad
theorem md_norm1 (a b c d e : Int) (ns cs nf cF np cp : Nat) (o0 w0 o1 w1 o2 w2 : Bool) (si : Nat → Nat → Int) (sb : Nat → Nat → Bool) (fi : Nat → Nat → Int) (fb : Nat → Nat → Bool) (pi : Nat → Nat → Int) (pb : Nat → Nat → Bool) (N : Nat) (cf : Cf) (l : List Int) (i : Int) : (normV 83 [1, 2, 4, 5] 3 (unpack 83 [1, 2, 4, 5, 6] (mdV N i) (mdH a b c d e ns cs nf cF np cp o0 w0 o1 w1 o2 w2 si sb fi fb pi pb cf l))).get = some (mdV2 N, mdH a b c d e ns cs nf cF np cp o0 w0 o1 w1 o2 w2 si sb fi fb pi pb cf l) := by kernel_rfl
theorem md_lp1 : LpSound Tryd.prog Tab 41 0 (loopV 83 [1, 2, 4, 5, 6] [1, 2, 4, 5] mdF1 3) := by
  refine LpSound.of_loop (c := mdBody) Tryd.func41 (by kernel_rfl) (by kernel_rfl) fun X w0 h0 hB hT vals lh e' vals' lh' hF hb => ?_
  unfold mdF1 at hF
  split at hF
  · rename_i N N' o0 w0_1 ns si sb o1 w1 nf fi fb o2 w2 np pi pb a b c d e ns' cs nf' cF np' cp cw cs' cst cwt cu l
    rcases M.get_br_some hF with ⟨hc, hF2⟩ | ⟨_, hF2⟩
    · clear hF
      unfold mdOK at hc
      simp only [Bool.and_eq_true] at hc
      obtain ⟨⟨⟨⟨⟨⟨c1, c2⟩, c3⟩, c4⟩, c5⟩, c6⟩, c7⟩ := hc
      obtain rfl := Nat.eq_of_beq_eq_true c2
      obtain rfl := Nat.eq_of_beq_eq_true c3
      obtain rfl := Nat.eq_of_beq_eq_true c5
      obtain rfl := Nat.eq_of_beq_eq_true c6
      obtain rfl := Nat.eq_of_beq_eq_true c7
      simp only [M.get_ret, Option.some.injEq, Prod.mk.injEq] at hF2
      obtain ⟨rfl, rfl, rfl⟩ := hF2
      have hl := md_rounds1 (md0Env_ok X w0 h0 hB hT) a b c d e ns' cs nf' cF np' cp o0 w0_1 o1 w1 o2 w2 si sb fi fb pi pb ⟨cw, cs', cst, cwt, cu⟩ l (rightC_iff.1 c1) (Nat.eq_of_beq_eq_true c4) (mn cw np') 0 (Nat.zero_add _)
      rw [md_loop1]
      exact hl.runs.block_exit.norm (md_norm1 a b c d e ns' cs nf' cF np' cp o0 w0_1 o1 w1 o2 w2 si sb fi fb pi pb _ ⟨cw, cs', cst, cwt, cu⟩ _ _) (Nat.zero_le _)
    · cases hF2
  · cases hF
def mdF2 (vals : List Value) (lh : List Go.Sx.Blk) : M (Exit × List Value × List Go.Sx.Blk) :=
  match vals, lh with
  | [.pointer (some ⟨3, 0, none⟩), .pointer (some ⟨4, 0, none⟩), .pointer (some ⟨5, 0, none⟩), .slice (some ⟨6, 0, none⟩) N N', .int .i64 0], [.rows o0 w0 9 ns ⟨[.it .i64, .it .i64, .it .i64, .bo, .bo, .it .i64, .it .i64, .it .i64, .it .i64], si, sb⟩, .rows o1 w1 1 nf ⟨[.it .u8], fi, fb⟩, .rows o2 w2 1 np ⟨[.it .u8], pi, pb⟩,
      .cells true true [.int .u8 a, .int .u8 b, .int .u8 c, .int .u8 d, .int .u8 e, .slice (some ⟨0, 0, some 2⟩) ns' cs, .slice (some ⟨1, 0, some 2⟩) nf' cF, .slice (some ⟨2, 0, some 2⟩) np' cp], .cells true true [.int .i64 0, .int .i64 0, .int .i64 0, .int .i64 0, .int .i64 0], .cells true true [.int .i64 cw, .int .i64 cs', .int .i64 cst, .int .i64 cwt, .int .i64 cu], .ints true true l] =>
    .br (mdOK ⟨cw, cs', cst, cwt, cu⟩ N N' l ns' ns nf' nf np' np)
      (.ret (.normal, mdV2 N, mdH a b c d e ns cs nf cF np cp o0 w0 o1 w1 o2 w2 si sb fi fb pi pb ⟨cw, cs', cst, cwt, cu⟩ (madeS ⟨cw, cs', cst, cwt, cu⟩ si sb (mn cs' ns) l))) .bad
  | _, _ => .bad
theorem md_norm2 (a b c d e : Int) (ns cs nf cF np cp : Nat) (o0 w0 o1 w1 o2 w2 : Bool) (si : Nat → Nat → Int) (sb : Nat → Nat → Bool) (fi : Nat → Nat → Int) (fb : Nat → Nat → Bool) (pi : Nat → Nat → Int) (pb : Nat → Nat → Bool) (N : Nat) (cf : Cf) (l : List Int) (i : Int) : (normV 83 [1, 2, 4, 5] 3 (unpack 83 [1, 2, 4, 5, 7] (mdV N i) (mdH a b c d e ns cs nf cF np cp o0 w0 o1 w1 o2 w2 si sb fi fb pi pb cf l))).get = some (mdV2 N, mdH a b c d e ns cs nf cF np cp o0 w0 o1 w1 o2 w2 si sb fi fb pi pb cf l) := by kernel_rfl
theorem md_lp2 : LpSound Tryd.prog Tab 41 2 (loopV 83 [1, 2, 4, 5, 7] [1, 2, 4, 5] mdF2 3) := by
  refine LpSound.of_loop (c := mdBody) Tryd.func41 (by kernel_rfl) (by kernel_rfl) fun X w0 h0 hB hT vals lh e' vals' lh' hF hb => ?_
  unfold mdF2 at hF
  split at hF
  · rename_i N N' o0 w0_1 ns si sb o1 w1 nf fi fb o2 w2 np pi pb a b c d e ns' cs nf' cF np' cp cw cs' cst cwt cu l
    rcases M.get_br_some hF with ⟨hc, hF2⟩ | ⟨_, hF2⟩
    · clear hF
      unfold mdOK at hc
      simp only [Bool.and_eq_true] at hc
      obtain ⟨⟨⟨⟨⟨⟨c1, c2⟩, c3⟩, c4⟩, c5⟩, c6⟩, c7⟩ := hc
      obtain rfl := Nat.eq_of_beq_eq_true c2
      obtain rfl := Nat.eq_of_beq_eq_true c3
      obtain rfl := Nat.eq_of_beq_eq_true c5
      obtain rfl := Nat.eq_of_beq_eq_true c6
      obtain rfl := Nat.eq_of_beq_eq_true c7
      simp only [M.get_ret, Option.some.injEq, Prod.mk.injEq] at hF2
      obtain ⟨rfl, rfl, rfl⟩ := hF2
      have hl := md_rounds2 (md0Env_ok X w0 h0 hB hT) a b c d e ns' cs nf' cF np' cp o0 w0_1 o1 w1 o2 w2 si sb fi fb pi pb ⟨cw, cs', cst, cwt, cu⟩ l (rightC_iff.1 c1) (Nat.eq_of_beq_eq_true c4) (mn cs' ns') 0 (Nat.zero_add _)
      rw [md_loop2]
      exact hl.runs.block_exit.norm (md_norm2 a b c d e ns' cs nf' cF np' cp o0 w0_1 o1 w1 o2 w2 si sb fi fb pi pb _ ⟨cw, cs', cst, cwt, cu⟩ _ _) (Nat.zero_le _)
    · cases hF2
  · cases hF
def mdLps : List (FuncId × Nat × (Nat → St → M (Exit × St))) := [(41, 0, loopV 83 [1, 2, 4, 5, 6] [1, 2, 4, 5] mdF1 3), (41, 2, loopV 83 [1, 2, 4, 5, 7] [1, 2, 4, 5] mdF2 3)]
noncomputable def mdEnv : Env := mkEnv Tryd.prog mdFns [] md0 mdLps
theorem mdEnv_ok (X : Nat → Prop) (w0 : World) (h0 : X 0) (hB : Bnd X w0) (hT : Tab w0) : EnvOK mdEnv X w0 := mkEnv_ok (fun e he => by cases he) (by kernel_rfl) mdFns_ok md0_ok (lpSounds_cons md_lp1 (lpSounds_cons md_lp2 lpSounds_nil)) h0 hB hT
def mdS (cf : Cf) (si : Nat → Nat → Int) (sb : Nat → Nat → Bool) (pi : Nat → Nat → Int) (ns np : Nat) (l : List Int) : List Int := madeS cf si sb (mn cf.s ns) (madeP cf pi (mn cf.w np) l)
def mdR (a b c d e : Int) (ns cs nf cF np cp : Nat) (o0 w0 o1 w1 o2 w2 : Bool) (si : Nat → Nat → Int) (sb : Nat → Nat → Bool) (fi : Nat → Nat → Int) (fb : Nat → Nat → Bool) (pi : Nat → Nat → Int) (pb : Nat → Nat → Bool) (cf : Cf) (N : Nat) (l : List Int) : Option (Value × List Go.Sx.Blk) :=
  bif mdOK cf N N l ns ns nf nf np np then bif mdOK cf N N (madeP cf pi (mn cf.w np) l) ns ns nf nf np np then some (.tuple #[cf.val, .slice (some ⟨3, 0, none⟩) N N], mdA a b c d e ns cs nf cF np cp o0 w0 o1 w1 o2 w2 si sb fi fb pi pb ++ [.ints true true (mdS cf si sb pi ns np l)]) else none else none
def mdTree (a b c d e : Int) (ns cs nf cF np cp : Nat) (o0 w0 o1 w1 o2 w2 : Bool) (si : Nat → Nat → Int) (sb : Nat → Nat → Bool) (fi : Nat → Nat → Int) (fb : Nat → Nat → Bool) (pi : Nat → Nat → Int) (pb : Nat → Nat → Bool) (cf : Cf) (N : Nat) (l : List Int) : Option (Value × List Go.Sx.Blk) :=
  bif (nf : Int) == 2 then ixR 0 nf nf (bif inRange 0 N then bif Nat.blt 0 l.length then ixR 1 nf nf (bif inRange 2 N then bif Nat.blt 2 (l.set 0 (w64 ((fi 0 0).tmod 3))).length then mdR a b c d e ns cs nf cF np cp o0 w0 o1 w1 o2 w2 si sb fi fb pi pb cf N ((l.set 0 (w64 ((fi 0 0).tmod 3))).set 2 (w64 (fi 1 0))) else none else none) else none else none)
  else mdR a b c d e ns cs nf cF np cp o0 w0 o1 w1 o2 w2 si sb fi fb pi pb cf N l
theorem md_tree (a b c d e : Int) (ns cs nf cF np cp : Nat) (o0 w0 o1 w1 o2 w2 : Bool) (si : Nat → Nat → Int) (sb : Nat → Nat → Bool) (fi : Nat → Nat → Int) (fb : Nat → Nat → Bool) (pi : Nat → Nat → Int) (pb : Nat → Nat → Bool) : (callV mdEnv 60 41 [.agg (mdG a b c d e ns cs nf cF np cp).toArray] (mdA a b c d e ns cs nf cF np cp o0 w0 o1 w1 o2 w2 si sb fi fb pi pb)).get =
    bif decide (cntQ (confG a b c d e) = cntQ (confG a b c d e)) then bif decide (0 ≤ cntQ (confG a b c d e)) && decide (cntQ (confG a b c d e) ≤ 1048576) then
      mdTree a b c d e ns cs nf cF np cp o0 w0 o1 w1 o2 w2 si sb fi fb pi pb (confG a b c d e) (cntQ (confG a b c d e)).toNat (List.replicate (cntQ (confG a b c d e)).toNat 0) else none else none := by kernel_rfl
def mdFirst (cf : Cf) (nf : Nat) (fi : Nat → Nat → Int) : List Int := if nf = 2 then ((List.replicate (cntN cf) 0).set 0 (w64 ((fi 0 0).tmod 3))).set 2 (w64 (fi 1 0)) else List.replicate (cntN cf) 0
/-- The words that are made. -/
def madeL (cf : Cf) (nf : Nat) (fi : Nat → Nat → Int) (np : Nat) (pi : Nat → Nat → Int) (ns : Nat) (si : Nat → Nat → Int) (sb : Nat → Nat → Bool) : List Int := mdS cf si sb pi ns np (mdFirst cf nf fi)
theorem madeL_length (cf : Cf) (nf : Nat) (fi : Nat → Nat → Int) (np : Nat) (pi : Nat → Nat → Int) (ns : Nat) (si : Nat → Nat → Int) (sb : Nat → Nat → Bool) : (madeL cf nf fi np pi ns si sb).length = cntN cf := by
  unfold madeL mdS mdFirst
  rw [madeS_length, madeP_length]
  split <;> simp
theorem mdOK_of {cf : Cf} (h : rightC cf = true) {l : List Int} (hl : l.length = cntN cf) {ns nf np : Nat} : mdOK cf (cntN cf) (cntN cf) l ns ns nf nf np np = true := by
  unfold mdOK
  rw [h, hl, Nat.beq_refl, Nat.beq_refl, Nat.beq_refl, Nat.beq_refl]; rfl
theorem md_run (a b c d e : Int) (ns cs nf cF np cp : Nat) (o0 w0 o1 w1 o2 w2 : Bool) (si : Nat → Nat → Int) (sb : Nat → Nat → Bool) (fi : Nat → Nat → Int) (fb : Nat → Nat → Bool) (pi : Nat → Nat → Int) (pb : Nat → Nat → Bool) (h : rightC (confG a b c d e) = true) : (callV mdEnv 60 41 [.agg (mdG a b c d e ns cs nf cF np cp).toArray] (mdA a b c d e ns cs nf cF np cp o0 w0 o1 w1 o2 w2 si sb fi fb pi pb)).get =
    some (.tuple #[(confG a b c d e).val, .slice (some ⟨3, 0, none⟩) (cntN (confG a b c d e)) (cntN (confG a b c d e))], mdA a b c d e ns cs nf cF np cp o0 w0 o1 w1 o2 w2 si sb fi fb pi pb ++ [.ints true true (madeL (confG a b c d e) nf fi np pi ns si sb)]) := by
  rw [md_tree]
  have hR := rightC_iff.1 h
  have hQ := hR.cntQ
  have hN := hR.cntN
  have eN : (cntQ (confG a b c d e)).toNat = cntN (confG a b c d e) := by rw [hQ]; rfl
  rw [decide_eq_true (rfl : cntQ (confG a b c d e) = _), decide_eq_true (by omega : 0 ≤ cntQ (confG a b c d e)), decide_eq_true (by omega : cntQ (confG a b c d e) ≤ 1048576), eN]
  generalize confG a b c d e = cf at *
  have hrep : (List.replicate (cntN cf) (0 : Int)).length = cntN cf := List.length_replicate
  have fin : ∀ l : List Int, l.length = cntN cf → mdR a b c d e ns cs nf cF np cp o0 w0 o1 w1 o2 w2 si sb fi fb pi pb cf (cntN cf) l = some (.tuple #[cf.val, .slice (some ⟨3, 0, none⟩) (cntN cf) (cntN cf)], mdA a b c d e ns cs nf cF np cp o0 w0 o1 w1 o2 w2 si sb fi fb pi pb ++ [.ints true true (mdS cf si sb pi ns np l)]) := by
    intro l hl
    unfold mdR
    rw [mdOK_of h hl, mdOK_of h (by rw [madeP_length]; exact hl)]; rfl
  show mdTree a b c d e ns cs nf cF np cp o0 w0 o1 w1 o2 w2 si sb fi fb pi pb cf (cntN cf) (List.replicate (cntN cf) 0) = _
  unfold mdTree madeL mdFirst
  by_cases h3 : nf = 2
  · subst h3
    rw [show (((2 : Nat) : Int) == 2) = true from rfl, if_pos rfl, show ixR (α := Value × List Go.Sx.Blk) 0 2 2 = fun K => K from rfl, show ixR (α := Value × List Go.Sx.Blk) 1 2 2 = fun K => K from rfl]
    have e1 : inRange 0 (cntN cf) = true := by unfold inRange; simp; omega
    have e2 : inRange 2 (cntN cf) = true := by unfold inRange; simp; omega
    have e3 : Nat.blt 0 (List.replicate (cntN cf) (0 : Int)).length = true := by rw [Nat.blt_eq, hrep]; omega
    have e4 : Nat.blt 2 ((List.replicate (cntN cf) (0 : Int)).set 0 (w64 ((fi 0 0).tmod 3))).length = true := by rw [Nat.blt_eq, List.length_set, hrep]; omega
    rw [e1, e2, e3, e4]
    exact fin _ (by simp)
  · rw [show ((nf : Int) == 2) = false by simp; omega, if_neg h3]
    exact fin _ hrep
def madeO : Orc := fun args lh => match args, lh with
  | [.agg g], [.rows o0 w0 9 ns ⟨[.it .i64, .it .i64, .it .i64, .bo, .bo, .it .i64, .it .i64, .it .i64, .it .i64], si, sb⟩, .rows o1 w1 1 nf ⟨[.it .u8], fi, fb⟩, .rows o2 w2 1 np ⟨[.it .u8], pi, pb⟩] =>
    match g.toList with
    | [.int .u8 a, .int .u8 b, .int .u8 c, .int .u8 d, .int .u8 e, .slice (some ⟨0, 0, some 2⟩) ns' cs, .slice (some ⟨1, 0, some 2⟩) nf' cF, .slice (some ⟨2, 0, some 2⟩) np' cp] =>
      .br (rightC (confG a b c d e) && Nat.beq ns' ns && Nat.beq nf' nf && Nat.beq np' np)
        (.ret (.tuple #[(confG a b c d e).val, .slice (some ⟨3, 0, none⟩) (cntN (confG a b c d e)) (cntN (confG a b c d e))], mdA a b c d e ns cs nf cF np cp o0 w0 o1 w1 o2 w2 si sb fi fb pi pb ++ [.ints true true (madeL (confG a b c d e) nf fi np pi ns si sb)])) .bad
    | _ => .bad
  | _, _ => .bad
theorem made_sound : Sound Tryd.prog Tab 41 madeO := by
  refine Sound.of_run ⟨Tryd.func41, by kernel_rfl, by kernel_rfl⟩ rfl rfl mdEnv_ok 60 fun args lh r hr => ?_
  unfold madeO at hr
  split at hr
  · rename_i g o0 w0 ns si sb o1 w1 nf fi fb o2 w2 np pi pb
    split at hr
    · rename_i a b c d e ns' cs nf' cF np' cp hg
      obtain rfl : g = (mdG a b c d e ns' cs nf' cF np' cp).toArray := Array.toList_inj.1 hg
      rcases M.get_br_some hr with ⟨hc, h2⟩ | ⟨_, h2⟩
      · clear hr
        simp only [Bool.and_eq_true] at hc
        obtain ⟨⟨⟨c1, c2⟩, c3⟩, c4⟩ := hc
        obtain rfl := Nat.eq_of_beq_eq_true c2
        obtain rfl := Nat.eq_of_beq_eq_true c3
        obtain rfl := Nat.eq_of_beq_eq_true c4
        simp only [M.get_ret, Option.some.injEq] at h2; subst h2
        exact md_run a b c d e ns' cs nf' cF np' cp o0 w0 o1 w1 o2 w2 si sb fi fb pi pb c1
      · cases h2
    · cases hr
  · cases hr
end Go.Proofs.YthfoljgaiincdaaDoor
