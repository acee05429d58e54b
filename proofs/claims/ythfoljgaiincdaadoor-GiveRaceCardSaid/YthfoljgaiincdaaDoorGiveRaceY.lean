
/- GiveRace: the law's tree. No condition of its own. -/
import Derived.Test.YthfoljgaiincdaaDoorGiveRaceW
namespace Go.Proofs.YthfoljgaiincdaaDoor
open Go.RowKit Go.Fld Go.Sx
set_option linter.unusedVariables false
set_option linter.unusedSimpArgs false
def grC : Cf := ⟨2, 1, 0, 0, 3⟩
def grS (u : Int) (a b : Bool) : Rs := ⟨8, [0, 0, 0, 0, 0, 0, 0, (encS ⟨3, 1, 0, false, false, u, 2, 0, 0⟩).getD 0], ⟨grC, 1, 0, 2, a, 0, 0, 0, 0⟩, ⟨grC, 1, 0, 2, b, 0, 0, 0, 0⟩, none, none⟩
abbrev grU : List Value := [.bool false, .bool true, .pointer (some ⟨1, 0, none⟩), .pointer (some ⟨2, 0, none⟩), .pointer (some ⟨3, 0, none⟩), .pointer (some ⟨4, 0, none⟩)]
theorem gr_norm0NN (T : Tb) (cf : Cf) (N C : Nat) (t : Int) (l : List Int) (x y : Gq) (k : Int) : (normV 150 [8, 9, 10, 12, 13, 14] 1 (unpack 150 [3, 8, 9, 10, 12, 13, 14, 15] (grV T k) (grNN T cf N C t l x y))).get = some (grU, grNN T cf N C t l x y) := by kernel_rfl
theorem gr_norm0RN (T : Tb) (cf : Cf) (N C : Nat) (t : Int) (l : List Int) (x y : Gq) (r : Rq) (k : Int) : (normV 150 [8, 9, 10, 12, 13, 14] 1 (unpack 150 [3, 8, 9, 10, 12, 13, 14, 15] (grV T k) (grRN T cf N C t l x y r))).get = some (grU, grRN T cf N C t l x y r) := by kernel_rfl
theorem gr_norm0NR (T : Tb) (cf : Cf) (N C : Nat) (t : Int) (l : List Int) (x y : Gq) (r : Rq) (k : Int) : (normV 150 [8, 9, 10, 12, 13, 14] 1 (unpack 150 [3, 8, 9, 10, 12, 13, 14, 15] (grV T k) (grNR T cf N C t l x y r))).get = some (grU, grNR T cf N C t l x y r) := by kernel_rfl
theorem gr_norm0RR (T : Tb) (cf : Cf) (N C : Nat) (t : Int) (l : List Int) (x y : Gq) (r q : Rq) (k : Int) : (normV 150 [8, 9, 10, 12, 13, 14] 1 (unpack 150 [3, 8, 9, 10, 12, 13, 14, 15] (grV T k) (grRR T cf N C t l x y r q))).get = some (grU, grRR T cf N C t l x y r q) := by kernel_rfl
theorem gr_norm0 (T : Tb) (cf : Cf) (N C : Nat) (s : Rs) (k : Int) : (normV 150 [8, 9, 10, 12, 13, 14] 1 (unpack 150 [3, 8, 9, 10, 12, 13, 14, 15] (grV T k) (grH T cf N C s))).get = some (grU, grH T cf N C s) := by
  obtain ⟨t, l, x, y, rx, ry⟩ := s
  cases rx <;> cases ry
  · exact gr_norm0NN T cf N C t l x y k
  · exact gr_norm0NR T cf N C t l x y _ k
  · exact gr_norm0RN T cf N C t l x y _ k
  · exact gr_norm0RR T cf N C t l x y _ _ k
theorem gr_norm2NN (T : Tb) (cf : Cf) (N C : Nat) (t : Int) (l : List Int) (x y : Gq) (k : Int) : (normV 150 [8, 9, 10, 12, 13, 14] 1 (unpack 150 [8, 9, 10, 12, 13, 14, 16] (grW k) (grNN T cf N C t l x y))).get = some (grU, grNN T cf N C t l x y) := by kernel_rfl
theorem gr_norm2RN (T : Tb) (cf : Cf) (N C : Nat) (t : Int) (l : List Int) (x y : Gq) (r : Rq) (k : Int) : (normV 150 [8, 9, 10, 12, 13, 14] 1 (unpack 150 [8, 9, 10, 12, 13, 14, 16] (grW k) (grRN T cf N C t l x y r))).get = some (grU, grRN T cf N C t l x y r) := by kernel_rfl
theorem gr_norm2NR (T : Tb) (cf : Cf) (N C : Nat) (t : Int) (l : List Int) (x y : Gq) (r : Rq) (k : Int) : (normV 150 [8, 9, 10, 12, 13, 14] 1 (unpack 150 [8, 9, 10, 12, 13, 14, 16] (grW k) (grNR T cf N C t l x y r))).get = some (grU, grNR T cf N C t l x y r) := by kernel_rfl
theorem gr_norm2RR (T : Tb) (cf : Cf) (N C : Nat) (t : Int) (l : List Int) (x y : Gq) (r q : Rq) (k : Int) : (normV 150 [8, 9, 10, 12, 13, 14] 1 (unpack 150 [8, 9, 10, 12, 13, 14, 16] (grW k) (grRR T cf N C t l x y r q))).get = some (grU, grRR T cf N C t l x y r q) := by kernel_rfl
theorem gr_norm2 (T : Tb) (cf : Cf) (N C : Nat) (s : Rs) (k : Int) : (normV 150 [8, 9, 10, 12, 13, 14] 1 (unpack 150 [8, 9, 10, 12, 13, 14, 16] (grW k) (grH T cf N C s))).get = some (grU, grH T cf N C s) := by
  obtain ⟨t, l, x, y, rx, ry⟩ := s
  cases rx <;> cases ry
  · exact gr_norm2NN T cf N C t l x y k
  · exact gr_norm2NR T cf N C t l x y _ k
  · exact gr_norm2RN T cf N C t l x y _ k
  · exact gr_norm2RR T cf N C t l x y _ _ k
theorem gr_norm4NN (T : Tb) (cf : Cf) (N C : Nat) (t : Int) (l : List Int) (x y : Gq) (k : Int) : (normV 150 [8, 9, 10, 12, 13, 14] 1 (unpack 150 [8, 9, 10, 12, 13, 14, 17] (grW k) (grNN T cf N C t l x y))).get = some (grU, grNN T cf N C t l x y) := by kernel_rfl
theorem gr_norm4RN (T : Tb) (cf : Cf) (N C : Nat) (t : Int) (l : List Int) (x y : Gq) (r : Rq) (k : Int) : (normV 150 [8, 9, 10, 12, 13, 14] 1 (unpack 150 [8, 9, 10, 12, 13, 14, 17] (grW k) (grRN T cf N C t l x y r))).get = some (grU, grRN T cf N C t l x y r) := by kernel_rfl
theorem gr_norm4NR (T : Tb) (cf : Cf) (N C : Nat) (t : Int) (l : List Int) (x y : Gq) (r : Rq) (k : Int) : (normV 150 [8, 9, 10, 12, 13, 14] 1 (unpack 150 [8, 9, 10, 12, 13, 14, 17] (grW k) (grNR T cf N C t l x y r))).get = some (grU, grNR T cf N C t l x y r) := by kernel_rfl
theorem gr_norm4RR (T : Tb) (cf : Cf) (N C : Nat) (t : Int) (l : List Int) (x y : Gq) (r q : Rq) (k : Int) : (normV 150 [8, 9, 10, 12, 13, 14] 1 (unpack 150 [8, 9, 10, 12, 13, 14, 17] (grW k) (grRR T cf N C t l x y r q))).get = some (grU, grRR T cf N C t l x y r q) := by kernel_rfl
theorem gr_norm4 (T : Tb) (cf : Cf) (N C : Nat) (s : Rs) (k : Int) : (normV 150 [8, 9, 10, 12, 13, 14] 1 (unpack 150 [8, 9, 10, 12, 13, 14, 17] (grW k) (grH T cf N C s))).get = some (grU, grH T cf N C s) := by
  obtain ⟨t, l, x, y, rx, ry⟩ := s
  cases rx <;> cases ry
  · exact gr_norm4NN T cf N C t l x y k
  · exact gr_norm4NR T cf N C t l x y _ k
  · exact gr_norm4RN T cf N C t l x y _ k
  · exact gr_norm4RR T cf N C t l x y _ _ k
def GrLp (id : Nat) (K : List Nat) (V : List Value) (H : List Go.Sx.Blk) (H' : List Go.Sx.Blk) : Prop := ∀ (X : Nat → Prop) (w0 : World), EnvOK glEnv X w0 → RunsB Tryd.prog X w0 0 1 (.block id (blkAt id grBody)) (unpack 150 K V H) .normal (unpack 150 [8, 9, 10, 12, 13, 14] grU H')
theorem gr_lp0 (T : Tb) (cf : Cf) (N C : Nat) (s : Rs) (hs : ∀ i, okB N (rIt N T s i) = true) (hn : T.nt ≤ 30) : GrLp 0 [3, 8, 9, 10, 12, 13, 14, 15] (grV T 0) (grH T cf N C s) (grH T cf N C (rIt N T s T.nt)) := fun X w0 hE => by
  rw [gr_loop0]
  exact (gr_rounds0 hE T cf N C s hs hn T.nt 0 (by omega)).runs.block_exit.norm (gr_norm0 T cf N C _ _) (Nat.zero_le _)
theorem gr_lp2 (T : Tb) (cf : Cf) (N C : Nat) (s : Rs) (hs : ∀ i, okB N (rXn N s i) = true) : GrLp 2 [8, 9, 10, 12, 13, 14, 16] (grW 0) (grH T cf N C s) (grH T cf N C (rXn N s 9)) := fun X w0 hE => by
  rw [gr_loop2]
  exact (gr_rounds2 hE T cf N C s hs 9 0 (by omega)).runs.block_exit.norm (gr_norm2 T cf N C _ _) (Nat.zero_le _)
theorem gr_lp4 (T : Tb) (cf : Cf) (N C : Nat) (s : Rs) (hs : ∀ i, okB N (rYn N s i) = true) : GrLp 4 [8, 9, 10, 12, 13, 14, 17] (grW 0) (grH T cf N C s) (grH T cf N C (rYn N s 9)) := fun X w0 hE => by
  rw [gr_loop4]
  exact (gr_rounds4 hE T cf N C s hs 9 0 (by omega)).runs.block_exit.norm (gr_norm4 T cf N C _ _) (Nat.zero_le _)
noncomputable def grEnv (V0 : List Value) (H0 H0' : List Go.Sx.Blk) (V2 : List Value) (H2 H2' : List Go.Sx.Blk) (V4 : List Value) (H4 H4' : List Go.Sx.Blk) : Env :=
  mkEnv Tryd.prog glFns [slotEq] gl1 [(10, 0, loopV 150 [3, 8, 9, 10, 12, 13, 14, 15] [8, 9, 10, 12, 13, 14] (specC V0 H0 (.normal, grU, H0')) 1), (10, 2, loopV 150 [8, 9, 10, 12, 13, 14, 16] [8, 9, 10, 12, 13, 14] (specC V2 H2 (.normal, grU, H2')) 1), (10, 4, loopV 150 [8, 9, 10, 12, 13, 14, 17] [8, 9, 10, 12, 13, 14] (specC V4 H4 (.normal, grU, H4')) 1)]
theorem grEnv_ok {V0 : List Value} {H0 H0' : List Go.Sx.Blk} {V2 : List Value} {H2 H2' : List Go.Sx.Blk} {V4 : List Value} {H4 H4' : List Go.Sx.Blk} (h0 : GrLp 0 [3, 8, 9, 10, 12, 13, 14, 15] V0 H0 H0') (h2 : GrLp 2 [8, 9, 10, 12, 13, 14, 16] V2 H2 H2') (h4 : GrLp 4 [8, 9, 10, 12, 13, 14, 17] V4 H4 H4')
    (X : Nat → Prop) (w0 : World) (hX : X 0) (hB : Bnd X w0) (hT : Tab w0) : EnvOK (grEnv V0 H0 H0' V2 H2 H2' V4 H4 H4') X w0 :=
  mkEnv_ok slotEq_ok (by kernel_rfl) glFns_ok gl1_ok (lpSounds_cons (lpSound_const (c := grBody) Tryd.func10 (by kernel_rfl) (by kernel_rfl) fun X W0 a b c => h0 X W0 (glEnv_ok X W0 a b c)) <| lpSounds_cons (lpSound_const (c := grBody) Tryd.func10 (by kernel_rfl) (by kernel_rfl) fun X W0 a b c => h2 X W0 (glEnv_ok X W0 a b c)) <| lpSounds_cons (lpSound_const (c := grBody) Tryd.func10 (by kernel_rfl) (by kernel_rfl) fun X W0 a b c => h4 X W0 (glEnv_ok X W0 a b c)) lpSounds_nil) hX hB hT
noncomputable def grEnvN : Env := mkEnv Tryd.prog glFns [slotEq] gl1 [(10, 0, fun _ _ => .bad), (10, 2, fun _ _ => .bad), (10, 4, fun _ _ => .bad)]
theorem grEnvN_ok (X : Nat → Prop) (w0 : World) (hX : X 0) (hB : Bnd X w0) (hT : Tab w0) : EnvOK grEnvN X w0 :=
  mkEnv_ok slotEq_ok (by kernel_rfl) glFns_ok gl1_ok (lpSounds_cons (lpSound_bad (c := grBody) Tryd.func10 (by kernel_rfl) (by kernel_rfl)) <| lpSounds_cons (lpSound_bad (c := grBody) Tryd.func10 (by kernel_rfl) (by kernel_rfl)) <| lpSounds_cons (lpSound_bad (c := grBody) Tryd.func10 (by kernel_rfl) (by kernel_rfl)) lpSounds_nil) hX hB hT
def grE1 (x y : Gq) : Option Value := bif x.e == 0 then (bif y.e == 2 then isT else bif x.e == 2 then some (.bool (y.e == 0)) else isF) else bif x.e == 2 then some (.bool (y.e == 0)) else isF
/-- What the law answers behind its loops. -/
def grFinL (l : List Int) (x y : Gq) : Option Value := bt (okM 8 l) (bif x.st == 4 then (bif y.st == 4 then (bif (decA (ldS 8 l 7)).isSome then (bif (slt0 (decA (ldS 8 l 7))).st == 2 then (bif (slt0 (decA (ldS 8 l 7))).gen == 2 then grE1 x y else isF) else
  bif (slt0 (decA (ldS 8 l 7))).st == 6 then (bif (slt0 (decA (ldS 8 l 7))).gen == 2 then grE1 x y else isF) else isF) else isF) else isF) else isF)
def grFin (s : Rs) : Option Value := grFinL s.l s.x s.y
noncomputable def grTop (one two : Bool) (uses : Int) (T : Tb) (V0 : List Value) (H0 : List Go.Sx.Blk) (K : Option Value) : Option Value :=
  bif decide ((T.nt : Int) > 30) then isT else bt (sure (isIt (grV T 0) (grH T grC 8 8 (grS (w64 (uses.tmod 5)) one two)) V0 H0)) K
theorem gr_big (one two : Bool) (uses : Int) (T : Tb) :
  (callV grEnvN 60 10 [.bool one, .bool two, .int .u8 uses, .slice (some ⟨0, 0, some 2⟩) T.nt T.ct] [T.row]).run (Option Value) none (fun r => some r.1) = bif decide ((T.nt : Int) > 30) then isT else none := by kernel_rfl
theorem gr_allNNNNNN (one two : Bool) (uses : Int) (T : Tb) (V0 : List Value) (H0 : List Go.Sx.Blk) (V2 : List Value) (H2 : List Go.Sx.Blk) (V4 : List Value) (H4 : List Go.Sx.Blk) (t0 : Int) (l0 : List Int) (x0 y0 : Gq) (t2 : Int) (l2 : List Int) (x2 y2 : Gq) (t4 : Int) (l4 : List Int) (x4 y4 : Gq) :
  (callV (grEnv V0 H0 (grNN T grC 8 8 t0 l0 x0 y0) V2 H2 (grNN T grC 8 8 t2 l2 x2 y2) V4 H4 (grNN T grC 8 8 t4 l4 x4 y4)) 60 10 [.bool one, .bool two, .int .u8 uses, .slice (some ⟨0, 0, some 2⟩) T.nt T.ct] [T.row]).run (Option Value) none (fun r => some r.1) =
    grTop one two uses T V0 H0 (bt (sure (isIt (grW 0) (grNN T grC 8 8 t0 l0 x0 y0) V2 H2)) (bt (sure (isIt (grW 0) (grNN T grC 8 8 t2 l2 x2 y2) V4 H4)) (grFinL l4 x4 y4))) := by kernel_rfl
theorem gr_allNNNNNR (one two : Bool) (uses : Int) (T : Tb) (V0 : List Value) (H0 : List Go.Sx.Blk) (V2 : List Value) (H2 : List Go.Sx.Blk) (V4 : List Value) (H4 : List Go.Sx.Blk) (t0 : Int) (l0 : List Int) (x0 y0 : Gq) (t2 : Int) (l2 : List Int) (x2 y2 : Gq) (t4 : Int) (l4 : List Int) (x4 y4 : Gq) (q4 : Rq) :
  (callV (grEnv V0 H0 (grNN T grC 8 8 t0 l0 x0 y0) V2 H2 (grNN T grC 8 8 t2 l2 x2 y2) V4 H4 (grNR T grC 8 8 t4 l4 x4 y4 q4)) 60 10 [.bool one, .bool two, .int .u8 uses, .slice (some ⟨0, 0, some 2⟩) T.nt T.ct] [T.row]).run (Option Value) none (fun r => some r.1) =
    grTop one two uses T V0 H0 (bt (sure (isIt (grW 0) (grNN T grC 8 8 t0 l0 x0 y0) V2 H2)) (bt (sure (isIt (grW 0) (grNN T grC 8 8 t2 l2 x2 y2) V4 H4)) (grFinL l4 x4 y4))) := by kernel_rfl
theorem gr_allNRNRNR (one two : Bool) (uses : Int) (T : Tb) (V0 : List Value) (H0 : List Go.Sx.Blk) (V2 : List Value) (H2 : List Go.Sx.Blk) (V4 : List Value) (H4 : List Go.Sx.Blk) (t0 : Int) (l0 : List Int) (x0 y0 : Gq) (q0 : Rq) (t2 : Int) (l2 : List Int) (x2 y2 : Gq) (q2 : Rq) (t4 : Int) (l4 : List Int) (x4 y4 : Gq) (q4 : Rq) :
  (callV (grEnv V0 H0 (grNR T grC 8 8 t0 l0 x0 y0 q0) V2 H2 (grNR T grC 8 8 t2 l2 x2 y2 q2) V4 H4 (grNR T grC 8 8 t4 l4 x4 y4 q4)) 60 10 [.bool one, .bool two, .int .u8 uses, .slice (some ⟨0, 0, some 2⟩) T.nt T.ct] [T.row]).run (Option Value) none (fun r => some r.1) =
    grTop one two uses T V0 H0 (bt (sure (isIt (grW 0) (grNR T grC 8 8 t0 l0 x0 y0 q0) V2 H2)) (bt (sure (isIt (grW 0) (grNR T grC 8 8 t2 l2 x2 y2 q2) V4 H4)) (grFinL l4 x4 y4))) := by kernel_rfl
theorem gr_allNNRNRN (one two : Bool) (uses : Int) (T : Tb) (V0 : List Value) (H0 : List Go.Sx.Blk) (V2 : List Value) (H2 : List Go.Sx.Blk) (V4 : List Value) (H4 : List Go.Sx.Blk) (t0 : Int) (l0 : List Int) (x0 y0 : Gq) (t2 : Int) (l2 : List Int) (x2 y2 : Gq) (r2 : Rq) (t4 : Int) (l4 : List Int) (x4 y4 : Gq) (r4 : Rq) :
  (callV (grEnv V0 H0 (grNN T grC 8 8 t0 l0 x0 y0) V2 H2 (grRN T grC 8 8 t2 l2 x2 y2 r2) V4 H4 (grRN T grC 8 8 t4 l4 x4 y4 r4)) 60 10 [.bool one, .bool two, .int .u8 uses, .slice (some ⟨0, 0, some 2⟩) T.nt T.ct] [T.row]).run (Option Value) none (fun r => some r.1) =
    grTop one two uses T V0 H0 (bt (sure (isIt (grW 0) (grNN T grC 8 8 t0 l0 x0 y0) V2 H2)) (bt (sure (isIt (grW 0) (grRN T grC 8 8 t2 l2 x2 y2 r2) V4 H4)) (grFinL l4 x4 y4))) := by kernel_rfl
theorem gr_allNNRNRR (one two : Bool) (uses : Int) (T : Tb) (V0 : List Value) (H0 : List Go.Sx.Blk) (V2 : List Value) (H2 : List Go.Sx.Blk) (V4 : List Value) (H4 : List Go.Sx.Blk) (t0 : Int) (l0 : List Int) (x0 y0 : Gq) (t2 : Int) (l2 : List Int) (x2 y2 : Gq) (r2 : Rq) (t4 : Int) (l4 : List Int) (x4 y4 : Gq) (r4 : Rq) (q4 : Rq) :
  (callV (grEnv V0 H0 (grNN T grC 8 8 t0 l0 x0 y0) V2 H2 (grRN T grC 8 8 t2 l2 x2 y2 r2) V4 H4 (grRR T grC 8 8 t4 l4 x4 y4 r4 q4)) 60 10 [.bool one, .bool two, .int .u8 uses, .slice (some ⟨0, 0, some 2⟩) T.nt T.ct] [T.row]).run (Option Value) none (fun r => some r.1) =
    grTop one two uses T V0 H0 (bt (sure (isIt (grW 0) (grNN T grC 8 8 t0 l0 x0 y0) V2 H2)) (bt (sure (isIt (grW 0) (grRN T grC 8 8 t2 l2 x2 y2 r2) V4 H4)) (grFinL l4 x4 y4))) := by kernel_rfl
theorem gr_allNRRRRR (one two : Bool) (uses : Int) (T : Tb) (V0 : List Value) (H0 : List Go.Sx.Blk) (V2 : List Value) (H2 : List Go.Sx.Blk) (V4 : List Value) (H4 : List Go.Sx.Blk) (t0 : Int) (l0 : List Int) (x0 y0 : Gq) (q0 : Rq) (t2 : Int) (l2 : List Int) (x2 y2 : Gq) (r2 : Rq) (q2 : Rq) (t4 : Int) (l4 : List Int) (x4 y4 : Gq) (r4 : Rq) (q4 : Rq) :
  (callV (grEnv V0 H0 (grNR T grC 8 8 t0 l0 x0 y0 q0) V2 H2 (grRR T grC 8 8 t2 l2 x2 y2 r2 q2) V4 H4 (grRR T grC 8 8 t4 l4 x4 y4 r4 q4)) 60 10 [.bool one, .bool two, .int .u8 uses, .slice (some ⟨0, 0, some 2⟩) T.nt T.ct] [T.row]).run (Option Value) none (fun r => some r.1) =
    grTop one two uses T V0 H0 (bt (sure (isIt (grW 0) (grNR T grC 8 8 t0 l0 x0 y0 q0) V2 H2)) (bt (sure (isIt (grW 0) (grRR T grC 8 8 t2 l2 x2 y2 r2 q2) V4 H4)) (grFinL l4 x4 y4))) := by kernel_rfl
theorem gr_allRNRNRN (one two : Bool) (uses : Int) (T : Tb) (V0 : List Value) (H0 : List Go.Sx.Blk) (V2 : List Value) (H2 : List Go.Sx.Blk) (V4 : List Value) (H4 : List Go.Sx.Blk) (t0 : Int) (l0 : List Int) (x0 y0 : Gq) (r0 : Rq) (t2 : Int) (l2 : List Int) (x2 y2 : Gq) (r2 : Rq) (t4 : Int) (l4 : List Int) (x4 y4 : Gq) (r4 : Rq) :
  (callV (grEnv V0 H0 (grRN T grC 8 8 t0 l0 x0 y0 r0) V2 H2 (grRN T grC 8 8 t2 l2 x2 y2 r2) V4 H4 (grRN T grC 8 8 t4 l4 x4 y4 r4)) 60 10 [.bool one, .bool two, .int .u8 uses, .slice (some ⟨0, 0, some 2⟩) T.nt T.ct] [T.row]).run (Option Value) none (fun r => some r.1) =
    grTop one two uses T V0 H0 (bt (sure (isIt (grW 0) (grRN T grC 8 8 t0 l0 x0 y0 r0) V2 H2)) (bt (sure (isIt (grW 0) (grRN T grC 8 8 t2 l2 x2 y2 r2) V4 H4)) (grFinL l4 x4 y4))) := by kernel_rfl
theorem gr_allRNRNRR (one two : Bool) (uses : Int) (T : Tb) (V0 : List Value) (H0 : List Go.Sx.Blk) (V2 : List Value) (H2 : List Go.Sx.Blk) (V4 : List Value) (H4 : List Go.Sx.Blk) (t0 : Int) (l0 : List Int) (x0 y0 : Gq) (r0 : Rq) (t2 : Int) (l2 : List Int) (x2 y2 : Gq) (r2 : Rq) (t4 : Int) (l4 : List Int) (x4 y4 : Gq) (r4 : Rq) (q4 : Rq) :
  (callV (grEnv V0 H0 (grRN T grC 8 8 t0 l0 x0 y0 r0) V2 H2 (grRN T grC 8 8 t2 l2 x2 y2 r2) V4 H4 (grRR T grC 8 8 t4 l4 x4 y4 r4 q4)) 60 10 [.bool one, .bool two, .int .u8 uses, .slice (some ⟨0, 0, some 2⟩) T.nt T.ct] [T.row]).run (Option Value) none (fun r => some r.1) =
    grTop one two uses T V0 H0 (bt (sure (isIt (grW 0) (grRN T grC 8 8 t0 l0 x0 y0 r0) V2 H2)) (bt (sure (isIt (grW 0) (grRN T grC 8 8 t2 l2 x2 y2 r2) V4 H4)) (grFinL l4 x4 y4))) := by kernel_rfl
theorem gr_allRRRRRR (one two : Bool) (uses : Int) (T : Tb) (V0 : List Value) (H0 : List Go.Sx.Blk) (V2 : List Value) (H2 : List Go.Sx.Blk) (V4 : List Value) (H4 : List Go.Sx.Blk) (t0 : Int) (l0 : List Int) (x0 y0 : Gq) (r0 : Rq) (q0 : Rq) (t2 : Int) (l2 : List Int) (x2 y2 : Gq) (r2 : Rq) (q2 : Rq) (t4 : Int) (l4 : List Int) (x4 y4 : Gq) (r4 : Rq) (q4 : Rq) :
  (callV (grEnv V0 H0 (grRR T grC 8 8 t0 l0 x0 y0 r0 q0) V2 H2 (grRR T grC 8 8 t2 l2 x2 y2 r2 q2) V4 H4 (grRR T grC 8 8 t4 l4 x4 y4 r4 q4)) 60 10 [.bool one, .bool two, .int .u8 uses, .slice (some ⟨0, 0, some 2⟩) T.nt T.ct] [T.row]).run (Option Value) none (fun r => some r.1) =
    grTop one two uses T V0 H0 (bt (sure (isIt (grW 0) (grRR T grC 8 8 t0 l0 x0 y0 r0 q0) V2 H2)) (bt (sure (isIt (grW 0) (grRR T grC 8 8 t2 l2 x2 y2 r2 q2) V4 H4)) (grFinL l4 x4 y4))) := by kernel_rfl
end Go.Proofs.YthfoljgaiincdaaDoor
