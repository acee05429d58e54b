/- FindFrom: the whole. No condition of its own. -/
import Derived.Test.YtcakklnacnnlaaaDoorFindFromT
namespace Go.Proofs.YtcakklnacnnlaaaDoor
open Go.RowKit Go.Fld Go.Sx
set_option linter.unusedVariables false
set_option linter.unusedSimpArgs false
def frStart (cf : Cf) (k own fro : Int) (ns nf np : Nat) (si : Nat → Nat → Int) (sb : Nat → Nat → Bool) (fi : Nat → Nat → Int) (fb : Nat → Nat → Bool) (pi : Nat → Nat → Int) (pb : Nat → Nat → Bool) (l : List Int) : FrP := ⟨ns, nf, np, ⟨slKs, si, sb⟩, ⟨[.it .u8], fi, fb⟩, ⟨[.it .u8], pi, pb⟩, cf, k, own, fro, cntN cf, cntN cf, l, ⟨maxA fro, 0, false⟩⟩
def frQ (p : FrP) (at_ : Int) (is : Bool) : FrQ := ⟨p.ns, p.nf, p.np, p.R0, p.R1, p.R2, p.k, p.own, p.fro, p.cf.s.toNat, slD p.cf p.l, at_, is⟩
def frAsk (p : FrP) : Prop := p.V = p.V ∧ p.H = p.H ∧ p.OK
def frAsk2 (p : FrQ) : Prop := p.V = p.V ∧ p.H = p.H ∧ p.OK
def frG (cf : Cf) (l : List Int) : Bool := rightC cf && okM (cntN cf) l && Nat.beq (cntN cf) (cntN cf)
noncomputable def frEnd (p : FrP) : Option Value := bt (sure (frAsk p)) (bif !p.z.found then bt (frG p.cf p.l) (bt (sure (frAsk2 (frQ p 0 false))) (some (.bool true))) else bt (frG p.cf p.l) (bt (sure (frAsk2 (frQ p p.z.at_ true))) (some (.bool true))))
theorem fr_all (a b c d e k own fro : Int) (cs cF cp : Nat) (ns nf np : Nat) (si : Nat → Nat → Int) (sb : Nat → Nat → Bool) (fi : Nat → Nat → Int) (fb : Nat → Nat → Bool) (pi : Nat → Nat → Int) (pb : Nat → Nat → Bool) :
  (callV frEnv 60 5 [.agg (mdG a b c d e ns cs nf cF np cp).toArray, .int .i64 k, .int .i64 own, .int .i64 fro] (rowsG ns nf np si sb fi fb pi pb)).run (Option Value) none (fun r => some r.1) =
    bt (mdC (confG a b c d e) ns nf np) (bt (frG (confG a b c d e) (madeL (confG a b c d e) nf fi np pi ns si sb)) (frEnd (frStart (confG a b c d e) k own fro ns nf np si sb fi fb pi pb (madeL (confG a b c d e) nf fi np pi ns si sb)))) := by kernel_rfl
theorem fr_true (a b c d e k own fro : Int) (cs cF cp : Nat) (ns nf np : Nat) (si : Nat → Nat → Int) (sb : Nat → Nat → Bool) (fi : Nat → Nat → Int) (fb : Nat → Nat → Bool) (pi : Nat → Nat → Int) (pb : Nat → Nat → Bool) (hS : SmallC (confG a b c d e)) :
  (callV frEnv 60 5 [.agg (mdG a b c d e ns cs nf cF np cp).toArray, .int .i64 k, .int .i64 own, .int .i64 fro] (rowsG ns nf np si sb fi fb pi pb)).run (Option Value) none (fun r => some r.1) = some (.bool true) := by
  rw [fr_all]
  have hR := hS.right
  have hok := made_okM hR nf fi np pi ns si sb
  have hrc := rightC_iff.2 hR
  have hI : AllI (madeL (confG a b c d e) nf fi np pi ns si sb) := madeL_I _ _ _ _ _ _ _ _
  have hD := made_D hR nf fi np pi ns si sb
  have hG : frG (confG a b c d e) (madeL (confG a b c d e) nf fi np pi ns si sb) = true := by unfold frG; rw [hrc, hok, Nat.beq_refl]; rfl
  rw [bt_of (by unfold mdC; rw [hrc, Nat.beq_refl, Nat.beq_refl, Nat.beq_refl]; rfl), bt_of hG]
  have hz := frz_start hS hI hD k own fro
  have hs := hR.s
  unfold frEnd
  rw [bt_of (sure_of ⟨rfl, rfl, hok⟩), bt_of (show frG (frStart (confG a b c d e) k own fro ns nf np si sb fi fb pi pb (madeL (confG a b c d e) nf fi np pi ns si sb)).cf (frStart (confG a b c d e) k own fro ns nf np si sb fi fb pi pb (madeL (confG a b c d e) nf fi np pi ns si sb)).l = true from hG)]
  cases hf : (frStart (confG a b c d e) k own fro ns nf np si sb fi fb pi pb (madeL (confG a b c d e) nf fi np pi ns si sb)).z.found with
  | false =>
    have hO : (frQ (frStart (confG a b c d e) k own fro ns nf np si sb fi fb pi pb (madeL (confG a b c d e) nf fi np pi ns si sb)) 0 false).OK := ⟨by show ((confG a b c d e)).s.toNat ≤ 16; omega, fun h => (by cases h), fun _ i hi => hz.no hf i (by have : i < ((confG a b c d e)).s.toNat := hi; omega)⟩
    rw [bt_of (sure_of ⟨rfl, rfl, hO⟩)]; rfl
  | true =>
    obtain ⟨j, g1, g2, g3, g4, g5⟩ := hz.yes hf
    have hO : (frQ (frStart (confG a b c d e) k own fro ns nf np si sb fi fb pi pb (madeL (confG a b c d e) nf fi np pi ns si sb)) (frStart (confG a b c d e) k own fro ns nf np si sb fi fb pi pb (madeL (confG a b c d e) nf fi np pi ns si sb)).z.at_ true).OK := ⟨by show ((confG a b c d e)).s.toNat ≤ 16; omega, fun _ => ⟨j, g1, by show j < ((confG a b c d e)).s.toNat; omega, g3, g4, g5⟩, fun h => (by cases h)⟩
    rw [Bool.not_true, cond_false, bt_of (show frG (frStart (confG a b c d e) k own fro ns nf np si sb fi fb pi pb (madeL (confG a b c d e) nf fi np pi ns si sb)).cf (frStart (confG a b c d e) k own fro ns nf np si sb fi fb pi pb (madeL (confG a b c d e) nf fi np pi ns si sb)).l = true from hG), bt_of (sure_of ⟨rfl, rfl, hO⟩)]
theorem fr_walk (w : World) (hT : Tab w) {v : Value} {a b c d e : Int} {A0 A1 A2 : Option Addr} {n0 c0 n1 c1 n2 c2 : Nat} {R0 R1 R2 : Go.Sx.Rows} (hg : GivenA w v a b c d e A0 n0 c0 R0 A1 n1 c1 R1 A2 n2 c2 R2) (k own fro : Int) :
    Calls Tryd.prog 5 #[v, .int .i64 k, .int .i64 own, .int .i64 fro] w fun e w' => e = .returned (.bool true) ∧ Below w.heap.size w w' := by
  have hR := (confG_small hg.ha.1 hg.hb.1 hg.hc.1 hg.hd.1 hg.he.1)
  obtain ⟨ks0, si, sb⟩ := R0
  obtain ⟨ks1, fi, fb⟩ := R1
  obtain ⟨ks2, pi, pb⟩ := R2
  have q0 := hg.k0; have q1 := hg.k1; have q2 := hg.k2
  simp only at q0 q1 q2
  subst q0 q1 q2
  let L : List ArgE := [(A0, n0, c0, 9, ⟨kSlot, si, sb⟩), (A1, n1, c1, 1, ⟨[.it .u8], fi, fb⟩), (A2, n2, c2, 1, ⟨[.it .u8], pi, pb⟩)]
  let σ : Nat → Option Pl := fun k => (L[k]?).bind fun e : ArgE => plOf e.1 e.2.1 e.2.2.2.1
  have hL : ∀ e ∈ L, ArgRow w e.1 e.2.1 e.2.2.1 e.2.2.2.1 e.2.2.2.2 := by
    intro e he
    simp only [L, List.mem_cons, List.not_mem_nil, or_false] at he
    rcases he with rfl | rfl | rfl
    · exact hg.r0
    · exact hg.r1
    · exact hg.r2
  have hr : HR (· < w.heap.size) w 0 σ ((L.map fun e : ArgE => (e.2.2.2.1, e.2.1, e.2.2.2.2)).map fun e => .rows false false e.1 e.2.1 e.2.2) w := args_hr _ (plOfs_some L hL)
  refine callV_start (frEnv_ok _ w hT.lt (bnd_self w) hT) rfl (fr_true a b c d e k own fro c0 c1 c2 n0 n1 n2 si sb fi fb pi pb hR) rfl hr (VRA.of_list ?_)
  rw [hg.val]
  refine .cons (.agg rfl (VRA.of_list (.cons (.int _ _) (.cons (.int _ _) (.cons (.int _ _) (.cons (.int _ _) (.cons (.int _ _) (.cons ?_ (.cons ?_ (.cons ?_ .nil))))))))).2) (.cons (.int _ _) (.cons (.int _ _) (.cons (.int _ _) .nil)))
  · exact VR.argRow (σ := σ) (k := 0) hg.r0 rfl _
  · exact VR.argRow (σ := σ) (k := 1) hg.r1 rfl _
  · exact VR.argRow (σ := σ) (k := 2) hg.r2 rfl _
end Go.Proofs.YtcakklnacnnlaaaDoor
