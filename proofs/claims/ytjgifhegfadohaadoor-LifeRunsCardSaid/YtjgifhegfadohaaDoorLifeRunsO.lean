/- LifeRuns: its arguments opened, its contract. No condition of its own. -/
import Derived.Test.YtjgifhegfadohaaDoorLifeRunsW
import Derived.Test.YtjgifhegfadohaaDoorSlotOpen
namespace Go.Proofs.YtjgifhegfadohaaDoor
open Go.ChangeShapes Go.WideShapes Go.ChangeAt Go.RowKit Go.Joins Go.Fld Go.Deep Go.Sx
set_option linter.unusedVariables false
section
variable {H : Type} {enc : TypeId × Value → H} {P : Program} {w : World} {base : Nat} {held : Bool}
/-- A slice of structs of three ints that came in. -/
theorem open_steps {t e i : TypeId} {f0 f1 f2 : Field} {A : Option Addr} {len cap : Nat} {d : DataW H} {p : List MemPlace} (ht : P.underlying t = some (.slice e)) (he : P.underlying e = some (.struct #[f0, f1, f2])) (hone : oneCellFields P #[f0, f1, f2] = true) (hC : P.cellsOf e = 3)
    (h0 : f0.type = i) (h1 : f1.type = i) (h2 : f2.type = i) (hi : P.underlying i = some (.int .i64)) (h : DataW.Trod enc P w base (fun _ => true) held t (.slice A len cap) d p) :
    (A = none ∧ len = 0 ∧ cap = 0) ∨ ∃ a, A = some a ∧ len ≤ cap ∧ (cap = 0 ∨ ∃ b off, a = ⟨b, off, none⟩ ∧ b < w.heap.size ∧ ∃ g : Nat → Nat → Int, ∀ q j, q < len → j < 3 → w.cell? ⟨b, off + (q * 3 + j), none⟩ = some (.int .i64 (g q j))) := by
  obtain ⟨fuel, hf⟩ := h
  rcases open_slice_fields ht he hone (hC.trans rfl) hf with ⟨hcs, _⟩ | ⟨x, l, c, m, D, Pl, hcs, _, hl, hm, hmm, _, hcell⟩
  · simp [Value.cells] at hcs
    obtain ⟨rfl, rfl, rfl⟩ := hcs
    exact .inl ⟨rfl, rfl, rfl⟩
  · simp [Value.cells] at hcs
    obtain ⟨rfl, rfl, rfl⟩ := hcs
    refine .inr ⟨x, rfl, hl, ?_⟩
    simp only [if_true] at hmm
    subst hmm
    by_cases hz : m = 0
    · exact .inl hz
    right
    have key : ∀ q j, q < m → j < 3 → ∃ n, w.cell? (x.add (q * 3 + j)) = some (.int .i64 n) := by
      intro q j hq hj
      obtain ⟨ys, n, _, _, _, hfl⟩ := hcell q hq
      have one : ∀ (j : Nat) (f : Field), (#[f0, f1, f2] : Array Field)[j]? = some f → f.type = i → ∃ n, w.cell? (x.add (q * 3 + j)) = some (.int .i64 n) := by
        intro j f hj hft
        obtain ⟨v0, y0, hc0, _, t0⟩ := hfl j f hj
        rw [hft] at t0
        obtain ⟨n0, e0, _, _⟩ := DataW.trod_int hi t0
        simp at e0
        subst e0
        exact ⟨n0, hc0⟩
      match j, hj with
      | 0, _ => exact one 0 f0 rfl h0
      | 1, _ => exact one 1 f1 rfl h1
      | 2, _ => exact one 2 f2 rfl h2
    obtain ⟨b, off, spot⟩ := x
    obtain ⟨n0, hc0⟩ := key 0 0 (by omega) (by omega)
    have hspot : spot = none := by simpa [Addr.add] using World.cell?_spot hc0
    subst hspot
    have hb : b < w.heap.size := by simpa [Addr.add] using cell_lt (b := b) (o := off) (by simpa [Addr.add] using hc0)
    refine ⟨b, off, rfl, hb, fun q j => match w.cell? ⟨b, off + (q * 3 + j), none⟩ with | some (.int .i64 n) => n | _ => 0, fun q j hq hj => ?_⟩
    obtain ⟨n, hn⟩ := key q j (by omega) hj
    rw [Addr.add_lit] at hn
    simp only [hn]
end
theorem runs_empty (u : Int) : (call lawEnv 60 9 [.slice none 0 0, .int .u8 u] []).run (Option Value) none (fun r => some r.1) = some (.bool true) := by kernel_rfl
theorem runs_empty2 (u : Int) : (call lawEnv 60 9 [.slice (some ⟨0, 0, some 3⟩) 0 0, .int .u8 u] []).run (Option Value) none (fun r => some r.1) = some (.bool true) := by kernel_rfl
def sig0 (b off : Nat) : Nat → Option Pl := fun k => if k = 0 then some ⟨b, off, 3, 0⟩ else none
theorem sig0_some {b off k : Nat} {p : Pl} (h : sig0 b off k = some p) : k = 0 ∧ p = ⟨b, off, 3, 0⟩ := by
  unfold sig0 at h
  split at h
  · rename_i hk; exact ⟨hk, (Option.some.inj h).symm⟩
  · cases h
theorem rows_hr {w : World} {b off n : Nat} {g : Nat → Nat → Int} (hb : b < w.heap.size) (hc : ∀ q j, q < n → j < 3 → w.cell? ⟨b, off + (q * 3 + j), none⟩ = some (.int .i64 (g q j))) :
    HR w.heap.size w 0 (sig0 b off) [.rows false false 3 n (fun i j => .int .i64 (g i j))] w := by
  refine ⟨Nat.le_refl _, Below.refl _ _, fun g hg => by omega, fun k p h => ?_, fun k p h => ?_, fun k k' p p' h h' _ _ _ => ?_, fun k p h => ?_⟩
  · obtain ⟨rfl, _⟩ := sig0_some h; simp
  · obtain ⟨_, rfl⟩ := sig0_some h; exact hb
  · rw [(sig0_some h).1, (sig0_some h').1]
  · obtain ⟨rfl, rfl⟩ := sig0_some h
    exact ⟨fun ho => (by cases ho), rfl, fun i j hi hj => ⟨_, hc i j hi hj, .int _ _⟩⟩
theorem runs_walk {w : World} (hT : Tab w) {A : Option Addr} {n cap : Nat} {u : Int} (h0 : 0 ≤ u) (h1 : u ≤ 255)
    (h : (A = none ∧ n = 0 ∧ cap = 0) ∨ ∃ a, A = some a ∧ n ≤ cap ∧ (cap = 0 ∨ ∃ b off, a = ⟨b, off, none⟩ ∧ b < w.heap.size ∧ ∃ g : Nat → Nat → Int, ∀ q j, q < n → j < 3 → w.cell? ⟨b, off + (q * 3 + j), none⟩ = some (.int .i64 (g q j)))) :
    Calls Tryd.prog 9 #[.slice A n cap, .int .u8 u] w fun e w' => e = .returned (.bool true) ∧ Below w.heap.size w w' := by
  rcases h with ⟨rfl, rfl, rfl⟩ | ⟨a, rfl, hle, rfl | ⟨b, off, rfl, hb, g, hc⟩⟩
  · exact call_value (lawEnv_ok hT hT.lt) (runs_empty u) rfl start_hr (VRA.plain [.slice none 0 0, .int .u8 u] rfl)
  · obtain rfl : n = 0 := by omega
    refine call_value (lawEnv_ok hT hT.lt) (runs_empty2 u) rfl start_hr ⟨rfl, fun i x y hx hy => ?_⟩
    match i, hx, hy with
    | 0, hx, hy => simp at hx hy; subst hx hy; exact .empty a
    | 1, hx, hy => simp at hx hy; subst hx hy; exact .int _ _
  · obtain ⟨lh', _, hcall⟩ := runs_call hT hT.lt n cap g u h0 h1
    refine (hcall (sig0 b off) w #[.slice (some ⟨b, off, none⟩) n cap, .int .u8 u] (rows_hr hb hc) ⟨rfl, fun i x y hx hy => ?_⟩).mono fun e w' hh => ?_
    · match i, hx, hy with
      | 0, hx, hy =>
        simp at hx hy; subst hx hy
        have := VR.sliceRow (σ := sig0 b off) (k := 0) (i := 0) (l := n) (c := cap) (p := ⟨b, off, 3, 0⟩) rfl
        simpa using this
      | 1, hx, hy => simp at hx hy; subst hx hy; exact .int _ _
    · obtain ⟨v', rfl, σ', _, hvr, hr'⟩ := hh
      rw [hvr.plain1_eq rfl]
      exact ⟨rfl, hr'.below⟩
end Go.Proofs.YtjgifhegfadohaaDoor
