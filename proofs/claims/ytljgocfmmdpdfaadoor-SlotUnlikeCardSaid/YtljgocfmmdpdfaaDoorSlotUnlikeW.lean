/- SlotUnlike: the symbolic run's ways all answer true. No condition of its own. -/
import Derived.Test.YtljgocfmmdpdfaaDoorSlotSym
namespace Go.Proofs.YtljgocfmmdpdfaaDoor
open Go.RowKit Go.Fld Go.Sx
set_option linter.unusedVariables false
theorem encS_right {s : Slt} {x : Int} (h : encS s = some x) : rightR s = true ∧ x = sumS s := by
  rw [encS_eq] at h
  unfold encR at h
  split at h
  · rename_i hr; exact ⟨hr, (Option.some.inj h).symm⟩
  · cases h
theorem encS_of_right {s : Slt} (h : rightR s = true) : encS s = some (sumS s) := by
  rw [encS_eq]; unfold encR; rw [if_pos h]
theorem enc_inj {s t : Slt} {x y : Int} (h : encS s = some x) (k : encS t = some y) : (x == y) = decide (s = t) := by
  by_cases e : s = t
  · subst e
    obtain rfl := Option.some.inj (h.symm.trans k)
    simp
  · have : x ≠ y := by
      rintro rfl
      exact e ((dec_enc s x h).1.symm.trans (dec_enc t x k).1)
    simp [e, this]
theorem slot_beq (s t : Slt) : (s.st == t.st && (s.own == t.own && (s.str == t.str && (s.brk == t.brk && (s.mrk == t.mrk && (s.uses == t.uses && (s.gen == t.gen && (s.ep == t.ep && (s.ver == t.ver && true))))))))) = decide (s = t) := by
  obtain ⟨a, b, c, d, e, f, g, h, i⟩ := s
  obtain ⟨a', b', c', d', e', f', g', h', i'⟩ := t
  rw [Bool.eq_iff_iff]
  simp
theorem right_ver {s : Slt} (h : rightR s = true) {v : Int} (h0 : 0 ≤ v) (h1 : v ≤ 32767) : rightR { s with ver := v } = true := by
  obtain ⟨a, b, c, d, e, f, g, hh, i⟩ := s
  simp only [rightR, livesS, fr, Bool.and_eq_true] at h ⊢
  obtain ⟨⟨⟨k1, _⟩, k2⟩, k3⟩ := h
  exact ⟨⟨⟨k1, by simp [h0, h1]⟩, k2⟩, k3⟩
theorem right_gen {s : Slt} (h : rightR s = true) {v : Int} (h0 : 0 ≤ v) (h1 : v ≤ 4095) : rightR { s with gen := v } = true := by
  obtain ⟨a, b, c, d, e, f, g, hh, i⟩ := s
  simp only [rightR, livesS, fr, Bool.and_eq_true] at h ⊢
  obtain ⟨⟨⟨⟨⟨k1, _⟩, k4⟩, k5⟩, k2⟩, k3⟩ := h
  exact ⟨⟨⟨⟨⟨k1, by simp [h0, h1]⟩, k4⟩, k5⟩, k2⟩, k3⟩
theorem wrap_small {k : Int} (h0 : 0 ≤ k) (h1 : k < 9223372036854775808) : IntKind.i64.wrap k = k := by
  simp [IntKind.wrap, IntKind.signed, IntKind.bits]; omega
theorem unlike_tree (s t : Slt) (n : Int) : (call slotEnv 200 6 [s.val, t.val, .int .u16 n] []).run (Option Value) none (fun r => some r.1) =
    bif !(encS s).isSome then some (.bool true) else bif !(encS t).isSome then some (.bool true) else
    bif ((encS s).getD 0 == (encS t).getD 0) == (s.st == t.st && (s.own == t.own && (s.str == t.str && (s.brk == t.brk && (s.mrk == t.mrk && (s.uses == t.uses && (s.gen == t.gen && (s.ep == t.ep && (s.ver == t.ver && true))))))))) then
      bif (encS { s with ver := IntKind.i64.wrap (n.tmod 32768) }).isSome then
        bif (encS { s with gen := IntKind.i64.wrap (n.tmod 4096) }).isSome then
          bif ((encS s).getD 0 == (encS { s with ver := IntKind.i64.wrap (n.tmod 32768) }).getD 0) == (s.ver == IntKind.i64.wrap (n.tmod 32768)) then
            some (.bool (((encS s).getD 0 == (encS { s with gen := IntKind.i64.wrap (n.tmod 4096) }).getD 0) == (s.gen == IntKind.i64.wrap (n.tmod 4096))))
          else some (.bool false)
        else some (.bool false)
      else some (.bool false)
    else some (.bool false) := by kernel_rfl
theorem unlike_true (s t : Slt) (n : Int) (h0 : 0 ≤ n) (h1 : n ≤ 65535) : (call slotEnv 200 6 [s.val, t.val, .int .u16 n] []).run (Option Value) none (fun r => some r.1) = some (.bool true) := by
  rw [unlike_tree]
  have e1 : n.tmod 32768 = n % 32768 := Int.tmod_eq_emod_of_nonneg h0
  have e2 : n.tmod 4096 = n % 4096 := Int.tmod_eq_emod_of_nonneg h0
  rw [e1, e2, wrap_small (by omega) (by omega), wrap_small (by omega) (by omega)]
  cases hs : encS s with
  | none => rfl
  | some x =>
    cases ht : encS t with
    | none => rfl
    | some y =>
      have hu := encS_of_right (right_ver (encS_right hs).1 (v := n % 32768) (by omega) (by omega))
      have hv := encS_of_right (right_gen (encS_right hs).1 (v := n % 4096) (by omega) (by omega))
      rw [hu, hv, slot_beq]
      simp only [Option.isSome_some, Bool.not_true, cond_false, Option.getD_some, cond_true]
      rw [enc_inj hs ht, enc_inj hs hu, enc_inj hs hv]
      have q1 : decide (s = { s with ver := n % 32768 }) = (s.ver == n % 32768) := by
        obtain ⟨a, b, c, d, e, f, g, h, i⟩ := s
        rw [Bool.eq_iff_iff]; simp
      have q2 : decide (s = { s with gen := n % 4096 }) = (s.gen == n % 4096) := by
        obtain ⟨a, b, c, d, e, f, g, h, i⟩ := s
        rw [Bool.eq_iff_iff]; simp
      rw [q1, q2]
      simp
theorem unlike_walk (s t : Slt) (n : Int) (hn : 0 ≤ n ∧ n ≤ 65535) (w : World) (hT : Tab w) :
    Calls Tryd.prog 6 #[s.val, t.val, .int .u16 n] w fun e w' => e = .returned (.bool true) ∧ Below w.heap.size w w' :=
  call_value (slotEnv_ok hT hT.lt) (unlike_true s t n hn.1 hn.2) rfl start_hr (VRA.plain [s.val, t.val, .int .u16 n] (by simp [Slt.val, Go.Sx.plain, plain1]))
end Go.Proofs.YtljgocfmmdpdfaaDoor
