/- LifeStreams: whatever the input its run answers true. No condition of its own. -/
import Derived.Test.YtjgifhegfadohaaDoorLifeLaws
namespace Go.Proofs.YtjgifhegfadohaaDoor
open Go.RowKit Go.Fld Go.Sx
set_option linter.unusedVariables false
def strm (x : Int) (K : Int → Option Value) : Option Value :=
  bif bits .and .i64 (x.fdiv 1) 1 == 0 then bif bits .and .i64 (x.fdiv 2) 1 == 0 then bif bits .and .i64 (x.fdiv 4) 1 == 0 then bif bits .and .i64 (x.fdiv 8) 1 == 0 then
  bif bits .and .i64 (x.fdiv 16) 1 == 0 then bif bits .and .i64 (x.fdiv 32) 1 == 0 then bif bits .and .i64 (x.fdiv 64) 1 == 0 then bif bits .and .i64 (x.fdiv 128) 1 == 0 then K 8
  else K 7 else K 6 else K 5 else K 4 else K 3 else K 2 else K 1 else K 0
def strK (s t : Slt) (own more : Int) (n : Int) : Option Value :=
  bif I t 15 own n then bif !I (T t 15 own n) 15 own n then bif beqS { T t 15 own n with ver := s.ver } s then bif decide (n < more) then some (.bool (t.str == IntKind.i64.wrap (s.str + IntKind.i64.wrap (1 * 2 ^ min n.toNat IntKind.i64.bits)))) else ff else ff else ff else ff
theorem streams_tree (s : Slt) (own more : Int) : (call lawEnv 60 11 [s.val, .int .i64 own, .int .i64 more] []).run (Option Value) none (fun r => some r.1) =
    bif !I s 14 own more then tt else strm (bits .xor .i64 (T s 14 own more).str s.str) (strK s (T s 14 own more) own more) := by kernel_rfl
def strOK (n : Nat) : Bool := decide (8 ≤ lowI n) || (decide (bits .xor .i64 ((n : Int) + 2 ^ (lowI n).toNat) n = 2 ^ (lowI n).toNat) && decide (((n : Int) + 2 ^ (lowI n).toNat) / 2 ^ (lowI n).toNat % 2 = 1) && decide ((n : Int) / 2 ^ (lowI n).toNat % 2 = 0))
theorem str_all : (List.range 256).all strOK = true := by kernel_rfl
theorem str_at {c : Int} (h0 : 0 ≤ c) (h1 : c ≤ 255) (h : lowI c < 8) : bits .xor .i64 (c + 2 ^ (lowI c).toNat) c = 2 ^ (lowI c).toNat ∧ (c + 2 ^ (lowI c).toNat) / 2 ^ (lowI c).toNat % 2 = 1 ∧ c / 2 ^ (lowI c).toNat % 2 = 0 := by
  have q := List.all_eq_true.1 str_all c.toNat (List.mem_range.2 (by omega))
  unfold strOK at q
  rw [show ((c.toNat : Nat) : Int) = c by omega] at q
  simp only [Bool.or_eq_true, Bool.and_eq_true, decide_eq_true_eq] at q
  rcases q with q | q
  · omega
  · exact ⟨q.1.1, q.1.2, q.2⟩
theorem strm_at (l : Int) (h0 : 0 ≤ l) (h1 : l < 8) (K : Int → Option Value) : strm (2 ^ l.toNat) K = K l := by
  rcases (show l = 0 ∨ l = 1 ∨ l = 2 ∨ l = 3 ∨ l = 4 ∨ l = 5 ∨ l = 6 ∨ l = 7 by omega) with rfl | rfl | rfl | rfl | rfl | rfl | rfl | rfl
  · exact (by kernel_rfl : strm (2 ^ (0 : Int).toNat) K = K 0)
  · exact (by kernel_rfl : strm (2 ^ (1 : Int).toNat) K = K 1)
  · exact (by kernel_rfl : strm (2 ^ (2 : Int).toNat) K = K 2)
  · exact (by kernel_rfl : strm (2 ^ (3 : Int).toNat) K = K 3)
  · exact (by kernel_rfl : strm (2 ^ (4 : Int).toNat) K = K 4)
  · exact (by kernel_rfl : strm (2 ^ (5 : Int).toNat) K = K 5)
  · exact (by kernel_rfl : strm (2 ^ (6 : Int).toNat) K = K 6)
  · exact (by kernel_rfl : strm (2 ^ (7 : Int).toNat) K = K 7)
theorem rowS15 (t : Slt) (own more : Int) : rowS t 15 own more = row15 t own more := by kernel_rfl
theorem streams_true (s : Slt) (own more : Int) : (call lawEnv 60 11 [s.val, .int .i64 own, .int .i64 more] []).run (Option Value) none (fun r => some r.1) = tt := by
  rw [streams_tree]
  cases hI : I s 14 own more with
  | false => rfl
  | true =>
    obtain ⟨r, hr, F, a0, a1, hn, ht⟩ := I_some hI
    have hF := row_facts F a0 a1 hr ((s.ver + 1) % 32768) (by omega) (by omega)
    have hr' : row14 s own more = some r := hr
    unfold row14 at hr'
    split at hr'
    case isFalse => cases hr'
    rename_i q
    cases hr'
    obtain ⟨q1, q2, q3, q4, q5⟩ := q
    have hl := low_range s.str
    have hs := str_at F.str.1 F.str.2 q5
    have hfit := low_fits F.str.1 F.str.2 q5
    have hw : IntKind.i64.wrap (1 * 2 ^ min (lowI s.str).toNat IntKind.i64.bits) = 2 ^ (lowI s.str).toNat := by
      generalize lowI s.str = l at hl q5
      rcases (show l = 0 ∨ l = 1 ∨ l = 2 ∨ l = 3 ∨ l = 4 ∨ l = 5 ∨ l = 6 ∨ l = 7 by omega) with rfl | rfl | rfl | rfl | rfl | rfl | rfl | rfl <;> decide
    rw [ht]
    obtain ⟨t, hdt⟩ : ∃ t : Slt, t = { { s with str := s.str + 2 ^ (lowI s.str).toNat } with ver := (s.ver + 1) % 32768 } := ⟨_, rfl⟩
    rw [← hdt] at hF ⊢
    have hts : t.str = s.str + 2 ^ (lowI s.str).toNat := by rw [hdt]
    rw [hts, hs.1]
    simp only [Bool.not_true, cond_false]
    rw [strm_at _ hl.1 q5]
    unfold strK
    have r15 : rowS t 15 own (lowI s.str) = some { t with str := s.str } := by
      rw [rowS15]
      unfold row15
      rw [if_pos ⟨by rw [hdt]; exact q1, by rw [hdt]; exact q2, hl.1, by omega, by rw [hts]; exact hs.2.1⟩, hts]
      congr 2
      omega
    have hn2 := next_of (k := 15) (more := lowI s.str) hF a0 a1
    rw [r15] at hn2
    have hF2 := row_facts hF a0 a1 r15 ((t.ver + 1) % 32768) (by have := hF.ver; omega) (by have := hF.ver; omega)
    have hI2 : I t 15 own (lowI s.str) = true := by unfold I; rw [hn2]; rfl
    have hT2 : T t 15 own (lowI s.str) = { { t with str := s.str } with ver := (t.ver + 1) % 32768 } := by unfold T; rw [hn2]; rfl
    have r3 : rowS { { t with str := s.str } with ver := (t.ver + 1) % 32768 } 15 own (lowI s.str) = none := by
      rw [rowS15]
      unfold row15
      rw [if_neg (fun hh => by have h5 := hh.2.2.2.2; simp only at h5; rw [hs.2.2] at h5; omega)]
    have hn3 := next_of (k := 15) (more := lowI s.str) hF2 a0 a1
    rw [r3] at hn3
    have hI3 : I { { t with str := s.str } with ver := (t.ver + 1) % 32768 } 15 own (lowI s.str) = false := by unfold I; rw [hn3]; rfl
    have hb : beqS { { { t with str := s.str } with ver := (t.ver + 1) % 32768 } with ver := s.ver } s = true := by
      rw [hdt]; exact beqS_refl s
    have hw2 : IntKind.i64.wrap (s.str + 2 ^ (lowI s.str).toNat) = s.str + 2 ^ (lowI s.str).toNat := wrap_small (by omega) (by omega)
    rw [hI2, hT2, hI3, hw, hw2, hts, decide_eq_true q4]
    simp only [Bool.not_false, cond_true]
    rw [show beqS { st := t.st, own := t.own, str := s.str, brk := t.brk, mrk := t.mrk, uses := t.uses, gen := t.gen, ep := t.ep, ver := s.ver } s = true from hb]
    simp
theorem streams_walk (s : Slt) (own more : Int) (w : World) (hT : Tab w) : Calls Tryd.prog 11 #[s.val, .int .i64 own, .int .i64 more] w fun e w' => e = .returned (.bool true) ∧ Below w.heap.size w w' :=
  call_value (lawEnv_ok hT hT.lt) (streams_true s own more) rfl start_hr (VRA.plain [s.val, .int .i64 own, .int .i64 more] (by simp [Slt.val, Go.Sx.plain, plain1]))
end Go.Proofs.YtjgifhegfadohaaDoor
