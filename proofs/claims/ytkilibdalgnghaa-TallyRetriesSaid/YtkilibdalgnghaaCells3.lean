/-
  The contracts of locks and counts of package cells.
-/
import Derived.Test.YtkilibdalgnghaaCells2
import Derived.Laws.BitsAllLaws
import Derived.Laws.BitsLemmas
namespace Go.Proofs.Ytkilibdalgnghaa
set_option linter.unusedVariables false
set_option linter.unusedSimpArgs false
open Go.RowKit Go.Shelf

theorem and_one (v : Int) : bits .and .i64 v 1 = v % 2 := by
  show IntKind.i64.wrap ((BitVec.ofInt 64 v &&& BitVec.ofInt 64 1).toNat : Int) = _
  have h1 : (BitVec.ofInt 64 1).toNat = 1 := by decide
  have h : (BitVec.ofInt 64 v &&& BitVec.ofInt 64 1).toNat = (v % 2).toNat := by
    rw [BitVec.toNat_and, h1, Nat.and_one_is_mod, BitVec.toNat_ofInt]
    omega
  rw [h, IntKind.wrap_i64]
  omega

def actB (a : Int) : Bool := decide (0 ≤ a) && decide (a < 64)
theorem actB_true {a : Int} : actB a = true ↔ 0 ≤ a ∧ a < 64 := by simp [actB]
theorem actB_false {a : Int} (h : actB a = false) : a < 0 ∨ 64 ≤ a := by
  have : ¬ (0 ≤ a ∧ a < 64) := fun hh => by rw [actB_true.2 hh] at h; cases h
  omega
def tuB (l : List Int) (i a o : Int) : Bool := inB l i && actB a && (ldv l i == o)
def tuE (l : List Int) (i a o : Int) : Int := if inB l i && actB a then (if ldv l i == o then 0 else 110) else 2
def tuv (l : List Int) (i a o u : Int) : List Int := if tuB l i a o then l.set i.toNat u else l

section
variable (F : Nat → Prop) (w : World) (b : Nat) (l0 l1 l2 : List Int) (i : Int)
set_option maxHeartbeats 1600000 in
theorem cTurns_any (a o u : Int) (h : CellsAt F w b l0 l1 l2) : Calls Try.prog 49 #[.pointer (some ⟨b, 0, none⟩), .int .i64 i, .int .i64 a, .int .i64 o, .int .i64 u] w
    (Post1 F w b (.int .i64 (tuE l1 i a o)) l0 (tuv l1 i a o u) l2) := by
  cases hi : inB l1 i with
  | true =>
    obtain ⟨v, hv⟩ := at_inB hi
    have HN := Lib.hid (holder_in F w b l0 l1 l2 i h hi)
    have HV := Lib.hid hv
    cases ha : actB a with
    | true =>
      obtain ⟨ha0, ha1⟩ := actB_true.1 ha
      by_cases ho : v = o
      · subst ho
        have e1 : tuB l1 i a v = true := by simp [tuB, hi, ha, ldv_in hi hv]
        have e2 : tuE l1 i a v = 0 := by simp [tuE, hi, ha, ldv_in hi hv]
        rw [e2, tuv, e1, if_pos rfl]
        clear h hi hv e1 e2 ha
        go_enter Try.func49, Try.ntmps49
        go_wp2_with (first | (go_at_call 50; refine HN.out.mono ?_; rintro e w1 ⟨g0, g1, g2, rfl, hm, hf⟩; have hcell := hm.b1.ints _ _ HV.out; have hz := hm.b1.frozen i.toNat) | (go_at_call 54; refine (int64_cas_hit _ _ _ _ hcell hz).mono ?_; rintro e w2 ⟨rfl, rfl⟩))
        go_ret
        exact ⟨rfl, .inr ⟨g0, g1, g2, by rw [FN.setCell]; exact hm.fr1 _ _⟩, hf.setCell' (by exact hm.f1) _⟩
      · have e1 : tuB l1 i a o = false := by simp [tuB, ldv_in hi hv, ho]
        have e2 : tuE l1 i a o = 110 := by simp [tuE, hi, ha, ldv_in hi hv, ho]
        rw [e2, tuv, e1, if_neg (by simp)]
        clear h hi hv e1 e2 ha
        go_enter Try.func49, Try.ntmps49
        go_wp2_with (first | (go_at_call 50; refine HN.out.mono ?_; rintro e w1 ⟨g0, g1, g2, rfl, hm, hf⟩; have hcell := hm.b1.ints _ _ HV.out; have hz := hm.b1.frozen i.toNat) | (go_at_call 54; refine (int64_cas_miss _ _ _ _ _ hcell hz ho).mono ?_; rintro e w2 ⟨rfl, rfl⟩))
        go_ret
        exact ⟨rfl, .inr ⟨g0, g1, g2, hm⟩, hf⟩
    | false =>
      have e1 : tuB l1 i a o = false := by simp [tuB, ha]
      have e2 : tuE l1 i a o = 2 := by simp [tuE, ha]
      rw [e2, tuv, e1, if_neg (by simp)]
      have hab := actB_false ha
      clear h hi hv e1 e2 ha
      by_cases h0 : a < 0
      all_goals
        go_enter Try.func49, Try.ntmps49
        go_wp2_with (go_at_call 50; refine HN.out.mono ?_; rintro e w1 ⟨g0, g1, g2, rfl, hm, hf⟩)
        go_ret
        exact ⟨rfl, .inr ⟨g0, g1, g2, hm⟩, hf⟩
  | false =>
    have e1 : tuB l1 i a o = false := by simp [tuB, hi]
    have e2 : tuE l1 i a o = 2 := by simp [tuE, hi]
    rw [e2, tuv, e1, if_neg (by simp)]
    have HN := Lib.hid (holder_out F w b l0 l1 l2 i h hi)
    clear h hi e1 e2
    go_enter Try.func49, Try.ntmps49
    go_wp2_with (go_at_call 50; refine HN.out.mono ?_; rintro e w1 ⟨rfl, hm, hf⟩)
    go_ret
    exact ⟨rfl, hm, hf⟩
theorem cTurns_nil (a o u : Int) : Calls Try.prog 49 #[.pointer none, .int .i64 i, .int .i64 a, .int .i64 o, .int .i64 u] w fun e w' => e = .returned (.int .i64 1) ∧ w = w' := by
  go_enter Try.func49, Try.ntmps49
  go_wp2_with (go_at_call 50; refine (holder_nil _ _).mono ?_; rintro e w1 ⟨rfl, rfl⟩)
  go_ret
  exact ⟨rfl, rfl⟩

theorem cLock_any (a : Int) (h : CellsAt F w b l0 l1 l2) : Calls Try.prog 20 #[.pointer (some ⟨b, 0, none⟩), .int .i64 i, .int .i64 a] w
    (Post1 F w b (.int .i64 (tuE l1 i a 0)) l0 (tuv l1 i a 0 (wrap64 (a + 1))) l2) := by
  have HN := Lib.hid (cTurns_any F w b l0 l1 l2 i a 0 (wrap64 (a + 1)) h)
  go_enter Try.func20, Try.ntmps20
  go_wp2_with (go_at_call 49; refine HN.out.mono ?_; rintro e w1 ⟨rfl, hm, hf⟩)
  go_ret
  exact ⟨rfl, hm, hf⟩
theorem cUnlock_any (a : Int) (h : CellsAt F w b l0 l1 l2) : Calls Try.prog 19 #[.pointer (some ⟨b, 0, none⟩), .int .i64 i, .int .i64 a] w
    (Post1 F w b (.int .i64 (tuE l1 i a (wrap64 (a + 1)))) l0 (tuv l1 i a (wrap64 (a + 1)) 0) l2) := by
  have HN := Lib.hid (cTurns_any F w b l0 l1 l2 i a (wrap64 (a + 1)) 0 h)
  go_enter Try.func19, Try.ntmps19
  go_wp2_with (go_at_call 49; refine HN.out.mono ?_; rintro e w1 ⟨rfl, hm, hf⟩)
  go_ret
  exact ⟨rfl, hm, hf⟩
theorem cLock_nil (a : Int) : Calls Try.prog 20 #[.pointer none, .int .i64 i, .int .i64 a] w fun e w' => e = .returned (.int .i64 1) ∧ w = w' := by
  go_enter Try.func20, Try.ntmps20
  go_wp2_with (go_at_call 49; refine (cTurns_nil _ _ _ _ _).mono ?_; rintro e w1 ⟨rfl, rfl⟩)
  go_ret
  exact ⟨rfl, rfl⟩
theorem cUnlock_nil (a : Int) : Calls Try.prog 19 #[.pointer none, .int .i64 i, .int .i64 a] w fun e w' => e = .returned (.int .i64 1) ∧ w = w' := by
  go_enter Try.func19, Try.ntmps19
  go_wp2_with (go_at_call 49; refine (cTurns_nil _ _ _ _ _).mono ?_; rintro e w1 ⟨rfl, rfl⟩)
  go_ret
  exact ⟨rfl, rfl⟩

/-! ### counts -/
def spB (l : List Int) (i o : Int) : Bool := inB l i && (ldv l i % 2 == o)
def spE (l : List Int) (i o : Int) : Int := if inB l i then (if ldv l i % 2 == o then 0 else 111) else 2
def spv (l : List Int) (i o : Int) : List Int := if spB l i o then l.set i.toNat (wrap64 (ldv l i + 1)) else l
set_option maxHeartbeats 1600000 in
theorem cSteps_any (o : Int) (h : CellsAt F w b l0 l1 l2) : Calls Try.prog 57 #[.pointer (some ⟨b, 0, none⟩), .int .i64 i, .int .i64 o] w
    (Post1 F w b (.int .i64 (spE l2 i o)) l0 l1 (spv l2 i o)) := by
  cases hi : inB l2 i with
  | true =>
    obtain ⟨v, hv⟩ := at_inB hi
    have HN := Lib.hid (count_in F w b l0 l1 l2 i h hi)
    have HV := Lib.hid hv
    have hand := and_one v
    by_cases ho : v % 2 = o
    · have e1 : spB l2 i o = true := by simp [spB, hi, ldv_in hi hv, ho]
      have e2 : spE l2 i o = 0 := by simp [spE, hi, ldv_in hi hv, ho]
      rw [e2, spv, e1, if_pos rfl, ldv_in hi hv]
      have hne : (v % 2 != o) = false := by simp [ho]
      clear hi hv h e1 e2 ho
      go_enter Try.func57, Try.ntmps57
      go_wp2_with (first | (go_at_call 58; refine HN.out.mono ?_; rintro e w1 ⟨g0, g1, g2, rfl, hm, hf⟩; have hcell := hm.b2.ints _ _ HV.out; have hz := hm.b2.frozen i.toNat) | (go_at_call 55; refine (int64_load _ _ _ hcell).mono ?_; rintro e w2 ⟨rfl, rfl⟩) | (go_at_call 54; refine (int64_cas_hit _ _ _ _ hcell hz).mono ?_; rintro e w2 ⟨rfl, rfl⟩))
      go_ret
      exact ⟨rfl, .inr ⟨g0, g1, g2, by rw [FN.setCell]; exact hm.fr2 _ _ (inI64_wrap _)⟩, hf.setCell' (by exact hm.f2) _⟩
    · have e1 : spB l2 i o = false := by simp [spB, ldv_in hi hv, ho]
      have e2 : spE l2 i o = 111 := by simp [spE, hi, ldv_in hi hv, ho]
      rw [e2, spv, e1, if_neg (by simp)]
      have hne : (v % 2 != o) = true := by simp [ho]
      clear hi hv h e1 e2 ho
      go_enter Try.func57, Try.ntmps57
      go_wp2_with (first | (go_at_call 58; refine HN.out.mono ?_; rintro e w1 ⟨g0, g1, g2, rfl, hm, hf⟩; have hcell := hm.b2.ints _ _ HV.out; have hz := hm.b2.frozen i.toNat) | (go_at_call 55; refine (int64_load _ _ _ hcell).mono ?_; rintro e w2 ⟨rfl, rfl⟩))
      go_ret
      exact ⟨rfl, .inr ⟨g0, g1, g2, hm⟩, hf⟩
  | false =>
    have e1 : spB l2 i o = false := by simp [spB, hi]
    have e2 : spE l2 i o = 2 := by simp [spE, hi]
    rw [e2, spv, e1, if_neg (by simp)]
    have HN := Lib.hid (count_out F w b l0 l1 l2 i h hi)
    clear h hi e1 e2
    go_enter Try.func57, Try.ntmps57
    go_wp2_with (go_at_call 58; refine HN.out.mono ?_; rintro e w1 ⟨rfl, hm, hf⟩)
    go_ret
    exact ⟨rfl, hm, hf⟩
theorem cSteps_nil (o : Int) : Calls Try.prog 57 #[.pointer none, .int .i64 i, .int .i64 o] w fun e w' => e = .returned (.int .i64 1) ∧ w = w' := by
  go_enter Try.func57, Try.ntmps57
  go_wp2_with (go_at_call 58; refine (count_nil _ _).mono ?_; rintro e w1 ⟨rfl, rfl⟩)
  go_ret
  exact ⟨rfl, rfl⟩
theorem cChange_any (h : CellsAt F w b l0 l1 l2) : Calls Try.prog 26 #[.pointer (some ⟨b, 0, none⟩), .int .i64 i] w (Post1 F w b (.int .i64 (spE l2 i 0)) l0 l1 (spv l2 i 0)) := by
  have HN := Lib.hid (cSteps_any F w b l0 l1 l2 i 0 h)
  go_enter Try.func26, Try.ntmps26
  go_wp2_with (go_at_call 57; refine HN.out.mono ?_; rintro e w1 ⟨rfl, hm, hf⟩)
  go_ret
  exact ⟨rfl, hm, hf⟩
theorem cSettle_any (h : CellsAt F w b l0 l1 l2) : Calls Try.prog 28 #[.pointer (some ⟨b, 0, none⟩), .int .i64 i] w (Post1 F w b (.int .i64 (spE l2 i 1)) l0 l1 (spv l2 i 1)) := by
  have HN := Lib.hid (cSteps_any F w b l0 l1 l2 i 1 h)
  go_enter Try.func28, Try.ntmps28
  go_wp2_with (go_at_call 57; refine HN.out.mono ?_; rintro e w1 ⟨rfl, hm, hf⟩)
  go_ret
  exact ⟨rfl, hm, hf⟩
theorem cChange_nil : Calls Try.prog 26 #[.pointer none, .int .i64 i] w fun e w' => e = .returned (.int .i64 1) ∧ w = w' := by
  go_enter Try.func26, Try.ntmps26
  go_wp2_with (go_at_call 57; refine (cSteps_nil _ _ _).mono ?_; rintro e w1 ⟨rfl, rfl⟩)
  go_ret
  exact ⟨rfl, rfl⟩
theorem cSettle_nil : Calls Try.prog 28 #[.pointer none, .int .i64 i] w fun e w' => e = .returned (.int .i64 1) ∧ w = w' := by
  go_enter Try.func28, Try.ntmps28
  go_wp2_with (go_at_call 57; refine (cSteps_nil _ _ _).mono ?_; rintro e w1 ⟨rfl, rfl⟩)
  go_ret
  exact ⟨rfl, rfl⟩

def bgE (l : List Int) (i : Int) : Int := if inB l i then (if ldv l i % 2 == 1 then 111 else 0) else 2
def bgv (l : List Int) (i : Int) : Int := if inB l i then (if ldv l i % 2 == 1 then 0 else ldv l i) else 0
set_option maxHeartbeats 1600000 in
theorem cBegin_any (h : CellsAt F w b l0 l1 l2) : Calls Try.prog 27 #[.pointer (some ⟨b, 0, none⟩), .int .i64 i] w
    (Post1 F w b (.tuple #[.int .i64 (bgv l2 i), .int .i64 (bgE l2 i)]) l0 l1 l2) := by
  cases hi : inB l2 i with
  | true =>
    obtain ⟨v, hv⟩ := at_inB hi
    have HN := Lib.hid (count_in F w b l0 l1 l2 i h hi)
    have HV := Lib.hid hv
    have hand := and_one v
    by_cases ho : v % 2 = 1
    · have e2 : bgE l2 i = 111 := by simp [bgE, hi, ldv_in hi hv, ho]
      have e3 : bgv l2 i = 0 := by simp [bgv, hi, ldv_in hi hv, ho]
      rw [e2, e3]
      have hne : (v % 2 == 1) = true := by simp [ho]
      clear hi hv h e2 e3 ho
      go_enter Try.func27, Try.ntmps27
      go_wp2_with (first | (go_at_call 58; refine HN.out.mono ?_; rintro e w1 ⟨g0, g1, g2, rfl, hm, hf⟩; have hcell := hm.b2.ints _ _ HV.out) | (go_at_call 55; refine (int64_load _ _ _ hcell).mono ?_; rintro e w2 ⟨rfl, rfl⟩))
      go_ret2
      exact ⟨rfl, .inr ⟨g0, g1, g2, hm⟩, hf⟩
    · have e2 : bgE l2 i = 0 := by simp [bgE, hi, ldv_in hi hv, ho]
      have e3 : bgv l2 i = v := by simp [bgv, hi, ldv_in hi hv, ho]
      rw [e2, e3]
      have hne : (v % 2 == 1) = false := by simp [ho]
      clear hi hv h e2 e3 ho
      go_enter Try.func27, Try.ntmps27
      go_wp2_with (first | (go_at_call 58; refine HN.out.mono ?_; rintro e w1 ⟨g0, g1, g2, rfl, hm, hf⟩; have hcell := hm.b2.ints _ _ HV.out) | (go_at_call 55; refine (int64_load _ _ _ hcell).mono ?_; rintro e w2 ⟨rfl, rfl⟩))
      go_ret2
      exact ⟨rfl, .inr ⟨g0, g1, g2, hm⟩, hf⟩
  | false =>
    have e2 : bgE l2 i = 2 := by simp [bgE, hi]
    have e3 : bgv l2 i = 0 := by simp [bgv, hi]
    rw [e2, e3]
    have HN := Lib.hid (count_out F w b l0 l1 l2 i h hi)
    clear h hi e2 e3
    go_enter Try.func27, Try.ntmps27
    go_wp2_with (go_at_call 58; refine HN.out.mono ?_; rintro e w1 ⟨rfl, hm, hf⟩)
    go_ret2
    exact ⟨rfl, hm, hf⟩
theorem cBegin_nil : Calls Try.prog 27 #[.pointer none, .int .i64 i] w fun e w' => e = .returned (.tuple #[.int .i64 0, .int .i64 1]) ∧ w = w' := by
  go_enter Try.func27, Try.ntmps27
  go_wp2_with (go_at_call 58; refine (count_nil _ _).mono ?_; rintro e w1 ⟨rfl, rfl⟩)
  go_ret2
  exact ⟨rfl, rfl⟩

def enB (l : List Int) (i a : Int) : Bool := inB l i && (ldv l i == a)
set_option maxHeartbeats 1600000 in
theorem cEnd_any (a : Int) (h : CellsAt F w b l0 l1 l2) : Calls Try.prog 29 #[.pointer (some ⟨b, 0, none⟩), .int .i64 i, .int .i64 a] w
    (Post1 F w b (.tuple #[.bool (enB l2 i a), .int .i64 (er l2 i)]) l0 l1 l2) := by
  cases hi : inB l2 i with
  | true =>
    obtain ⟨v, hv⟩ := at_inB hi
    have HN := Lib.hid (count_in F w b l0 l1 l2 i h hi)
    have HV := Lib.hid hv
    have e3 : enB l2 i a = (v == a) := by simp [enB, hi, ldv_in hi hv]
    rw [er_in hi, e3]
    clear hi hv h e3
    go_enter Try.func29, Try.ntmps29
    go_wp2_with (first | (go_at_call 58; refine HN.out.mono ?_; rintro e w1 ⟨g0, g1, g2, rfl, hm, hf⟩; have hcell := hm.b2.ints _ _ HV.out) | (go_at_call 55; refine (int64_load _ _ _ hcell).mono ?_; rintro e w2 ⟨rfl, rfl⟩))
    go_ret2
    exact ⟨rfl, .inr ⟨g0, g1, g2, hm⟩, hf⟩
  | false =>
    have e3 : enB l2 i a = false := by simp [enB, hi]
    rw [er_out hi, e3]
    have HN := Lib.hid (count_out F w b l0 l1 l2 i h hi)
    clear h hi e3
    go_enter Try.func29, Try.ntmps29
    go_wp2_with (go_at_call 58; refine HN.out.mono ?_; rintro e w1 ⟨rfl, hm, hf⟩)
    go_ret2
    exact ⟨rfl, hm, hf⟩
theorem cEnd_nil (a : Int) : Calls Try.prog 29 #[.pointer none, .int .i64 i, .int .i64 a] w fun e w' => e = .returned (.tuple #[.bool false, .int .i64 1]) ∧ w = w' := by
  go_enter Try.func29, Try.ntmps29
  go_wp2_with (go_at_call 58; refine (count_nil _ _).mono ?_; rintro e w1 ⟨rfl, rfl⟩)
  go_ret2
  exact ⟨rfl, rfl⟩
end

end Go.Proofs.Ytkilibdalgnghaa
