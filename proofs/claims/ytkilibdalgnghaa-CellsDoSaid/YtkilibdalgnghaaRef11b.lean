/-
  The document's cells: the other methods.
-/
import Derived.Test.YtkilibdalgnghaaRef11
namespace Go.Proofs.Ytkilibdalgnghaa
set_option linter.unusedVariables false
set_option linter.unusedSimpArgs false
open Go.RowKit Go.Shelf

section
variable (G : Nat → Prop) (w : World) (b : Nat) (l0 l1 l2 : List Int) (i : Int)
theorem RAt.drew {G : Nat → Prop} {w : World} {b g0 g1 g2 : Nat} {l0 l1 l2 : List Int} (h : RAt G w b g0 g1 g2 l0 l1 l2) : RAt G w.drew b g0 g1 g2 l0 l1 l2 :=
  ⟨h.blk, h.b0, h.b1, h.b2, h.n02, h.fb, h.f0, h.f1, h.f2, h.m0, h.m1, h.m2⟩
theorem RPost.set0 {v : Value} {g0 g1 g2 : Nat} {w1 : World} (hr : RAt G w b g0 g1 g2 l0 l1 l2) (k : Nat) (x : Int) (hw : w1 = w.setCell ⟨g0, k, none⟩ (.int .i64 x) ∨ w1 = (w.setCell ⟨g0, k, none⟩ (.int .i64 x)).drew) : RPost G w b v (l0.set k x) l1 l2 (.returned v) w1 := by
  rcases hw with rfl | rfl
  · exact ⟨rfl, ⟨g0, g1, g2, by rw [FN.setCell, FN.self]; exact hr.fr0 k x⟩, (Fr.refl G w).setCell (p := ⟨g0, k, none⟩) (.inl hr.f0) _⟩
  · exact ⟨rfl, ⟨g0, g1, g2, by rw [FN.drew, FN.setCell, FN.self]; exact (hr.fr0 k x).drew⟩, ((Fr.refl G w).setCell (p := ⟨g0, k, none⟩) (.inl hr.f0) _).drew⟩
theorem RPost.set1 {v : Value} {g0 g1 g2 : Nat} {w1 : World} (hr : RAt G w b g0 g1 g2 l0 l1 l2) (k : Nat) (x : Int) (hw : w1 = w.setCell ⟨g1, k, none⟩ (.int .i64 x) ∨ w1 = (w.setCell ⟨g1, k, none⟩ (.int .i64 x)).drew) : RPost G w b v l0 (l1.set k x) l2 (.returned v) w1 := by
  rcases hw with rfl | rfl
  · exact ⟨rfl, ⟨g0, g1, g2, by rw [FN.setCell, FN.self]; exact hr.fr1 k x⟩, (Fr.refl G w).setCell (p := ⟨g1, k, none⟩) (.inl hr.f1) _⟩
  · exact ⟨rfl, ⟨g0, g1, g2, by rw [FN.drew, FN.setCell, FN.self]; exact (hr.fr1 k x).drew⟩, ((Fr.refl G w).setCell (p := ⟨g1, k, none⟩) (.inl hr.f1) _).drew⟩
theorem RPost.set2 {v : Value} {g0 g1 g2 : Nat} {w1 : World} (hr : RAt G w b g0 g1 g2 l0 l1 l2) (k : Nat) (x : Int) (hw : w1 = w.setCell ⟨g2, k, none⟩ (.int .i64 x) ∨ w1 = (w.setCell ⟨g2, k, none⟩ (.int .i64 x)).drew) : RPost G w b v l0 l1 (l2.set k x) (.returned v) w1 := by
  rcases hw with rfl | rfl
  · exact ⟨rfl, ⟨g0, g1, g2, by rw [FN.setCell, FN.self]; exact hr.fr2 k x⟩, (Fr.refl G w).setCell (p := ⟨g2, k, none⟩) (.inl hr.f2) _⟩
  · exact ⟨rfl, ⟨g0, g1, g2, by rw [FN.drew, FN.setCell, FN.self]; exact (hr.fr2 k x).drew⟩, ((Fr.refl G w).setCell (p := ⟨g2, k, none⟩) (.inl hr.f2) _).drew⟩

set_option maxHeartbeats 1600000 in
theorem rStore_any (u : Int) (h : RCells b l0 l1 l2 G w) : Calls Try.prog 59 #[.pointer (some ⟨b, 0, none⟩), .int .i64 i, .int .i64 u] w (RPost G w b (Value.int .i64 (er l0 i)) (stv l0 i u) l1 l2) := by
  obtain ⟨g0, g1, g2, hr⟩ := h
  have c0 : w.cell? ⟨b, 0, none⟩ = some (.slice (some ⟨g0, 0, none⟩) l0.length l0.length) := hr.blk.cell 0
  cases hi : inB l0 i with
  | true =>
    obtain ⟨v, hv⟩ := at_inB hi
    obtain ⟨h0, h1⟩ := inB_true.1 hi
    have hcell := hr.b0.ints _ _ hv
    have hz := hr.b0.frozen i.toNat
    have hgb : g0 ≠ b := hr.b0.ne_ hr.blk (by decide)
    have hgb' : b ≠ g0 := Ne.symm hgb
    rw [stv_in hi, er_in hi]
    clear hi hv
    go_enter Try.func59, Try.ntmps59
    go_wp2
    go_ret
    exact RPost.set0 G w b _ _ _ hr _ _ (.inl rfl)
  | false =>
    rw [stv_out hi, er_out hi]
    have ho := out_of hi
    clear hi
    by_cases hneg : i < 0
    · go_enter Try.func59, Try.ntmps59
      go_wp2
      go_ret
      exact RPost.same G w b _ _ _ ⟨g0, g1, g2, hr⟩
    · have hge : (l0.length : Int) ≤ i := by omega
      go_enter Try.func59, Try.ntmps59
      go_wp2
      go_ret
      exact RPost.same G w b _ _ _ ⟨g0, g1, g2, hr⟩

set_option maxHeartbeats 1600000 in
theorem rAdd_any (u : Int) (h : RCells b l0 l1 l2 G w) : Calls Try.prog 89 #[.pointer (some ⟨b, 0, none⟩), .int .i64 i, .int .i64 u] w (RPost G w b (Value.tuple #[.int .i64 (adv l0 i u), .int .i64 (er l0 i)]) (stv l0 i (adv l0 i u)) l1 l2) := by
  obtain ⟨g0, g1, g2, hr⟩ := h
  have c0 : w.cell? ⟨b, 0, none⟩ = some (.slice (some ⟨g0, 0, none⟩) l0.length l0.length) := hr.blk.cell 0
  cases hi : inB l0 i with
  | true =>
    obtain ⟨v, hv⟩ := at_inB hi
    obtain ⟨h0, h1⟩ := inB_true.1 hi
    have hcell := hr.b0.ints _ _ hv
    have hz := hr.b0.frozen i.toNat
    have hgb : g0 ≠ b := hr.b0.ne_ hr.blk (by decide)
    have hgb' : b ≠ g0 := Ne.symm hgb
    rw [stv_in hi, er_in hi, adv_in hi hv]
    clear hi hv
    go_enter Try.func89, Try.ntmps89
    go_wp2
    go_region
    all_goals
      go_wp2
      go_ret2
      exact RPost.set0 G w b _ _ _ hr _ _ (.inr rfl)
  | false =>
    rw [stv_out hi, er_out hi, adv_out hi]
    have ho := out_of hi
    clear hi
    by_cases hneg : i < 0
    · go_enter Try.func89, Try.ntmps89
      go_wp2
      go_ret2
      exact RPost.same G w b _ _ _ ⟨g0, g1, g2, hr⟩
    · have hge : (l0.length : Int) ≤ i := by omega
      go_enter Try.func89, Try.ntmps89
      go_wp2
      go_ret2
      exact RPost.same G w b _ _ _ ⟨g0, g1, g2, hr⟩

set_option maxHeartbeats 1600000 in
theorem rSwap_any (o : Int) (u : Int) (h : RCells b l0 l1 l2 G w) : Calls Try.prog 90 #[.pointer (some ⟨b, 0, none⟩), .int .i64 i, .int .i64 o, .int .i64 u] w (RPost G w b (Value.tuple #[.bool (swB l0 i o), .int .i64 (er l0 i)]) (swv l0 i o u) l1 l2) := by
  obtain ⟨g0, g1, g2, hr⟩ := h
  have c0 : w.cell? ⟨b, 0, none⟩ = some (.slice (some ⟨g0, 0, none⟩) l0.length l0.length) := hr.blk.cell 0
  cases hi : inB l0 i with
  | true =>
    obtain ⟨v, hv⟩ := at_inB hi
    obtain ⟨h0, h1⟩ := inB_true.1 hi
    have hcell := hr.b0.ints _ _ hv
    have hz := hr.b0.frozen i.toNat
    have hgb : g0 ≠ b := hr.b0.ne_ hr.blk (by decide)
    have hgb' : b ≠ g0 := Ne.symm hgb
    by_cases ho : v = o
    · have e1 : swB l0 i o = true := by simp [swB, hi, ldv_in hi hv, ho]
      rw [er_in hi, swv, e1, if_pos rfl]
      have hne : (v != o) = false := by simp [ho]
      clear hi hv e1 ho
      go_enter Try.func90, Try.ntmps90
      go_wp2
      go_ret2
      exact RPost.set0 G w b _ _ _ hr _ _ (.inl rfl)
    · have e1 : swB l0 i o = false := by simp [swB, hi, ldv_in hi hv, ho]
      rw [er_in hi, swv, e1, if_neg (by simp)]
      have hne : (v != o) = true := by simp [ho]
      clear hi hv e1 ho
      go_enter Try.func90, Try.ntmps90
      go_wp2
      go_ret2
      exact RPost.same G w b _ _ _ ⟨g0, g1, g2, hr⟩
  | false =>
    have e1 : swB l0 i o = false := by simp [swB, hi]
    rw [er_out hi, swv, e1, if_neg (by simp)]
    clear e1
    have ho := out_of hi
    clear hi
    by_cases hneg : i < 0
    · go_enter Try.func90, Try.ntmps90
      go_wp2
      go_ret2
      exact RPost.same G w b _ _ _ ⟨g0, g1, g2, hr⟩
    · have hge : (l0.length : Int) ≤ i := by omega
      go_enter Try.func90, Try.ntmps90
      go_wp2
      go_ret2
      exact RPost.same G w b _ _ _ ⟨g0, g1, g2, hr⟩

set_option maxHeartbeats 1600000 in
theorem rLock_any (a : Int) (h : RCells b l0 l1 l2 G w) : Calls Try.prog 60 #[.pointer (some ⟨b, 0, none⟩), .int .i64 i, .int .i64 a] w (RPost G w b (Value.int .i64 (tuE l1 i a 0)) l0 (tuv l1 i a 0 (wrap64 (a + 1))) l2) := by
  obtain ⟨g0, g1, g2, hr⟩ := h
  have c0 : w.cell? ⟨b, 1, none⟩ = some (.slice (some ⟨g1, 0, none⟩) l1.length l1.length) := hr.blk.cell 1
  cases hi : inB l1 i with
  | true =>
    obtain ⟨v, hv⟩ := at_inB hi
    obtain ⟨h0, h1⟩ := inB_true.1 hi
    have hcell := hr.b1.ints _ _ hv
    have hz := hr.b1.frozen i.toNat
    have hgb : g1 ≠ b := hr.b1.ne_ hr.blk (by decide)
    have hgb' : b ≠ g1 := Ne.symm hgb
    cases ha : actB a with
    | true =>
      obtain ⟨ha0, ha1⟩ := actB_true.1 ha
      have hw : wrap64 (a + 1) = a + 1 := by unfold wrap64; omega
      by_cases ho : v = 0
      · have e1 : tuB l1 i a 0 = true := by simp [tuB, hi, ha, ldv_in hi hv, ho, hw]
        have e2 : tuE l1 i a 0 = 0 := by simp [tuE, hi, ha, ldv_in hi hv, ho, hw]
        rw [e2, tuv, e1, if_pos rfl]
        have hne : (v != 0) = false := by simp [ho]
        rw [hw]
        clear hi hv e1 e2 ha ho hw
        go_enter Try.func60, Try.ntmps60
        go_wp2
        go_ret
        exact RPost.set1 G w b _ _ _ hr _ _ (.inl rfl)
      · have e1 : tuB l1 i a 0 = false := by simp [tuB, ldv_in hi hv, ho, hw]
        have e2 : tuE l1 i a 0 = 110 := by simp [tuE, hi, ha, ldv_in hi hv, ho, hw]
        rw [e2, tuv, e1, if_neg (by simp)]
        have hne : (v != 0) = true := by simp [ho]
        clear hi hv e1 e2 ha ho hw
        go_enter Try.func60, Try.ntmps60
        go_wp2
        go_ret
        exact RPost.same G w b _ _ _ ⟨g0, g1, g2, hr⟩
    | false =>
      have e1 : tuB l1 i a 0 = false := by simp [tuB, ha]
      have e2 : tuE l1 i a 0 = 2 := by simp [tuE, ha]
      rw [e2, tuv, e1, if_neg (by simp)]
      have hab := actB_false ha
      clear hi hv e1 e2 ha
      by_cases ha0 : a < 0
      · go_enter Try.func60, Try.ntmps60
        go_wp2
        go_ret
        exact RPost.same G w b _ _ _ ⟨g0, g1, g2, hr⟩
      · have ha1 : 64 ≤ a := by omega
        go_enter Try.func60, Try.ntmps60
        go_wp2
        go_ret
        exact RPost.same G w b _ _ _ ⟨g0, g1, g2, hr⟩
  | false =>
    have e1 : tuB l1 i a 0 = false := by simp [tuB, hi]
    have e2 : tuE l1 i a 0 = 2 := by simp [tuE, hi]
    rw [e2, tuv, e1, if_neg (by simp)]
    clear e1 e2
    have ho := out_of hi
    clear hi
    by_cases hneg : i < 0
    · go_enter Try.func60, Try.ntmps60
      go_wp2
      go_ret
      exact RPost.same G w b _ _ _ ⟨g0, g1, g2, hr⟩
    · have hge : (l1.length : Int) ≤ i := by omega
      go_enter Try.func60, Try.ntmps60
      go_wp2
      go_ret
      exact RPost.same G w b _ _ _ ⟨g0, g1, g2, hr⟩

set_option maxHeartbeats 1600000 in
theorem rUnlock_any (a : Int) (h : RCells b l0 l1 l2 G w) : Calls Try.prog 61 #[.pointer (some ⟨b, 0, none⟩), .int .i64 i, .int .i64 a] w (RPost G w b (Value.int .i64 (tuE l1 i a (wrap64 (a + 1)))) l0 (tuv l1 i a (wrap64 (a + 1)) 0) l2) := by
  obtain ⟨g0, g1, g2, hr⟩ := h
  have c0 : w.cell? ⟨b, 1, none⟩ = some (.slice (some ⟨g1, 0, none⟩) l1.length l1.length) := hr.blk.cell 1
  cases hi : inB l1 i with
  | true =>
    obtain ⟨v, hv⟩ := at_inB hi
    obtain ⟨h0, h1⟩ := inB_true.1 hi
    have hcell := hr.b1.ints _ _ hv
    have hz := hr.b1.frozen i.toNat
    have hgb : g1 ≠ b := hr.b1.ne_ hr.blk (by decide)
    have hgb' : b ≠ g1 := Ne.symm hgb
    cases ha : actB a with
    | true =>
      obtain ⟨ha0, ha1⟩ := actB_true.1 ha
      have hw : wrap64 (a + 1) = a + 1 := by unfold wrap64; omega
      by_cases ho : v = a + 1
      · have e1 : tuB l1 i a (wrap64 (a + 1)) = true := by simp [tuB, hi, ha, ldv_in hi hv, ho, hw]
        have e2 : tuE l1 i a (wrap64 (a + 1)) = 0 := by simp [tuE, hi, ha, ldv_in hi hv, ho, hw]
        rw [e2, tuv, e1, if_pos rfl]
        have hne : (v != a + 1) = false := by simp [ho]
        skip
        clear hi hv e1 e2 ha ho hw
        go_enter Try.func61, Try.ntmps61
        go_wp2
        go_ret
        exact RPost.set1 G w b _ _ _ hr _ _ (.inl rfl)
      · have e1 : tuB l1 i a (wrap64 (a + 1)) = false := by simp [tuB, ldv_in hi hv, ho, hw]
        have e2 : tuE l1 i a (wrap64 (a + 1)) = 110 := by simp [tuE, hi, ha, ldv_in hi hv, ho, hw]
        rw [e2, tuv, e1, if_neg (by simp)]
        have hne : (v != a + 1) = true := by simp [ho]
        clear hi hv e1 e2 ha ho hw
        go_enter Try.func61, Try.ntmps61
        go_wp2
        go_ret
        exact RPost.same G w b _ _ _ ⟨g0, g1, g2, hr⟩
    | false =>
      have e1 : tuB l1 i a (wrap64 (a + 1)) = false := by simp [tuB, ha]
      have e2 : tuE l1 i a (wrap64 (a + 1)) = 2 := by simp [tuE, ha]
      rw [e2, tuv, e1, if_neg (by simp)]
      have hab := actB_false ha
      clear hi hv e1 e2 ha
      by_cases ha0 : a < 0
      · go_enter Try.func61, Try.ntmps61
        go_wp2
        go_ret
        exact RPost.same G w b _ _ _ ⟨g0, g1, g2, hr⟩
      · have ha1 : 64 ≤ a := by omega
        go_enter Try.func61, Try.ntmps61
        go_wp2
        go_ret
        exact RPost.same G w b _ _ _ ⟨g0, g1, g2, hr⟩
  | false =>
    have e1 : tuB l1 i a (wrap64 (a + 1)) = false := by simp [tuB, hi]
    have e2 : tuE l1 i a (wrap64 (a + 1)) = 2 := by simp [tuE, hi]
    rw [e2, tuv, e1, if_neg (by simp)]
    clear e1 e2
    have ho := out_of hi
    clear hi
    by_cases hneg : i < 0
    · go_enter Try.func61, Try.ntmps61
      go_wp2
      go_ret
      exact RPost.same G w b _ _ _ ⟨g0, g1, g2, hr⟩
    · have hge : (l1.length : Int) ≤ i := by omega
      go_enter Try.func61, Try.ntmps61
      go_wp2
      go_ret
      exact RPost.same G w b _ _ _ ⟨g0, g1, g2, hr⟩

def rhov (l : List Int) (i : Int) : Int := if inB l i then wrap64 (ldv l i - 1) else -1
set_option maxHeartbeats 1600000 in
theorem rHolder_any (h : RCells b l0 l1 l2 G w) : Calls Try.prog 33 #[.pointer (some ⟨b, 0, none⟩), .int .i64 i] w (RPost G w b (Value.int .i64 (rhov l1 i)) l0 l1 l2) := by
  obtain ⟨g0, g1, g2, hr⟩ := h
  have c0 : w.cell? ⟨b, 1, none⟩ = some (.slice (some ⟨g1, 0, none⟩) l1.length l1.length) := hr.blk.cell 1
  cases hi : inB l1 i with
  | true =>
    obtain ⟨v, hv⟩ := at_inB hi
    obtain ⟨h0, h1⟩ := inB_true.1 hi
    have hcell := hr.b1.ints _ _ hv
    have hz := hr.b1.frozen i.toNat
    have hgb : g1 ≠ b := hr.b1.ne_ hr.blk (by decide)
    have hgb' : b ≠ g1 := Ne.symm hgb
    have e1 : rhov l1 i = wrap64 (v - 1) := by simp [rhov, hi, ldv_in hi hv]
    rw [e1]
    clear hi hv e1
    go_enter Try.func33, Try.ntmps33
    go_wp2
    go_ret
    exact RPost.same G w b _ _ _ ⟨g0, g1, g2, hr⟩
  | false =>
    have e1 : rhov l1 i = -1 := by simp [rhov, hi]
    rw [e1]
    clear e1
    have ho := out_of hi
    clear hi
    by_cases hneg : i < 0
    · go_enter Try.func33, Try.ntmps33
      go_wp2
      go_ret
      exact RPost.same G w b _ _ _ ⟨g0, g1, g2, hr⟩
    · have hge : (l1.length : Int) ≤ i := by omega
      go_enter Try.func33, Try.ntmps33
      go_wp2
      go_ret
      exact RPost.same G w b _ _ _ ⟨g0, g1, g2, hr⟩

set_option maxHeartbeats 1600000 in
theorem rStep_any (o : Int) (hn : ∀ x ∈ l2, 0 ≤ x) (h : RCells b l0 l1 l2 G w) : Calls Try.prog 88 #[.pointer (some ⟨b, 0, none⟩), .int .i64 i, .int .i64 o] w (RPost G w b (Value.int .i64 (spE l2 i o)) l0 l1 (spv l2 i o)) := by
  obtain ⟨g0, g1, g2, hr⟩ := h
  have c0 : w.cell? ⟨b, 2, none⟩ = some (.slice (some ⟨g2, 0, none⟩) l2.length l2.length) := hr.blk.cell 2
  cases hi : inB l2 i with
  | true =>
    obtain ⟨v, hv⟩ := at_inB hi
    obtain ⟨h0, h1⟩ := inB_true.1 hi
    have hcell := hr.b2.ints _ _ hv
    have hz := hr.b2.frozen i.toNat
    have hgb : g2 ≠ b := hr.b2.ne_ hr.blk (by decide)
    have hgb' : b ≠ g2 := Ne.symm hgb
    have hv0 : 0 ≤ v := hn v (List.mem_of_getElem? hv)
    clear hn
    have hm : v.tmod 2 = v % 2 := Int.tmod_eq_emod_of_nonneg hv0
    by_cases ho : v % 2 = o
    · have e1 : spB l2 i o = true := by simp [spB, hi, ldv_in hi hv, ho]
      have e2 : spE l2 i o = 0 := by simp [spE, hi, ldv_in hi hv, ho]
      rw [e2, spv, e1, if_pos rfl, ldv_in hi hv]
      have hne : (v % 2 != o) = false := by simp [ho]
      clear hi hv e1 e2 ho
      go_enter Try.func88, Try.ntmps88
      go_wp2
      go_region
      all_goals
        go_wp2
        go_ret
        exact RPost.set2 G w b _ _ _ hr _ _ (.inr rfl)
    · have e1 : spB l2 i o = false := by simp [spB, ldv_in hi hv, ho]
      have e2 : spE l2 i o = 111 := by simp [spE, hi, ldv_in hi hv, ho]
      rw [e2, spv, e1, if_neg (by simp)]
      have hne : (v % 2 != o) = true := by simp [ho]
      clear hi hv e1 e2 ho
      go_enter Try.func88, Try.ntmps88
      go_wp2
      go_ret
      exact RPost.same G w b _ _ _ ⟨g0, g1, g2, hr⟩
  | false =>
    have e1 : spB l2 i o = false := by simp [spB, hi]
    have e2 : spE l2 i o = 2 := by simp [spE, hi]
    rw [e2, spv, e1, if_neg (by simp)]
    clear e1 e2 hn
    have ho := out_of hi
    clear hi
    by_cases hneg : i < 0
    · go_enter Try.func88, Try.ntmps88
      go_wp2
      go_ret
      exact RPost.same G w b _ _ _ ⟨g0, g1, g2, hr⟩
    · have hge : (l2.length : Int) ≤ i := by omega
      go_enter Try.func88, Try.ntmps88
      go_wp2
      go_ret
      exact RPost.same G w b _ _ _ ⟨g0, g1, g2, hr⟩

theorem rChange_any (hn : ∀ x ∈ l2, 0 ≤ x) (h : RCells b l0 l1 l2 G w) : Calls Try.prog 62 #[.pointer (some ⟨b, 0, none⟩), .int .i64 i] w (RPost G w b (Value.int .i64 (spE l2 i 0)) l0 l1 (spv l2 i 0)) := by
  have HN := Lib.hid (rStep_any G w b l0 l1 l2 i 0 hn h)
  clear hn h
  go_enter Try.func62, Try.ntmps62
  go_wp2_with (go_at_call 88; refine HN.out.mono ?_; rintro e w1 ⟨rfl, hm, hf⟩)
  go_ret
  exact ⟨rfl, hm, hf⟩

theorem rSettle_any (hn : ∀ x ∈ l2, 0 ≤ x) (h : RCells b l0 l1 l2 G w) : Calls Try.prog 63 #[.pointer (some ⟨b, 0, none⟩), .int .i64 i] w (RPost G w b (Value.int .i64 (spE l2 i 1)) l0 l1 (spv l2 i 1)) := by
  have HN := Lib.hid (rStep_any G w b l0 l1 l2 i 1 hn h)
  clear hn h
  go_enter Try.func63, Try.ntmps63
  go_wp2_with (go_at_call 88; refine HN.out.mono ?_; rintro e w1 ⟨rfl, hm, hf⟩)
  go_ret
  exact ⟨rfl, hm, hf⟩

set_option maxHeartbeats 1600000 in
theorem rBegin_any (hn : ∀ x ∈ l2, 0 ≤ x) (h : RCells b l0 l1 l2 G w) : Calls Try.prog 91 #[.pointer (some ⟨b, 0, none⟩), .int .i64 i] w (RPost G w b (Value.tuple #[.int .i64 (bgv l2 i), .int .i64 (bgE l2 i)]) l0 l1 l2) := by
  obtain ⟨g0, g1, g2, hr⟩ := h
  have c0 : w.cell? ⟨b, 2, none⟩ = some (.slice (some ⟨g2, 0, none⟩) l2.length l2.length) := hr.blk.cell 2
  cases hi : inB l2 i with
  | true =>
    obtain ⟨v, hv⟩ := at_inB hi
    obtain ⟨h0, h1⟩ := inB_true.1 hi
    have hcell := hr.b2.ints _ _ hv
    have hz := hr.b2.frozen i.toNat
    have hgb : g2 ≠ b := hr.b2.ne_ hr.blk (by decide)
    have hgb' : b ≠ g2 := Ne.symm hgb
    have hv0 : 0 ≤ v := hn v (List.mem_of_getElem? hv)
    clear hn
    have hm : v.tmod 2 = v % 2 := Int.tmod_eq_emod_of_nonneg hv0
    by_cases ho : v % 2 = 1
    · have e2 : bgE l2 i = 111 := by simp [bgE, hi, ldv_in hi hv, ho]
      have e3 : bgv l2 i = 0 := by simp [bgv, hi, ldv_in hi hv, ho]
      rw [e2, e3]
      have hne : (v % 2 == 1) = true := by simp [ho]
      clear hi hv e2 e3 ho
      go_enter Try.func91, Try.ntmps91
      go_wp2
      go_ret2
      exact RPost.same G w b _ _ _ ⟨g0, g1, g2, hr⟩
    · have e2 : bgE l2 i = 0 := by simp [bgE, hi, ldv_in hi hv, ho]
      have e3 : bgv l2 i = v := by simp [bgv, hi, ldv_in hi hv, ho]
      rw [e2, e3]
      have hne : (v % 2 == 1) = false := by simp [ho]
      clear hi hv e2 e3 ho
      go_enter Try.func91, Try.ntmps91
      go_wp2
      go_ret2
      exact RPost.same G w b _ _ _ ⟨g0, g1, g2, hr⟩
  | false =>
    have e2 : bgE l2 i = 2 := by simp [bgE, hi]
    have e3 : bgv l2 i = 0 := by simp [bgv, hi]
    rw [e2, e3]
    clear e2 e3 hn
    have ho := out_of hi
    clear hi
    by_cases hneg : i < 0
    · go_enter Try.func91, Try.ntmps91
      go_wp2
      go_ret2
      exact RPost.same G w b _ _ _ ⟨g0, g1, g2, hr⟩
    · have hge : (l2.length : Int) ≤ i := by omega
      go_enter Try.func91, Try.ntmps91
      go_wp2
      go_ret2
      exact RPost.same G w b _ _ _ ⟨g0, g1, g2, hr⟩

set_option maxHeartbeats 1600000 in
theorem rEnd_any (a : Int) (h : RCells b l0 l1 l2 G w) : Calls Try.prog 92 #[.pointer (some ⟨b, 0, none⟩), .int .i64 i, .int .i64 a] w (RPost G w b (Value.tuple #[.bool (enB l2 i a), .int .i64 (er l2 i)]) l0 l1 l2) := by
  obtain ⟨g0, g1, g2, hr⟩ := h
  have c0 : w.cell? ⟨b, 2, none⟩ = some (.slice (some ⟨g2, 0, none⟩) l2.length l2.length) := hr.blk.cell 2
  cases hi : inB l2 i with
  | true =>
    obtain ⟨v, hv⟩ := at_inB hi
    obtain ⟨h0, h1⟩ := inB_true.1 hi
    have hcell := hr.b2.ints _ _ hv
    have hz := hr.b2.frozen i.toNat
    have hgb : g2 ≠ b := hr.b2.ne_ hr.blk (by decide)
    have hgb' : b ≠ g2 := Ne.symm hgb
    have e3 : enB l2 i a = (v == a) := by simp [enB, hi, ldv_in hi hv]
    rw [er_in hi, e3]
    clear hi hv e3
    go_enter Try.func92, Try.ntmps92
    go_wp2
    go_ret2
    exact RPost.same G w b _ _ _ ⟨g0, g1, g2, hr⟩
  | false =>
    have e3 : enB l2 i a = false := by simp [enB, hi]
    rw [er_out hi, e3]
    clear e3
    have ho := out_of hi
    clear hi
    by_cases hneg : i < 0
    · go_enter Try.func92, Try.ntmps92
      go_wp2
      go_ret2
      exact RPost.same G w b _ _ _ ⟨g0, g1, g2, hr⟩
    · have hge : (l2.length : Int) ≤ i := by omega
      go_enter Try.func92, Try.ntmps92
      go_wp2
      go_ret2
      exact RPost.same G w b _ _ _ ⟨g0, g1, g2, hr⟩

end

end Go.Proofs.Ytkilibdalgnghaa
