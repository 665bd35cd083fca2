/-
  The law CellsApart, walked.
-/
import Derived.Test.YtkilibdalgnghaaLaw11
import Derived.Test.YtkilibdalgnghaaPlain11
namespace Go.Proofs.Ytkilibdalgnghaa
open Go.RowKit Go.Shelf

set_option maxRecDepth 100000 in
set_option maxHeartbeats 3200000 in
theorem apart_any (i k v a : Int) (w : World) : Calls Try.prog 6 #[.int .i64 i, .int .i64 k, .int .i64 v, .int .i64 a] w fun e w' => e = .returned (.bool true) ∧ Fr no w w' := by
  by_cases h1 : i < 0
  · go_enter Try.func6, Try.ntmps6
    go_wp2_with (go_at_call 17; refine (shown_any _).mono ?_; rintro e w0 ⟨rfl, hf0⟩)
    go_ret
    exact ⟨rfl, hf0⟩
  by_cases h2 : 19 < i
  · go_enter Try.func6, Try.ntmps6
    go_wp2_with (go_at_call 17; refine (shown_any _).mono ?_; rintro e w0 ⟨rfl, hf0⟩)
    go_ret
    exact ⟨rfl, hf0⟩
  by_cases h3 : k < 0
  · go_enter Try.func6, Try.ntmps6
    go_wp2_with (go_at_call 17; refine (shown_any _).mono ?_; rintro e w0 ⟨rfl, hf0⟩)
    go_ret
    exact ⟨rfl, hf0⟩
  by_cases h4 : 19 < k
  · go_enter Try.func6, Try.ntmps6
    go_wp2_with (go_at_call 17; refine (shown_any _).mono ?_; rintro e w0 ⟨rfl, hf0⟩)
    go_ret
    exact ⟨rfl, hf0⟩
  by_cases h5 : i = k
  · have h5' : (i == k) = true := by simp [h5]
    clear h5
    go_enter Try.func6, Try.ntmps6
    go_wp2_with (go_at_call 17; refine (shown_any _).mono ?_; rintro e w0 ⟨rfl, hf0⟩)
    go_ret
    exact ⟨rfl, hf0⟩
  have h5' : (i == k) = false := by simp [h5]
  by_cases h6 : a < 0
  · go_enter Try.func6, Try.ntmps6
    go_wp2_with (go_at_call 17; refine (shown_any _).mono ?_; rintro e w0 ⟨rfl, hf0⟩)
    go_ret
    exact ⟨rfl, hf0⟩
  by_cases h7 : 63 < a
  · go_enter Try.func6, Try.ntmps6
    go_wp2_with (go_at_call 17; refine (shown_any _).mono ?_; rintro e w0 ⟨rfl, hf0⟩)
    go_ret
    exact ⟨rfl, hf0⟩
  have hi : inB (rep0 20) i = true := inB_rep0 (by omega) (by omega)
  have hk : inB (rep0 20) k = true := inB_rep0 (by omega) (by omega)
  have hik : i.toNat ≠ k.toNat := by omega
  have ha : actB a = true := actB_true.2 ⟨by omega, by omega⟩
  have e1 : Hid (Value.int .i64 (er (rep0 20) i) = .int .i64 0) := by show _ = _; rw [er_in hi]
  have e2 : Hid (Value.int .i64 (tuE (rep0 20) i a 0) = .int .i64 0) := by show _ = _; simp [tuE, hi, ha, ldv_rep0]
  have e3 : Hid (Value.int .i64 (spE (rep0 20) i 0) = .int .i64 0) := by show _ = _; simp [spE, hi, ldv_rep0]
  have e4 : Hid (Value.tuple #[.int .i64 (ldv (stv (rep0 20) i v) k), .int .i64 (er (stv (rep0 20) i v) k)] = .tuple #[.int .i64 0, .int .i64 0]) := by
    show _ = _
    rw [ldv_stv_ne hik, ldv_rep0, er_in (by rw [inB_stv]; exact hk)]
  have e5 : Hid (Value.tuple #[.int .i64 (bgv (spv (rep0 20) i 0) k), .int .i64 (bgE (spv (rep0 20) i 0) k)] = .tuple #[.int .i64 0, .int .i64 0]) := by
    show _ = _
    simp [bgv, bgE, inB_spv, hk, ldv_spv_ne hik, ldv_rep0]
  have e6 : Hid (Value.int .i64 (hov (tuv (rep0 20) i a 0 (wrap64 (a + 1))) k) = .int .i64 (-1)) := by
    show _ = _
    simp [hov, ldv_tuv_ne hik, ldv_rep0]
  have e7 : Hid (Value.int .i64 (tuE (tuv (rep0 20) i a 0 (wrap64 (a + 1))) k a 0) = .int .i64 0) := by
    show _ = _
    simp [tuE, inB_tuv, hk, ha, ldv_tuv_ne hik, ldv_rep0]
  clear h5 hi hk hik ha
  go_enter Try.func6, Try.ntmps6
  go_wp2_with (go_at_call 17; refine (shown_any _).mono ?_; rintro e w0 ⟨rfl, hf0⟩)
  refine (cNew_ok 20 20 20 _ (by omega) (by omega) (by omega)).mono ?_
  rintro e w1 hn
  obtain ⟨c, rfl, hs1⟩ := hn.st
  clear hn
  go_wp2_with fail
  refine (hs1.store i v e1.out).mono ?_
  rintro e w2 ⟨rfl, hs2⟩
  go_wp2_with fail
  refine (hs2.lock i a e2.out).mono ?_
  rintro e w3 ⟨rfl, hs3⟩
  go_wp2_with fail
  refine (hs3.change i e3.out).mono ?_
  rintro e w4 ⟨rfl, hs4⟩
  go_wp2_with fail
  refine (hs4.load k e4.out).mono ?_
  rintro e w5 ⟨rfl, hs5⟩
  go_wp2_with fail
  refine (hs5.begin_ k e5.out).mono ?_
  rintro e w6 ⟨rfl, hs6⟩
  go_wp2_with fail
  refine (hs6.holder k e6.out).mono ?_
  rintro e w7 ⟨rfl, hs7⟩
  go_wp2_with fail
  refine (hs7.lock k a e7.out).mono ?_
  rintro e w8 ⟨rfl, hs8⟩
  go_wp2
  go_ret
  exact ⟨rfl, hf0.trans' hs8.fr⟩

end Go.Proofs.Ytkilibdalgnghaa
