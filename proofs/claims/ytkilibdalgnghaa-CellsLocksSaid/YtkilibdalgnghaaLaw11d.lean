/-
  The law CellsLocks, walked.
-/
import Derived.Test.YtkilibdalgnghaaLaw11
import Derived.Test.YtkilibdalgnghaaPlain11
import Derived.Test.YtkilibdalgnghaaArgs
namespace Go.Proofs.Ytkilibdalgnghaa
open Go.RowKit Go.Shelf

/-- The lock's cell, told by who holds it. -/
def lk (h : Int) : List Int := [h + 1]

theorem hov_lk (q : Int) (h1 : -1 ≤ q) (h2 : q < 64) : hov (lk q) 0 = q := by
  have h : ldv (lk q) 0 = q + 1 := by simp [lk, ldv, inB]
  unfold hov
  rw [h]
  split
  · unfold wrap64; omega
  · omega
theorem tuE_lk (q a o : Int) : tuE (lk q) 0 a o = if actB a then (if q + 1 == o then 0 else 110) else 2 := by simp [tuE, lk, inB, ldv]
theorem tuv_lk (q a o u : Int) : tuv (lk q) 0 a o u = if actB a && (q + 1 == o) then [u] else lk q := by simp [tuv, tuB, lk, inB, ldv]
theorem unlock_yes (a : Int) (h0 : 0 ≤ a) (h1 : a < 64) : Value.int .i64 (tuE (lk a) 0 a (wrap64 (a + 1))) = .int .i64 0 ∧ tuv (lk a) 0 a (wrap64 (a + 1)) 0 = lk (-1) := by
  have hw : wrap64 (a + 1) = a + 1 := by unfold wrap64; omega
  have ha : actB a = true := actB_true.2 ⟨h0, h1⟩
  rw [tuE_lk, tuv_lk, hw, ha]
  simp [lk]
theorem unlock_no (q a : Int) (h0 : 0 ≤ a) (h1 : a < 64) (hq : ¬ q = a) : Value.int .i64 (tuE (lk q) 0 a (wrap64 (a + 1))) = .int .i64 110 ∧ tuv (lk q) 0 a (wrap64 (a + 1)) 0 = lk q := by
  have hw : wrap64 (a + 1) = a + 1 := by unfold wrap64; omega
  have ha : actB a = true := actB_true.2 ⟨h0, h1⟩
  have hne : (q + 1 == a + 1) = false := by simp; omega
  rw [tuE_lk, tuv_lk, hw, ha, hne]
  simp
theorem lock_yes (a : Int) (h0 : 0 ≤ a) (h1 : a < 64) : Value.int .i64 (tuE (lk (-1)) 0 a 0) = .int .i64 0 ∧ tuv (lk (-1)) 0 a 0 (wrap64 (a + 1)) = lk a := by
  have hw : wrap64 (a + 1) = a + 1 := by unfold wrap64; omega
  have ha : actB a = true := actB_true.2 ⟨h0, h1⟩
  rw [tuE_lk, tuv_lk, hw, ha]
  simp [lk]
theorem lock_no (q a : Int) (h0 : 0 ≤ a) (h1 : a < 64) (hq : 0 ≤ q) : Value.int .i64 (tuE (lk q) 0 a 0) = .int .i64 110 ∧ tuv (lk q) 0 a 0 (wrap64 (a + 1)) = lk q := by
  have ha : actB a = true := actB_true.2 ⟨h0, h1⟩
  have hne : (q + 1 == 0) = false := by simp; omega
  rw [tuE_lk, tuv_lk, ha, hne]
  simp
theorem turn_bad (q a o u : Int) (h : a < 0 ∨ 64 ≤ a) : Value.int .i64 (tuE (lk q) 0 a o) = .int .i64 2 ∧ tuv (lk q) 0 a o u = lk q := by
  have ha : actB a = false := by
    cases hh : actB a with
    | false => rfl
    | true => have := actB_true.1 hh; omega
  rw [tuE_lk, tuv_lk, ha]
  simp

set_option maxRecDepth 100000 in
set_option maxHeartbeats 6400000 in
theorem locks_any (A : Option Addr) (n c : Nat) (f : Nat → Nat → Int) (w : World) (hr : RowsAt w w.heap.size 5 A n (int5 f)) :
    Calls Try.prog 3 #[.slice A n c] w fun e w' => e = .returned (.bool true) ∧ Fr no w w' := by
  have hn := hr.small
  have HR := Lib.hid hr
  clear hr
  go_enter Try.func3, Try.ntmps3
  go_wp2_with (go_at_call 17; refine (shown_any _).mono ?_; rintro e w0 ⟨rfl, hf0⟩)
  refine (cNew_ok 0 1 0 _ (by omega) (by omega) (by omega)).mono ?_
  rintro e w1 hn
  obtain ⟨b, rfl, hs1⟩ := hn.st
  clear hn
  go_wp2
  go_loopw [6, 7] (fun h i wr => ∃ (k : Nat) (q : Int), k ≤ n ∧ k ≤ 80 ∧ i = .int .i64 k ∧ h = .int .i64 q ∧ -1 ≤ q ∧ q < 64 ∧ CSt no w0 b (rep0 0) (lk q) (rep0 0) wr) (fun _ i _ => n - (intOf i).toNat)
  case atStart => exact ⟨0, -1, Nat.zero_le _, by omega, rfl, rfl, by omega, by omega, hs1⟩
  case round =>
    obtain ⟨k, q, hk, hk80, rfl, rfl, hq1, hq2, hs2⟩ := hrel
    clear hs1
    by_cases hlt : k < n
    · by_cases hlt8 : k < 80
      · have hrk := HR.out.keep (hf0.is_below.trans (hs2.fr.is_below.mono hf0.size))
        obtain ⟨g, o, rfl, hg, hc⟩ := hrk.at_ (by omega)
        have hA : wr.cell? ⟨g, o + k * 5 + 2, none⟩ = some (.int .i64 (f k 2)) := hc k 2 hlt (by omega)
        have hD : wr.cell? ⟨g, o + k * 5, none⟩ = some (.int .i64 (f k 0)) := hc k 0 hlt (by omega)
        clear hc hrk
        generalize f k 2 = a at *
        generalize f k 0 = d at *
        by_cases hd : d.tmod 2 = 0
        · have hd' : (d.tmod 2 != 0) = false := by simp [hd]
          clear hd
          by_cases h0 : 0 ≤ a
          · by_cases h1 : a < 64
            · by_cases hq : 0 ≤ q
              · have e := Lib.hid (lock_no q a h0 h1 hq)
                have e2 : Hid (Value.int .i64 (hov (lk (q)) 0) = .int .i64 (q)) := by show _ = _; rw [hov_lk _ (by omega) (by omega)]
                go_wp2_with fail
                refine (hs2.lock 0 a e.out.1 rfl e.out.2).mono ?_
                rintro e w3 ⟨rfl, hs3⟩
                go_wp2_with fail
                refine (hs3.holder 0 e2.out).mono ?_
                rintro e w4 ⟨rfl, hs4⟩
                go_wp2
                all_goals
                  go_roundw
                  case rel => exact ⟨k + 1, q, by omega, by omega, by go_num, rfl, by omega, by omega, hs4⟩
                  case measure => simp [intOf]; omega
              · obtain rfl : q = -1 := by omega
                clear hq
                have e := Lib.hid (lock_yes a h0 h1)
                have e2 : Hid (Value.int .i64 (hov (lk (a)) 0) = .int .i64 (a)) := by show _ = _; rw [hov_lk _ (by omega) (by omega)]
                go_wp2_with fail
                refine (hs2.lock 0 a e.out.1 rfl e.out.2).mono ?_
                rintro e w3 ⟨rfl, hs3⟩
                go_wp2_with fail
                refine (hs3.holder 0 e2.out).mono ?_
                rintro e w4 ⟨rfl, hs4⟩
                go_wp2
                all_goals
                  go_roundw
                  case rel => exact ⟨k + 1, a, by omega, by omega, by go_num, rfl, by omega, by omega, hs4⟩
                  case measure => simp [intOf]; omega
            · have h1' : 64 ≤ a := by omega
              have e := Lib.hid (turn_bad q a 0 (wrap64 (a + 1)) (.inr h1'))
              have e2 : Hid (Value.int .i64 (hov (lk (q)) 0) = .int .i64 (q)) := by show _ = _; rw [hov_lk _ (by omega) (by omega)]
              go_wp2_with fail
              refine (hs2.lock 0 a e.out.1 rfl e.out.2).mono ?_
              rintro e w3 ⟨rfl, hs3⟩
              go_wp2_with fail
              refine (hs3.holder 0 e2.out).mono ?_
              rintro e w4 ⟨rfl, hs4⟩
              go_wp2
              all_goals
                go_roundw
                case rel => exact ⟨k + 1, q, by omega, by omega, by go_num, rfl, by omega, by omega, hs4⟩
                case measure => simp [intOf]; omega
          · have h0' : a < 0 := by omega
            have e := Lib.hid (turn_bad q a 0 (wrap64 (a + 1)) (.inl h0'))
            have e2 : Hid (Value.int .i64 (hov (lk (q)) 0) = .int .i64 (q)) := by show _ = _; rw [hov_lk _ (by omega) (by omega)]
            go_wp2_with fail
            refine (hs2.lock 0 a e.out.1 rfl e.out.2).mono ?_
            rintro e w3 ⟨rfl, hs3⟩
            go_wp2_with fail
            refine (hs3.holder 0 e2.out).mono ?_
            rintro e w4 ⟨rfl, hs4⟩
            go_wp2
            all_goals
              go_roundw
              case rel => exact ⟨k + 1, q, by omega, by omega, by go_num, rfl, by omega, by omega, hs4⟩
              case measure => simp [intOf]; omega
        · have hd' : (d.tmod 2 != 0) = true := by simp [hd]
          clear hd
          by_cases h0 : 0 ≤ a
          · by_cases h1 : a < 64
            · by_cases hq : q = a
              · subst hq
                have hqq : (q == q) = true := by simp
                have e := Lib.hid (unlock_yes q h0 h1)
                have e2 : Hid (Value.int .i64 (hov (lk (-1)) 0) = .int .i64 (-1)) := by show _ = _; rw [hov_lk _ (by omega) (by omega)]
                go_wp2_with fail
                refine (hs2.unlock 0 q e.out.1 rfl e.out.2).mono ?_
                rintro e w3 ⟨rfl, hs3⟩
                go_wp2_with fail
                refine (hs3.holder 0 e2.out).mono ?_
                rintro e w4 ⟨rfl, hs4⟩
                go_wp2
                all_goals
                  go_roundw
                  case rel => exact ⟨k + 1, -1, by omega, by omega, by go_num, rfl, by omega, by omega, hs4⟩
                  case measure => simp [intOf]; omega
              · have hqq : (q == a) = false := by simp [hq]
                have e := Lib.hid (unlock_no q a h0 h1 hq)
                have e2 : Hid (Value.int .i64 (hov (lk (q)) 0) = .int .i64 (q)) := by show _ = _; rw [hov_lk _ (by omega) (by omega)]
                clear hq
                go_wp2_with fail
                refine (hs2.unlock 0 a e.out.1 rfl e.out.2).mono ?_
                rintro e w3 ⟨rfl, hs3⟩
                go_wp2_with fail
                refine (hs3.holder 0 e2.out).mono ?_
                rintro e w4 ⟨rfl, hs4⟩
                go_wp2
                all_goals
                  go_roundw
                  case rel => exact ⟨k + 1, q, by omega, by omega, by go_num, rfl, by omega, by omega, hs4⟩
                  case measure => simp [intOf]; omega
            · have h1' : 64 ≤ a := by omega
              have e := Lib.hid (turn_bad q a (wrap64 (a + 1)) 0 (.inr h1'))
              have e2 : Hid (Value.int .i64 (hov (lk (q)) 0) = .int .i64 (q)) := by show _ = _; rw [hov_lk _ (by omega) (by omega)]
              go_wp2_with fail
              refine (hs2.unlock 0 a e.out.1 rfl e.out.2).mono ?_
              rintro e w3 ⟨rfl, hs3⟩
              go_wp2_with fail
              refine (hs3.holder 0 e2.out).mono ?_
              rintro e w4 ⟨rfl, hs4⟩
              go_wp2
              all_goals
                go_roundw
                case rel => exact ⟨k + 1, q, by omega, by omega, by go_num, rfl, by omega, by omega, hs4⟩
                case measure => simp [intOf]; omega
          · have h0' : a < 0 := by omega
            have e := Lib.hid (turn_bad q a (wrap64 (a + 1)) 0 (.inl h0'))
            have e2 : Hid (Value.int .i64 (hov (lk (q)) 0) = .int .i64 (q)) := by show _ = _; rw [hov_lk _ (by omega) (by omega)]
            go_wp2_with fail
            refine (hs2.unlock 0 a e.out.1 rfl e.out.2).mono ?_
            rintro e w3 ⟨rfl, hs3⟩
            go_wp2_with fail
            refine (hs3.holder 0 e2.out).mono ?_
            rintro e w4 ⟨rfl, hs4⟩
            go_wp2
            all_goals
              go_roundw
              case rel => exact ⟨k + 1, q, by omega, by omega, by go_num, rfl, by omega, by omega, hs4⟩
              case measure => simp [intOf]; omega
      · have h80' : 80 ≤ k := by omega
        go_wp2
        go_ret
        exact ⟨rfl, hf0.trans' hs2.fr⟩
    · go_wp2
      go_ret
      exact ⟨rfl, hf0.trans' hs2.fr⟩

end Go.Proofs.Ytkilibdalgnghaa
