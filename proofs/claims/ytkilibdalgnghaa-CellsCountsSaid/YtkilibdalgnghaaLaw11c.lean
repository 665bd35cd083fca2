/-
  The law CellsCounts, walked.
-/
import Derived.Test.YtkilibdalgnghaaLaw11
import Derived.Test.YtkilibdalgnghaaPlain11
namespace Go.Proofs.Ytkilibdalgnghaa
open Go.RowKit Go.Shelf

def twos (k : Nat) : List Int := [0, 2 * k]
theorem twos_next (k : Nat) : twos (k + 1) = [0, 2 * (k : Int) + 2] := by
  have : (2 : Int) * ((k + 1 : Nat) : Int) = 2 * (k : Int) + 2 := by omega
  simp only [twos, this]
def halves (k : Nat) : List Int := [0, 2 * k + 1]
theorem c1 (k : Nat) (hk : k ≤ 100) : spE (twos k) 1 0 = 0 ∧ spv (twos k) 1 0 = halves k := by
  have h : (2 * (k : Int)) % 2 = 0 := by omega
  have h' : wrap64 (2 * (k : Int) + 1) = 2 * (k : Int) + 1 := by unfold wrap64; omega
  constructor
  · simp [spE, twos, inB, ldv]
  · simp [spv, spB, twos, inB, ldv, halves, h']
theorem c2 (k : Nat) : bgv (halves k) 1 = 0 ∧ bgE (halves k) 1 = 111 := by
  have h : (2 * (k : Int) + 1) % 2 = 1 := by omega
  constructor
  · simp [bgv, halves, inB, ldv, h]
  · simp [bgE, halves, inB, ldv, h]
theorem c3 (k : Nat) : spE (halves k) 1 0 = 111 ∧ spv (halves k) 1 0 = halves k := by
  have h : (2 * (k : Int) + 1) % 2 = 1 := by omega
  constructor
  · simp [spE, halves, inB, ldv, h]
  · simp [spv, spB, halves, inB, ldv, h]
theorem c4 (k : Nat) (hk : k ≤ 100) : spE (halves k) 1 1 = 0 ∧ spv (halves k) 1 1 = twos (k + 1) := by
  have h : (2 * (k : Int) + 1) % 2 = 1 := by omega
  have h' : wrap64 (2 * (k : Int) + 1 + 1) = 2 * (k : Int) + 2 := by unfold wrap64; omega
  constructor
  · simp [spE, halves, inB, ldv, h]
  · rw [twos_next]
    simp [spv, spB, halves, inB, ldv, h, h']
theorem c5 (k : Nat) : bgv (twos k) 1 = 2 * k ∧ bgE (twos k) 1 = 0 := by
  constructor
  · simp [bgv, twos, inB, ldv]
  · simp [bgE, twos, inB, ldv]
theorem c6 (k : Nat) : enB (twos k) 1 (2 * k) = true ∧ er (twos k) 1 = 0 ∧ enB (twos k) 0 1 = false ∧ er (twos k) 0 = 0 := by
  simp [enB, er, twos, inB, ldv]
theorem c7 (k : Nat) : spE (twos k) 1 1 = 111 ∧ spv (twos k) 1 1 = twos k := by
  constructor
  · simp [spE, twos, inB, ldv]
  · simp [spv, spB, twos, inB, ldv]

set_option maxRecDepth 100000 in
set_option maxHeartbeats 3200000 in
theorem counts_any (n : Int) (w : World) : Calls Try.prog 5 #[.int .i64 n] w fun e w' => e = .returned (.bool true) ∧ Fr no w w' := by
  by_cases h1 : n < 0
  · go_enter Try.func5, Try.ntmps5
    go_wp2_with (go_at_call 17; refine (shown_any _).mono ?_; rintro e w0 ⟨rfl, hf0⟩)
    go_ret
    exact ⟨rfl, hf0⟩
  by_cases h2 : 100 < n
  · go_enter Try.func5, Try.ntmps5
    go_wp2_with (go_at_call 17; refine (shown_any _).mono ?_; rintro e w0 ⟨rfl, hf0⟩)
    go_ret
    exact ⟨rfl, hf0⟩
  obtain ⟨m, rfl⟩ := Int.eq_ofNat_of_zero_le (by omega : 0 ≤ n)
  have hm : m ≤ 100 := by omega
  go_enter Try.func5, Try.ntmps5
  go_wp2_with (go_at_call 17; refine (shown_any _).mono ?_; rintro e w0 ⟨rfl, hf0⟩)
  refine (cNew_ok 0 0 2 _ (by omega) (by omega) (by omega)).mono ?_
  rintro e w1 hn
  obtain ⟨c, rfl, hs1⟩ := hn.st
  clear hn
  go_wp2
  go_loopw [6] (fun i wr => ∃ k : Nat, k ≤ m ∧ i = .int .i64 k ∧ CSt no w0 c (rep0 0) (rep0 0) (twos k) wr) (fun i _ => m - (intOf i).toNat)
  case atStart => exact ⟨0, Nat.zero_le _, rfl, hs1⟩
  case round =>
    obtain ⟨k, hk, rfl, hs2⟩ := hrel
    clear hs1
    by_cases hlt : k < m
    · have d1 := Lib.hid (c1 k (by omega))
      have d2 := Lib.hid (c2 k)
      have d3 := Lib.hid (c3 k)
      have d4 := Lib.hid (c4 k (by omega))
      go_wp2_with fail
      refine (hs2.change 1 (r := .int .i64 0) (m2 := halves k) (by rw [d1.out.1]) rfl rfl d1.out.2).mono ?_
      rintro e w3 ⟨rfl, hs3⟩
      go_wp2_with fail
      refine (hs3.begin_ 1 (r := .tuple #[.int .i64 0, .int .i64 111]) (by rw [d2.out.1, d2.out.2])).mono ?_
      rintro e w4 ⟨rfl, hs4⟩
      go_wp2_with fail
      refine (hs4.change 1 (r := .int .i64 111) (m2 := halves k) (by rw [d3.out.1]) rfl rfl d3.out.2).mono ?_
      rintro e w5 ⟨rfl, hs5⟩
      go_wp2_with fail
      refine (hs5.settle 1 (r := .int .i64 0) (m2 := twos (k + 1)) (by rw [d4.out.1]) rfl rfl d4.out.2).mono ?_
      rintro e w6 ⟨rfl, hs6⟩
      go_wp2
      go_roundw
      case rel => exact ⟨k + 1, by omega, by go_num, hs6⟩
      case measure => simp [intOf]; omega
    · obtain rfl : k = m := by omega
      have d5 := Lib.hid (c5 k)
      have d6 := Lib.hid (c6 k)
      have d7 := Lib.hid (c7 k)
      go_wp2_with fail
      refine (hs2.begin_ 1 (r := .tuple #[.int .i64 (2 * k), .int .i64 0]) (by rw [d5.out.1, d5.out.2])).mono ?_
      rintro e w3 ⟨rfl, hs3⟩
      go_wp2_with fail
      refine (hs3.end_ 1 (2 * k) (r := .tuple #[.bool true, .int .i64 0]) (by rw [d6.out.1, d6.out.2.1])).mono ?_
      rintro e w4 ⟨rfl, hs4⟩
      go_wp2_with fail
      refine (hs4.end_ 0 1 (r := .tuple #[.bool false, .int .i64 0]) (by rw [d6.out.2.2.1, d6.out.2.2.2])).mono ?_
      rintro e w5 ⟨rfl, hs5⟩
      go_wp2_with fail
      refine (hs5.settle 1 (r := .int .i64 111) (m2 := twos k) (by rw [d7.out.1]) rfl rfl d7.out.2).mono ?_
      rintro e w6 ⟨rfl, hs6⟩
      go_wp2
      go_ret
      exact ⟨rfl, hf0.trans' hs6.fr⟩

end Go.Proofs.Ytkilibdalgnghaa
