/-
  The tally's all: an iterator that reads.
-/
import Derived.Test.YtkilibdalgnghaaTally6
namespace Go.Proofs.Ytkilibdalgnghaa
set_option linter.unusedVariables false
set_option linter.unusedSimpArgs false
open Go.RowKit Go.Shelf
attribute [local go_sem] Oper.semAt_some

theorem tAll_any (tb : Nat) (w : World) : Calls Try.prog 66 #[.pointer (some ⟨tb, 0, none⟩)] w fun e w' => e = .returned (.func (.func 93) #[] #[.pointer (some ⟨w.heap.size, 0, none⟩)]) ∧ w' = w.alloc (.cells #[.pointer (some ⟨tb, 0, none⟩)] 51) := by
  go_enter Try.func66, Try.ntmps66
  go_wp2
  go_ret
  exact ⟨rfl, rfl⟩

/-- all's iterator, at whatever round keeps J. -/
theorem all_iter (B bc tb cb q : Nat) (c : Nat → Nat → Int) (x : Nat → Int) (J : Nat → World → Prop) (X : World → Prop) (hq : q ≤ 64)
    (hJ : ∀ k W, J k W → W.cell? ⟨bc, 0, none⟩ = some (.pointer (some ⟨tb, 0, none⟩)) ∧ W.cell? ⟨tb, 1, none⟩ = some (.int .i64 q))
    (hY : ∀ k W, J k W → k < q → Calls Try.prog 39 #[.pointer (some ⟨tb, 0, none⟩), .int .i64 k] W fun e W1 => e = .returned (.tuple #[.agg (six (c k)), .int .i64 (x k)]) ∧
      Yields Try.prog B #[.agg (six (c k)), .int .i64 (x k)] W1 fun r W' => if r then J (k + 1) W' else X W')
    (W : World) (h0 : J 0 W) :
    CallsIn FW 0 Try.prog 93 #[.func (.yield (B + 1)) #[] #[], .pointer (some ⟨bc, 0, none⟩)] W fun e W' => e = .returned (.tuple #[]) ∧ (J q W' ∨ X W') := by
  have hfw := fw_fn
  have hfd := fw_depth
  have HJ := Lib.hid hJ
  have HY := Lib.hid hY
  clear hJ hY
  refine callsIn_of_wp Try.func93 rfl trivial ?_ rfl
  simp only [Try.ntmps93, List.size_toArray, List.length_cons, List.length_nil, Nat.reduceAdd, Nat.reduceSub, Array.replicate_succ, Array.replicate_zero, List.push_toArray, List.append_toArray, List.nil_append, List.cons_append]
  obtain ⟨hc1, hc2⟩ := HJ.out 0 W h0
  gi_wp2
  gi_loopw [8] (fun p wr => ∃ k : Nat, k ≤ q ∧ p = .int .i64 k ∧ J k wr) (fun p _ => q - (intOf p).toNat)
  case atStart => exact ⟨0, Nat.zero_le _, rfl, h0⟩
  case round =>
    obtain ⟨k, hk, rfl, hj⟩ := hrel
    clear hc1 hc2 h0
    by_cases hlt : k < q
    · obtain ⟨d1, d2⟩ := HJ.out k wr hj
      have HC := Lib.hid (HY.out k wr hj hlt)
      gi_wp2_with (gi_at_call 39; refine (callsIn_wide.2 HC.out).mono ?_; rintro e w2 ⟨rfl, hy1⟩; obtain ⟨fn, tmps, assign, body, hy, hR⟩ := hy1)
      refine hR.mono ?_
      rintro e W3 ⟨r, rfl, hr⟩
      have HR := Lib.hid hr
      clear hr
      cases r with
      | true =>
        have hJ3 : J (k + 1) W3 := HR.out
        gi_wp2
        go_roundw
        case rel => exact ⟨k + 1, by omega, by go_num, hJ3⟩
        case measure => simp [intOf]; omega
      | false =>
        have hX3 : X W3 := HR.out
        gi_wp2
        refine bodyPost_ret (results_none rfl _ _ _) rfl ⟨rfl, .inr hX3⟩
    · obtain rfl : k = q := by omega
      gi_wp2
      go_end0
      exact ⟨rfl, .inl hj⟩
end Go.Proofs.Ytkilibdalgnghaa
