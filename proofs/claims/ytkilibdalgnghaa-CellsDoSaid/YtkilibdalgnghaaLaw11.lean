/-
  The laws of cells, walked: shown, and the first laws.
-/
import Derived.Test.YtkilibdalgnghaaCells4
namespace Go.Proofs.Ytkilibdalgnghaa
set_option linter.unusedVariables false
set_option linter.unusedSimpArgs false
open Go.RowKit Go.Shelf

set_option maxHeartbeats 1600000 in
theorem shown_any (w : World) : Calls Try.prog 17 #[] w fun e w' => e = .returned (.bool true) ∧ Fr no w w' := by
  go_enter Try.func17, Try.ntmps17
  go_wp2_with (go_at_call 18; refine (cNew_ok 1 1 1 _ (by omega) (by omega) (by omega)).mono ?_; rintro e w1 hn; obtain ⟨b, rfl, hs1⟩ := hn.st; clear hn)
  refine (hs1.lock 0 3 (r := .int .i64 0) (m1 := [4])).mono ?_
  rintro e w2 ⟨rfl, hs2⟩
  go_wp2_with fail
  refine (hs2.lock 0 4 (r := .int .i64 110) (m1 := [4])).mono ?_
  rintro e w3 ⟨rfl, hs3⟩
  go_wp2_with fail
  refine (hs3.unlock 0 4 (r := .int .i64 110) (m1 := [4])).mono ?_
  rintro e w4 ⟨rfl, hs4⟩
  go_wp2_with fail
  refine (hs4.unlock 0 3 (r := .int .i64 0) (m1 := [0])).mono ?_
  rintro e w5 ⟨rfl, hs5⟩
  go_wp2_with fail
  refine (cNew_bad (-1) 0 0 w5 rfl).mono ?_
  rintro e w6 ⟨rfl, hf6⟩
  have hs6 := hs5.frame hf6 (fun k _ => no_not k) (fun k hk => hk.elim)
  go_wp2_with fail
  refine (hs6.holder 0 (r := .int .i64 (-1))).mono ?_
  rintro e w7 ⟨rfl, hs7⟩
  go_wp2
  go_ret
  exact ⟨rfl, hs7.fr⟩

theorem wrap_neg (n : Int) : wrap64 (n + wrap64 (-n)) = 0 := by unfold wrap64; omega

set_option maxRecDepth 100000 in
set_option maxHeartbeats 3200000 in
theorem swaps_any (a b v : Int) (w : World) : Calls Try.prog 4 #[.int .i64 a, .int .i64 b, .int .i64 v] w fun e w' => e = .returned (.bool true) ∧ Fr no w w' := by
  have key : Hid (∀ n : Int, adv [0, n, 0] 1 (wrap64 (-n)) = 0) := fun n => by
    have : adv [0, n, 0] 1 (wrap64 (-n)) = wrap64 (n + wrap64 (-n)) := rfl
    rw [this, wrap_neg]
  by_cases hab : a = b
  · subst hab
    go_enter Try.func4, Try.ntmps4
    go_wp2_with (go_at_call 17; refine (shown_any _).mono ?_; rintro e w0 ⟨rfl, hf0⟩)
    refine (cNew_ok 3 0 0 _ (by omega) (by omega) (by omega)).mono ?_
    rintro e w1 hn
    obtain ⟨c, rfl, hs1⟩ := hn.st
    clear hn
    go_wp2_with fail
    refine (hs1.store 1 a (r := .int .i64 0) (m0 := [0, a, 0])).mono ?_
    rintro e w2 ⟨rfl, hs2⟩
    go_wp2_with fail
    refine (hs2.swap 1 a v (r := .tuple #[.bool true, .int .i64 0]) (m0 := [0, v, 0]) ?_ ?_).mono ?_
    · simp [swB, inB, ldv, er]
    · simp [swv, swB, inB, ldv]
    rintro e w3 ⟨rfl, hs3⟩
    go_wp2_with fail
    refine (hs3.load 1 (r := .tuple #[.int .i64 v, .int .i64 0])).mono ?_
    rintro e w4 ⟨rfl, hs4⟩
    go_wp2_with fail
    refine (hs4.add 1 (wrap64 (-v)) (r := .tuple #[.int .i64 0, .int .i64 0]) (m0 := [0, 0, 0]) (by rw [key.out]; rfl) (by rw [key.out]; rfl)).mono ?_
    rintro e w5 ⟨rfl, hs5⟩
    go_wp2_with fail
    refine (hs5.load 0 (r := .tuple #[.int .i64 0, .int .i64 0])).mono ?_
    rintro e w6 ⟨rfl, hs6⟩
    go_wp2
    go_ret
    exact ⟨rfl, hf0.trans' hs6.fr⟩
  · have hne : (a == b) = false := by simp [hab]
    have HN := Lib.hid hab
    clear hab
    go_enter Try.func4, Try.ntmps4
    go_wp2_with (go_at_call 17; refine (shown_any _).mono ?_; rintro e w0 ⟨rfl, hf0⟩)
    refine (cNew_ok 3 0 0 _ (by omega) (by omega) (by omega)).mono ?_
    rintro e w1 hn
    obtain ⟨c, rfl, hs1⟩ := hn.st
    clear hn
    go_wp2_with fail
    refine (hs1.store 1 a (r := .int .i64 0) (m0 := [0, a, 0])).mono ?_
    rintro e w2 ⟨rfl, hs2⟩
    go_wp2_with fail
    refine (hs2.swap 1 b v (r := .tuple #[.bool false, .int .i64 0]) (m0 := [0, a, 0]) ?_ ?_).mono ?_
    · simp [swB, inB, ldv, er, HN.out]
    · simp [swv, swB, inB, ldv, HN.out]
    rintro e w3 ⟨rfl, hs3⟩
    go_wp2_with fail
    refine (hs3.load 1 (r := .tuple #[.int .i64 a, .int .i64 0])).mono ?_
    rintro e w4 ⟨rfl, hs4⟩
    go_wp2_with fail
    refine (hs4.add 1 (wrap64 (-a)) (r := .tuple #[.int .i64 0, .int .i64 0]) (m0 := [0, 0, 0]) (by rw [key.out]; rfl) (by rw [key.out]; rfl)).mono ?_
    rintro e w5 ⟨rfl, hs5⟩
    go_wp2_with fail
    refine (hs5.load 0 (r := .tuple #[.int .i64 0, .int .i64 0])).mono ?_
    rintro e w6 ⟨rfl, hs6⟩
    go_wp2
    go_ret
    exact ⟨rfl, hf0.trans' hs6.fr⟩

end Go.Proofs.Ytkilibdalgnghaa
