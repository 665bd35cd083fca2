/-
  The law CellsNone, walked.
-/
import Derived.Test.YtkilibdalgnghaaLaw11
import Derived.Test.YtkilibdalgnghaaRef11
namespace Go.Proofs.Ytkilibdalgnghaa
set_option linter.unusedVariables false
set_option linter.unusedSimpArgs false
open Go.RowKit Go.Shelf

/-- What both New tell. -/
def newE (l : List Int) : Int := if rightB l then 0 else 2
theorem right3 {n m k : Int} (h : rightB [n, m, k] = true) : (0 ≤ n ∧ n ≤ 1000) ∧ (0 ≤ m ∧ m ≤ 1000) ∧ (0 ≤ k ∧ k ≤ 1000) := by
  simp [rightB] at h
  omega
theorem cNew_any (n m k : Int) (w : World) : Calls Try.prog 18 #[.int .i64 n, .int .i64 m, .int .i64 k] w fun e w' => ∃ p, e = .returned (.tuple #[p, .int .i64 (newE [n, m, k])]) ∧ Fr no w w' := by
  cases hb : rightB [n, m, k] with
  | true =>
    obtain ⟨⟨a, b⟩, ⟨c, d⟩, e, f⟩ := right3 hb
    obtain ⟨n, rfl⟩ := Int.eq_ofNat_of_zero_le a
    obtain ⟨m, rfl⟩ := Int.eq_ofNat_of_zero_le c
    obtain ⟨k, rfl⟩ := Int.eq_ofNat_of_zero_le e
    refine (cNew_ok n m k w (by omega) (by omega) (by omega)).mono ?_
    rintro e w' hn
    obtain ⟨cb, rfl, hs⟩ := hn.st
    exact ⟨_, by rw [newE, hb]; rfl, hs.fr⟩
  | false =>
    refine (cNew_bad n m k w hb).mono ?_
    rintro e w' ⟨rfl, hf⟩
    exact ⟨_, by rw [newE, hb]; rfl, hf⟩
theorem rNew_any (n m k : Int) (w : World) : Calls Try.prog 30 #[.int .i64 n, .int .i64 m, .int .i64 k] w fun e w' => ∃ p, e = .returned (.tuple #[p, .int .i64 (newE [n, m, k])]) ∧ Fr no w w' := by
  cases hb : rightB [n, m, k] with
  | true =>
    obtain ⟨⟨a, b⟩, ⟨c, d⟩, e, f⟩ := right3 hb
    obtain ⟨n, rfl⟩ := Int.eq_ofNat_of_zero_le a
    obtain ⟨m, rfl⟩ := Int.eq_ofNat_of_zero_le c
    obtain ⟨k, rfl⟩ := Int.eq_ofNat_of_zero_le e
    refine (rNew_ok n m k w (by omega) (by omega) (by omega)).mono ?_
    rintro e w' hn
    obtain ⟨cb, rfl, hs, hf⟩ := hn
    exact ⟨_, by rw [newE, hb]; rfl, hf⟩
  | false =>
    refine (rNew_bad n m k w hb).mono ?_
    rintro e w' ⟨rfl, rfl⟩
    exact ⟨_, by rw [newE, hb]; rfl, Fr.refl _ _⟩

set_option maxRecDepth 100000 in
set_option maxHeartbeats 3200000 in
theorem cnone_any (n m k d i a v u : Int) (w : World) :
    Calls Try.prog 9 #[.int .i64 n, .int .i64 m, .int .i64 k, .agg #[.int .i64 d, .int .i64 i, .int .i64 a, .int .i64 v, .int .i64 u]] w fun e w' => e = .returned (.bool true) ∧ Fr no w w' := by
  have hx0 : Blk (w.alloc (.cells #[.int .i64 d, .int .i64 i, .int .i64 a, .int .i64 v, .int .i64 u] 29)) w.heap.size _ _ := Blk.new _ _ _
  have hf0 : Fr no w (w.alloc (.cells #[.int .i64 d, .int .i64 i, .int .i64 a, .int .i64 v, .int .i64 u] 29)) := (Fr.refl _ _).alloc _
  go_enter Try.func9, Try.ntmps9
  go_wp2_with (go_at_call 17; refine (shown_any _).mono ?_; rintro e w0 ⟨rfl, hf1⟩)
  refine (cNew_any _ _ _ _).mono ?_
  rintro e w1 ⟨p, rfl, hf2⟩
  go_wp2_with fail
  refine (rNew_any _ _ _ _).mono ?_
  rintro e w2 ⟨r, rfl, hf3⟩
  have hx := ((hf1.trans' hf2).trans' hf3).blk hx0 (no_not _)
  have hf := hf0.trans' ((hf1.trans' hf2).trans' hf3)
  have hc1 := hx.cell 1
  have hc2 := hx.cell 2
  have hc3 := hx.cell 3
  have hc4 := hx.cell 4
  simp only [List.getElem?_toArray, List.getElem?_cons_succ, List.getElem?_cons_zero] at hc1 hc2 hc3 hc4
  clear hf0 hf1 hf2 hf3 hx0 hx
  go_wp2_with fail
  refine (cLoad_nil _ _).mono ?_
  rintro e w3 ⟨rfl, rfl⟩
  go_wp2_with fail
  refine (cAdd_nil _ _ _).mono ?_
  rintro e w3 ⟨rfl, rfl⟩
  go_wp2_with fail
  refine (cSwap_nil _ _ _ _).mono ?_
  rintro e w3 ⟨rfl, rfl⟩
  go_wp2_with fail
  refine (cBegin_nil _ _).mono ?_
  rintro e w3 ⟨rfl, rfl⟩
  go_wp2_with fail
  refine (cEnd_nil _ _ _).mono ?_
  rintro e w3 ⟨rfl, rfl⟩
  go_wp2_with fail
  refine (cStore_nil _ _ _).mono ?_
  rintro e w3 ⟨rfl, rfl⟩
  go_wp2_with fail
  refine (cLock_nil _ _ _).mono ?_
  rintro e w3 ⟨rfl, rfl⟩
  go_wp2_with fail
  refine (cUnlock_nil _ _ _).mono ?_
  rintro e w3 ⟨rfl, rfl⟩
  go_wp2_with fail
  refine (cChange_nil _ _).mono ?_
  rintro e w3 ⟨rfl, rfl⟩
  go_wp2_with fail
  refine (cSettle_nil _ _).mono ?_
  rintro e w3 ⟨rfl, rfl⟩
  go_wp2_with fail
  refine (cHolderM_nil _ _).mono ?_
  rintro e w4 ⟨rfl, hf4⟩
  go_wp2
  go_ret
  exact ⟨rfl, hf.trans' hf4⟩

end Go.Proofs.Ytkilibdalgnghaa
