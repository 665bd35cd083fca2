/-
  small, and the law TallyNone, walked.
-/
import Derived.Test.YtkilibdalgnghaaLaw12
namespace Go.Proofs.Ytkilibdalgnghaa
set_option linter.unusedVariables false
set_option linter.unusedSimpArgs false
open Go.RowKit Go.Shelf
section
variable (w : World) (i : Int)
theorem tOpen_nil : Calls Try.prog 40 #[.pointer none, .int .i64 i] w fun e w' => e = .returned (.int .i64 1) ∧ w = w' := by
  go_enter Try.func40, Try.ntmps40
  go_wp2_with (go_at_call 67; refine (tCheck_nil _ _).mono ?_; rintro e w1 ⟨rfl, rfl⟩)
  go_ret
  exact ⟨rfl, rfl⟩
theorem tShut_nil : Calls Try.prog 41 #[.pointer none, .int .i64 i] w fun e w' => e = .returned (.int .i64 1) ∧ w = w' := by
  go_enter Try.func41, Try.ntmps41
  go_wp2_with (go_at_call 67; refine (tCheck_nil _ _).mono ?_; rintro e w1 ⟨rfl, rfl⟩)
  go_ret
  exact ⟨rfl, rfl⟩
theorem tAdd_nil (j u : Int) : Calls Try.prog 47 #[.pointer none, .int .i64 i, .int .i64 j, .int .u32 u] w fun e w' => e = .returned (.int .i64 1) ∧ w = w' := by
  go_enter Try.func47, Try.ntmps47
  go_wp2_with (go_at_call 67; refine (tCheck_nil _ _).mono ?_; rintro e w1 ⟨rfl, rfl⟩)
  go_ret
  exact ⟨rfl, rfl⟩
theorem tNote_nil (c : Nat → Int) : Calls Try.prog 37 #[.pointer none, .int .i64 i, .agg (six c)] w fun e w' => e = .returned (.int .i64 1) ∧ Fr no w w' := by
  go_enter Try.func37, Try.ntmps37
  go_wp2_with (go_at_call 40; refine (tOpen_nil _ _).mono ?_; rintro e w1 ⟨rfl, rfl⟩)
  go_ret
  exact ⟨rfl, (Fr.refl no w).alloc _⟩
theorem tRead_nilZ : Calls Try.prog 39 #[.pointer none, .int .i64 i] w fun e w' => e = .returned (.tuple #[.agg #[.int .u64 0, .int .u64 0, .int .u64 0, .int .u64 0, .int .u64 0, .int .u64 0], .int .i64 1]) ∧ Fr no w w' := tRead_nil w i
theorem tSum_nilZ : Calls Try.prog 38 #[.pointer none] w fun e w' => e = .returned (.tuple #[.agg #[.int .u64 0, .int .u64 0, .int .u64 0, .int .u64 0, .int .u64 0, .int .u64 0], .int .i64 1]) ∧ Fr no w w' := tSum_nil w
theorem step_nilZ : Calls Try.prog 43 #[.pointer none] w fun e w' => e = .returned (.tuple #[.agg #[.int .u64 0, .int .u64 0, .int .u64 0, .int .u64 0, .int .u64 0, .int .u64 0], .bool false, .int .i64 1]) ∧ Fr no w w' := step_nil w
end
theorem small12_any (c : Nat → Int) (w : World) : Calls Try.prog 36 #[.agg (six c)] w fun e w' => e = .returned (.agg (six fun j => c j / 16777216)) ∧ Fr no w w' := by
  have hx : Blk (w.alloc (.cells (six c) 56)) w.heap.size 56 (six c) := Blk.new _ _ _
  obtain ⟨c0, c1, c2, c3, c4, c5⟩ := cells6 (hx.alloc (.cells #[.int .u64 0, .int .u64 0, .int .u64 0, .int .u64 0, .int .u64 0, .int .u64 0] 56))
  go_enter Try.func36, Try.ntmps36
  go_wp2
  try simp only [Exit.inBlock, Exit.then]
  exact bodyPost_ret (res_c rfl rfl (Blk.new' (by simp)) Try.underlying56 (by kernel_rfl)) rfl ⟨rfl, ((Fr.refl no w).alloc _).alloc _⟩

set_option maxRecDepth 100000 in
set_option maxHeartbeats 3200000 in
theorem tnone_in (q : Int) (h0 : 0 ≤ q) (h1 : q < 5) (c : Nat → Int) (w : World) :
    Calls Try.prog 14 #[.int .i64 q, .agg (six c)] w fun e w' => e = .returned (.bool true) ∧ Fr no w w' := by
  have hi : inB (rep0 5) q = true := inB_rep0 h0 (by omega)
  have hx0 : Blk (w.alloc (.cells (six c) 56)) w.heap.size 56 (six c) := Blk.new _ _ _
  have hf0 : Fr no w (w.alloc (.cells (six c) 56)) := (Fr.refl no w).alloc _
  go_enter Try.func14, Try.ntmps14
  go_wp2_with (go_at_call 34; refine (shown12_any _).mono ?_; rintro e w1 ⟨rfl, hf1⟩)
  refine (tRead_nilZ _ _).mono ?_
  rintro e w2 ⟨rfl, hf2⟩
  have hfA := hf0.trans' (hf1.trans' (hf2.alloc (.cells #[.int .u64 0, .int .u64 0, .int .u64 0, .int .u64 0, .int .u64 0, .int .u64 0] 56)))
  have hxA := (hf1.trans' (hf2.alloc (.cells #[.int .u64 0, .int .u64 0, .int .u64 0, .int .u64 0, .int .u64 0, .int .u64 0] 56))).blk hx0 (no_not _)
  clear hf0 hf1 hf2 hx0
  go_wp2_with fail
  refine (tSum_nilZ _).mono ?_
  rintro e w3 ⟨rfl, hf3⟩
  have hfB := hfA.trans' (hf3.alloc (.cells #[.int .u64 0, .int .u64 0, .int .u64 0, .int .u64 0, .int .u64 0, .int .u64 0] 56))
  have hxB := (hf3.alloc (.cells #[.int .u64 0, .int .u64 0, .int .u64 0, .int .u64 0, .int .u64 0, .int .u64 0] 56)).blk hxA (no_not _)
  clear hfA hxA hf3
  go_wp2_with fail
  refine (tReader_nil _ _).mono ?_
  rintro e w4 ⟨rfl, rfl⟩
  go_wp2_with fail
  refine (step_nilZ _).mono ?_
  rintro e w4 ⟨rfl, hf4⟩
  have hfC := hfB.trans' (hf4.alloc (.cells #[.int .u64 0, .int .u64 0, .int .u64 0, .int .u64 0, .int .u64 0, .int .u64 0] 56))
  have hxC := (hf4.alloc (.cells #[.int .u64 0, .int .u64 0, .int .u64 0, .int .u64 0, .int .u64 0, .int .u64 0] 56)).blk hxB (no_not _)
  clear hfB hxB hf4
  go_wp2_with fail
  refine (tNew_ok 5 _ (by omega) (by omega)).mono ?_
  rintro e w5 ⟨tb, cb, F, rfl, ha, -, -, hf5⟩
  have hfD := hfC.trans' hf5
  have hxD := hf5.blk hxC (no_not _)
  clear hfC hxC hf5
  go_wp2_with fail
  refine (tReader_in F _ tb cb 5 _ _ q ha hi).mono ?_
  rintro e w6 ⟨rfl, rfl⟩
  have hfE := hfD.alloc (.cells (rdCells tb q 0 0 fun _ => 0) 126)
  have hxE := hxD.alloc (.cells (rdCells tb q 0 0 fun _ => 0) 126)
  clear hfD hxD ha hi
  go_wp2_with fail
  refine (tOpen_nil _ _).mono ?_
  rintro e w7 ⟨rfl, rfl⟩
  go_wp2_with fail
  refine (tAdd_nil _ _ _ _).mono ?_
  rintro e w7 ⟨rfl, rfl⟩
  go_wp2_with fail
  refine (tShut_nil _ _).mono ?_
  rintro e w7 ⟨rfl, rfl⟩
  obtain ⟨c0, c1, c2, c3, c4, c5⟩ := cells6 hxE
  go_wp2_with fail
  refine (tNote_nil _ _ c).mono ?_
  rintro e w8 ⟨rfl, hf8⟩
  clear c0 c1 c2 c3 c4 c5
  go_wp2
  go_ret
  exact ⟨rfl, hfE.trans' hf8⟩

set_option maxRecDepth 100000 in
set_option maxHeartbeats 3200000 in
theorem tnone_lo (q : Int) (h0 : q < 0) (c : Nat → Int) (w : World) :
    Calls Try.prog 14 #[.int .i64 q, .agg (six c)] w fun e w' => e = .returned (.bool true) ∧ Fr no w w' := by
  have hi : inB (rep0 5) q = false := by
    have h := h0
    simp [inB, rep0]; omega
  have hx0 : Blk (w.alloc (.cells (six c) 56)) w.heap.size 56 (six c) := Blk.new _ _ _
  have hf0 : Fr no w (w.alloc (.cells (six c) 56)) := (Fr.refl no w).alloc _
  go_enter Try.func14, Try.ntmps14
  go_wp2_with (go_at_call 34; refine (shown12_any _).mono ?_; rintro e w1 ⟨rfl, hf1⟩)
  refine (tRead_nilZ _ _).mono ?_
  rintro e w2 ⟨rfl, hf2⟩
  have hfA := hf0.trans' (hf1.trans' (hf2.alloc (.cells #[.int .u64 0, .int .u64 0, .int .u64 0, .int .u64 0, .int .u64 0, .int .u64 0] 56)))
  have hxA := (hf1.trans' (hf2.alloc (.cells #[.int .u64 0, .int .u64 0, .int .u64 0, .int .u64 0, .int .u64 0, .int .u64 0] 56))).blk hx0 (no_not _)
  clear hf0 hf1 hf2 hx0
  go_wp2_with fail
  refine (tSum_nilZ _).mono ?_
  rintro e w3 ⟨rfl, hf3⟩
  have hfB := hfA.trans' (hf3.alloc (.cells #[.int .u64 0, .int .u64 0, .int .u64 0, .int .u64 0, .int .u64 0, .int .u64 0] 56))
  have hxB := (hf3.alloc (.cells #[.int .u64 0, .int .u64 0, .int .u64 0, .int .u64 0, .int .u64 0, .int .u64 0] 56)).blk hxA (no_not _)
  clear hfA hxA hf3
  go_wp2_with fail
  refine (tReader_nil _ _).mono ?_
  rintro e w4 ⟨rfl, rfl⟩
  go_wp2_with fail
  refine (step_nilZ _).mono ?_
  rintro e w4 ⟨rfl, hf4⟩
  have hfC := hfB.trans' (hf4.alloc (.cells #[.int .u64 0, .int .u64 0, .int .u64 0, .int .u64 0, .int .u64 0, .int .u64 0] 56))
  have hxC := (hf4.alloc (.cells #[.int .u64 0, .int .u64 0, .int .u64 0, .int .u64 0, .int .u64 0, .int .u64 0] 56)).blk hxB (no_not _)
  clear hfB hxB hf4
  go_wp2_with fail
  refine (tNew_ok 5 _ (by omega) (by omega)).mono ?_
  rintro e w5 ⟨tb, cb, F, rfl, ha, -, -, hf5⟩
  have hfD := hfC.trans' hf5
  have hxD := hf5.blk hxC (no_not _)
  clear hfC hxC hf5
  go_wp2_with fail
  refine (tReader_out F _ tb cb 5 _ _ q ha hi).mono ?_
  rintro e w6 ⟨rfl, rfl⟩
  have hfE := hfD
  have hxE := hxD
  clear hfD hxD ha hi
  go_wp2_with fail
  refine (tOpen_nil _ _).mono ?_
  rintro e w7 ⟨rfl, rfl⟩
  go_wp2_with fail
  refine (tAdd_nil _ _ _ _).mono ?_
  rintro e w7 ⟨rfl, rfl⟩
  go_wp2_with fail
  refine (tShut_nil _ _).mono ?_
  rintro e w7 ⟨rfl, rfl⟩
  obtain ⟨c0, c1, c2, c3, c4, c5⟩ := cells6 hxE
  go_wp2_with fail
  refine (tNote_nil _ _ c).mono ?_
  rintro e w8 ⟨rfl, hf8⟩
  clear c0 c1 c2 c3 c4 c5
  go_wp2
  go_ret
  exact ⟨rfl, hfE.trans' hf8⟩

set_option maxRecDepth 100000 in
set_option maxHeartbeats 3200000 in
theorem tnone_hi (q : Int) (h1 : 5 ≤ q) (c : Nat → Int) (w : World) :
    Calls Try.prog 14 #[.int .i64 q, .agg (six c)] w fun e w' => e = .returned (.bool true) ∧ Fr no w w' := by
  have h0 : 0 ≤ q := by omega
  have hd : decide (q < 5) = false := by simp; omega
  have hi : inB (rep0 5) q = false := by
    simp [inB, rep0]; omega
  have hx0 : Blk (w.alloc (.cells (six c) 56)) w.heap.size 56 (six c) := Blk.new _ _ _
  have hf0 : Fr no w (w.alloc (.cells (six c) 56)) := (Fr.refl no w).alloc _
  go_enter Try.func14, Try.ntmps14
  go_wp2_with (go_at_call 34; refine (shown12_any _).mono ?_; rintro e w1 ⟨rfl, hf1⟩)
  refine (tRead_nilZ _ _).mono ?_
  rintro e w2 ⟨rfl, hf2⟩
  have hfA := hf0.trans' (hf1.trans' (hf2.alloc (.cells #[.int .u64 0, .int .u64 0, .int .u64 0, .int .u64 0, .int .u64 0, .int .u64 0] 56)))
  have hxA := (hf1.trans' (hf2.alloc (.cells #[.int .u64 0, .int .u64 0, .int .u64 0, .int .u64 0, .int .u64 0, .int .u64 0] 56))).blk hx0 (no_not _)
  clear hf0 hf1 hf2 hx0
  go_wp2_with fail
  refine (tSum_nilZ _).mono ?_
  rintro e w3 ⟨rfl, hf3⟩
  have hfB := hfA.trans' (hf3.alloc (.cells #[.int .u64 0, .int .u64 0, .int .u64 0, .int .u64 0, .int .u64 0, .int .u64 0] 56))
  have hxB := (hf3.alloc (.cells #[.int .u64 0, .int .u64 0, .int .u64 0, .int .u64 0, .int .u64 0, .int .u64 0] 56)).blk hxA (no_not _)
  clear hfA hxA hf3
  go_wp2_with fail
  refine (tReader_nil _ _).mono ?_
  rintro e w4 ⟨rfl, rfl⟩
  go_wp2_with fail
  refine (step_nilZ _).mono ?_
  rintro e w4 ⟨rfl, hf4⟩
  have hfC := hfB.trans' (hf4.alloc (.cells #[.int .u64 0, .int .u64 0, .int .u64 0, .int .u64 0, .int .u64 0, .int .u64 0] 56))
  have hxC := (hf4.alloc (.cells #[.int .u64 0, .int .u64 0, .int .u64 0, .int .u64 0, .int .u64 0, .int .u64 0] 56)).blk hxB (no_not _)
  clear hfB hxB hf4
  go_wp2_with fail
  refine (tNew_ok 5 _ (by omega) (by omega)).mono ?_
  rintro e w5 ⟨tb, cb, F, rfl, ha, -, -, hf5⟩
  have hfD := hfC.trans' hf5
  have hxD := hf5.blk hxC (no_not _)
  clear hfC hxC hf5
  go_wp2_with fail
  refine (tReader_out F _ tb cb 5 _ _ q ha hi).mono ?_
  rintro e w6 ⟨rfl, rfl⟩
  have hfE := hfD
  have hxE := hxD
  clear hfD hxD ha hi
  go_wp2_with fail
  refine (tOpen_nil _ _).mono ?_
  rintro e w7 ⟨rfl, rfl⟩
  go_wp2_with fail
  refine (tAdd_nil _ _ _ _).mono ?_
  rintro e w7 ⟨rfl, rfl⟩
  go_wp2_with fail
  refine (tShut_nil _ _).mono ?_
  rintro e w7 ⟨rfl, rfl⟩
  obtain ⟨c0, c1, c2, c3, c4, c5⟩ := cells6 hxE
  go_wp2_with fail
  refine (tNote_nil _ _ c).mono ?_
  rintro e w8 ⟨rfl, hf8⟩
  clear c0 c1 c2 c3 c4 c5
  go_wp2
  go_ret
  exact ⟨by first | rfl | (simp; omega), hfE.trans' hf8⟩

theorem tnone_any (q : Int) (c : Nat → Int) (w : World) : Calls Try.prog 14 #[.int .i64 q, .agg (six c)] w fun e w' => e = .returned (.bool true) ∧ Fr no w w' := by
  by_cases h0 : q < 0
  · exact tnone_lo q h0 c w
  · by_cases h1 : q < 5
    · exact tnone_in q (by omega) h1 c w
    · exact tnone_hi q (by omega) c w
end Go.Proofs.Ytkilibdalgnghaa
