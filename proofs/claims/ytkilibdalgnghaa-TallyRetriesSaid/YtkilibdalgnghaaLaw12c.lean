/-
  The law TallyApart, walked.
-/
import Derived.Test.YtkilibdalgnghaaLaw12b
namespace Go.Proofs.Ytkilibdalgnghaa
set_option linter.unusedVariables false
set_option linter.unusedSimpArgs false
open Go.RowKit Go.Shelf

theorem c6 {w : World} {c0 c1 c2 c3 c4 c5 : Int} {b : Nat} (h : Blk w b 56 (six (mk6 c0 c1 c2 c3 c4 c5))) : w.cell? ⟨b, 0, none⟩ = some (.int .u64 c0) ∧ w.cell? ⟨b, 1, none⟩ = some (.int .u64 c1) ∧ w.cell? ⟨b, 2, none⟩ = some (.int .u64 c2) ∧
    w.cell? ⟨b, 3, none⟩ = some (.int .u64 c3) ∧ w.cell? ⟨b, 4, none⟩ = some (.int .u64 c4) ∧ w.cell? ⟨b, 5, none⟩ = some (.int .u64 c5) := cells6 h
/-- What a reader tells of an even queue, of an odd one. -/
theorem read_even {L0 L2 : List Int} {i : Int} (hi : inB L2 i = true) (h : oddB L2 i = false) : Value.tuple #[.agg (six (rdC L0 L2 i)), .int .i64 (bgE L2 i)] = .tuple #[.agg (six (rowC L0 i)), .int .i64 0] := by
  have e : bgE L2 i = 0 := by simp [bgE, hi]; simpa [oddB] using h
  rw [rdC, if_pos e, e]
theorem read_odd {L0 L2 : List Int} {i : Int} (hi : inB L2 i = true) (h : oddB L2 i = true) : Value.tuple #[.agg (six (rdC L0 L2 i)), .int .i64 (bgE L2 i)] = .tuple #[.agg (six no6), .int .i64 111] := by
  have e : bgE L2 i = 111 := by simp [bgE, hi]; simpa [oddB] using h
  rw [rdC, if_neg (by rw [e]; decide), e]
theorem rowC_rep0 (n : Nat) (i : Int) (k : Nat) : rowC (rep0 n) i k = 0 := by rw [rowC, ldv_rep0, uw]; rfl
theorem s18 {w w' : World} {g h r : Nat} {c0 c1 c2 c3 c4 c5 : Int} (hf : Fr no w.drew w') (h1 : Blk w g 56 (six (mk6 c0 c1 c2 c3 c4 c5))) (h2 : Blk w h 56 (six (mk6 (c0 / 16777216) (c1 / 16777216) (c2 / 16777216) (c3 / 16777216) (c4 / 16777216) (c5 / 16777216)))) (h3 : Blk w r 56 (six (mk6 0 0 0 0 0 0))) : w'.cell? ⟨g, 0, none⟩ = some (.int .u64 c0) ∧ w'.cell? ⟨g, 1, none⟩ = some (.int .u64 c1) ∧ w'.cell? ⟨g, 2, none⟩ = some (.int .u64 c2) ∧ w'.cell? ⟨g, 3, none⟩ = some (.int .u64 c3) ∧ w'.cell? ⟨g, 4, none⟩ = some (.int .u64 c4) ∧ w'.cell? ⟨g, 5, none⟩ = some (.int .u64 c5) ∧ w'.cell? ⟨h, 0, none⟩ = some (.int .u64 (c0 / 16777216)) ∧ w'.cell? ⟨h, 1, none⟩ = some (.int .u64 (c1 / 16777216)) ∧ w'.cell? ⟨h, 2, none⟩ = some (.int .u64 (c2 / 16777216)) ∧ w'.cell? ⟨h, 3, none⟩ = some (.int .u64 (c3 / 16777216)) ∧ w'.cell? ⟨h, 4, none⟩ = some (.int .u64 (c4 / 16777216)) ∧ w'.cell? ⟨h, 5, none⟩ = some (.int .u64 (c5 / 16777216)) ∧ w'.cell? ⟨r, 0, none⟩ = some (.int .u64 0) ∧ w'.cell? ⟨r, 1, none⟩ = some (.int .u64 0) ∧ w'.cell? ⟨r, 2, none⟩ = some (.int .u64 0) ∧ w'.cell? ⟨r, 3, none⟩ = some (.int .u64 0) ∧ w'.cell? ⟨r, 4, none⟩ = some (.int .u64 0) ∧ w'.cell? ⟨r, 5, none⟩ = some (.int .u64 0) := by
  obtain ⟨d0, d1, d2, d3, d4, d5⟩ := c6 (hf.blk h1.drew (no_not _))
  obtain ⟨x0, x1, x2, x3, x4, x5⟩ := c6 (hf.blk h2.drew (no_not _))
  obtain ⟨y0, y1, y2, y3, y4, y5⟩ := c6 (hf.blk h3.drew (no_not _))
  exact ⟨d0, d1, d2, d3, d4, d5, x0, x1, x2, x3, x4, x5, y0, y1, y2, y3, y4, y5⟩
structure Apart12 (a b c0 c1 c2 c3 c4 c5 : Int) (m1 m2 m3 l1 : List Int) : Prop where
  o : Value.int .i64 (spE (rep0 64) a 0) = .int .i64 0
  p : Value.int .i64 (spE m1 b 0) = .int .i64 0
  p0 : noL0 (rep0 384) m1 b (mk6 (c0 / 16777216) (c1 / 16777216) (c2 / 16777216) (c3 / 16777216) (c4 / 16777216) (c5 / 16777216)) = l1
  p2 : noL2 m1 b = m2
  rb : Value.tuple #[.agg (six (rdC l1 m2 b)), .int .i64 (bgE m2 b)] = .tuple #[.agg #[.int .u64 (c0 / 16777216), .int .u64 (c1 / 16777216), .int .u64 (c2 / 16777216), .int .u64 (c3 / 16777216), .int .u64 (c4 / 16777216), .int .u64 (c5 / 16777216)], .int .i64 0]
  ra : Value.tuple #[.agg (six (rdC l1 m2 a)), .int .i64 (bgE m2 a)] = .tuple #[.agg #[.int .u64 0, .int .u64 0, .int .u64 0, .int .u64 0, .int .u64 0, .int .u64 0], .int .i64 111]
  n : Value.int .i64 (spE m2 a 0) = .int .i64 111
  n0 : noL0 l1 m2 a (mk6 c0 c1 c2 c3 c4 c5) = l1
  n2 : noL2 m2 a = m2
  s : Value.int .i64 (shE m2 a) = .int .i64 0
  s2 : spv m2 a 1 = m3
  ry : Value.tuple #[.agg (six (rdC l1 m3 a)), .int .i64 (bgE m3 a)] = .tuple #[.agg #[.int .u64 0, .int .u64 0, .int .u64 0, .int .u64 0, .int .u64 0, .int .u64 0], .int .i64 0]
theorem apart12 (a b c0 c1 c2 c3 c4 c5 : Int) (ha0 : 0 ≤ a) (ha1 : a ≤ 63) (hb0 : 0 ≤ b) (hb1 : b ≤ 63) (hab : a ≠ b) (h0 : 0 ≤ c0 ∧ c0 < 18446744073709551616) (h1 : 0 ≤ c1 ∧ c1 < 18446744073709551616) (h2 : 0 ≤ c2 ∧ c2 < 18446744073709551616) (h3 : 0 ≤ c3 ∧ c3 < 18446744073709551616) (h4 : 0 ≤ c4 ∧ c4 < 18446744073709551616) (h5 : 0 ≤ c5 ∧ c5 < 18446744073709551616) :
    ∃ m1 m2 m3 l1, spv (rep0 64) a 0 = m1 ∧ Apart12 a b c0 c1 c2 c3 c4 c5 m1 m2 m3 l1 := by
  have hl : (rep0 64).length = 64 := rep0_length 64
  have hia : inB (rep0 64) a = true := inB_rep0 ha0 (by omega)
  have hib : inB (rep0 64) b = true := inB_rep0 hb0 (by omega)
  have hoa : oddB (rep0 64) a = false := by simp [oddB, ldv_rep0]
  have hB := spB_even hl ha0 (by omega) hoa
  have hm1 : ∀ j, oddB (spv (rep0 64) a 0) j = if j = a then true else false := by
    intro j
    rw [oddB, ldv_spv hB, ldv_rep0, ldv_rep0]
    by_cases hj : j = a
    · rw [if_pos hj, if_pos hj]; unfold wrap64; decide
    · rw [if_neg hj, if_neg hj]; rfl
  have hi1 : ∀ j, inB (spv (rep0 64) a 0) j = inB (rep0 64) j := fun j => spv_in
  have hl1 : (spv (rep0 64) a 0).length = 64 := by unfold spv; split <;> simp [rep0]
  have hob : oddB (spv (rep0 64) a 0) b = false := by rw [hm1, if_neg (Ne.symm hab)]
  have hBb := spB_even hl1 hb0 (by omega) hob
  have hx2 : ∀ j, j ≠ b → ldv (noL2 (spv (rep0 64) a 0) b) j = ldv (spv (rep0 64) a 0) j := by
    intro j hj
    have hb2 : spB (spv (spv (rep0 64) a 0) b 0) b 1 = true := by
      simp only [spB, spv_in, hib, Bool.true_and, beq_iff_eq]
      rw [ldv_spv hBb, if_pos rfl]
      simp [oddB] at hob
      unfold wrap64
      omega
    rw [noL2, if_pos hBb, ldv_spv hb2, if_neg hj, ldv_spv hBb, if_neg hj]
  have hob2 : oddB (noL2 (spv (rep0 64) a 0) b) b = false := by
    have hb2 : spB (spv (spv (rep0 64) a 0) b 0) b 1 = true := by
      simp only [spB, spv_in, hib, Bool.true_and, beq_iff_eq]
      rw [ldv_spv hBb, if_pos rfl]
      simp [oddB] at hob
      unfold wrap64
      omega
    rw [noL2, if_pos hBb, oddB, ldv_spv hb2, if_pos rfl, ldv_spv hBb, if_pos rfl]
    simp [oddB] at hob ⊢
    unfold wrap64
    omega
  have hi2 : ∀ j, inB (noL2 (spv (rep0 64) a 0) b) j = inB (rep0 64) j := fun j => by rw [noL2, if_pos hBb, spv_in, spv_in, spv_in]
  have hoa2 : oddB (noL2 (spv (rep0 64) a 0) b) a = true := by rw [oddB, hx2 a hab]; have := hm1 a; rw [if_pos rfl, oddB] at this; exact this
  have hBa2 : spB (noL2 (spv (rep0 64) a 0) b) a 0 = false := by
    simp [oddB] at hoa2
    simp [spB, hoa2]
  have hBa3 : spB (noL2 (spv (rep0 64) a 0) b) a 1 = true := by
    simp [oddB] at hoa2
    simp [spB, hoa2, hi2, hia]
  have hoa3 : oddB (spv (noL2 (spv (rep0 64) a 0) b) a 1) a = false := by
    rw [oddB, ldv_spv hBa3, if_pos rfl]
    simp [oddB] at hoa2 ⊢
    unfold wrap64
    omega
  have hll : (rep0 384).length = 384 := rep0_length 384
  refine ⟨_, _, _, _, rfl, ⟨by rw [(spE_spB).1 hB], by rw [(spE_spB).1 hBb], rfl, rfl, ?_, ?_, ?_, ?_, ?_, ?_, rfl, ?_⟩⟩
  · rw [read_even (by rw [hi2]; exact hib) hob2]
    have hr : ∀ k, k < 6 → rowC (noL0 (rep0 384) (spv (rep0 64) a 0) b (mk6 (c0 / 16777216) (c1 / 16777216) (c2 / 16777216) (c3 / 16777216) (c4 / 16777216) (c5 / 16777216))) b k = (mk6 (c0 / 16777216) (c1 / 16777216) (c2 / 16777216) (c3 / 16777216) (c4 / 16777216) (c5 / 16777216)) k % 18446744073709551616 := fun k hk => by
      rw [noL0, if_pos hBb, rowC_add hb0 (by rw [hll]; omega) hk, if_pos rfl, rowC_rep0, Int.zero_add]
    have : ∀ k, k < 6 → (mk6 (c0 / 16777216) (c1 / 16777216) (c2 / 16777216) (c3 / 16777216) (c4 / 16777216) (c5 / 16777216)) k % 18446744073709551616 = (mk6 (c0 / 16777216) (c1 / 16777216) (c2 / 16777216) (c3 / 16777216) (c4 / 16777216) (c5 / 16777216)) k := by
      intro k hk
      obtain rfl | rfl | rfl | rfl | rfl | rfl : k = 0 ∨ k = 1 ∨ k = 2 ∨ k = 3 ∨ k = 4 ∨ k = 5 := by omega
      all_goals simp only [mk6]; omega
    simp only [six]
    rw [hr 0 (by omega), hr 1 (by omega), hr 2 (by omega), hr 3 (by omega), hr 4 (by omega), hr 5 (by omega), this 0 (by omega), this 1 (by omega), this 2 (by omega), this 3 (by omega), this 4 (by omega), this 5 (by omega)]
    rfl
  · exact read_odd (by rw [hi2]; exact hia) hoa2
  · simp [oddB] at hoa2
    simp [spE, hi2, hia, hoa2]
  · rw [noL0, if_neg (by simp [hBa2])]
  · rw [noL2, if_neg (by simp [hBa2])]
  · simp [shE, hi2, hia, hoa2]
  · rw [read_even (by rw [spv_in, hi2]; exact hia) hoa3]
    have hr : ∀ k, k < 6 → rowC (noL0 (rep0 384) (spv (rep0 64) a 0) b (mk6 (c0 / 16777216) (c1 / 16777216) (c2 / 16777216) (c3 / 16777216) (c4 / 16777216) (c5 / 16777216))) a k = 0 := fun k hk => by
      rw [noL0, if_pos hBb, rowC_add hb0 (by rw [hll]; omega) hk, if_neg hab, rowC_rep0]
    simp only [six]
    rw [hr 0 (by omega), hr 1 (by omega), hr 2 (by omega), hr 3 (by omega), hr 4 (by omega), hr 5 (by omega)]

set_option maxRecDepth 100000 in
set_option maxHeartbeats 6400000 in
theorem tapart_ok (a b c0 c1 c2 c3 c4 c5 : Int) (ha0 : 0 ≤ a) (ha1 : a ≤ 63) (hb0 : 0 ≤ b) (hb1 : b ≤ 63) (hab : a ≠ b) (h0 : 0 ≤ c0 ∧ c0 < 18446744073709551616) (h1 : 0 ≤ c1 ∧ c1 < 18446744073709551616) (h2 : 0 ≤ c2 ∧ c2 < 18446744073709551616) (h3 : 0 ≤ c3 ∧ c3 < 18446744073709551616) (h4 : 0 ≤ c4 ∧ c4 < 18446744073709551616) (h5 : 0 ≤ c5 ∧ c5 < 18446744073709551616) (w : World) :
    Calls Try.prog 11 #[.int .i64 a, .int .i64 b, .agg #[.int .u64 c0, .int .u64 c1, .int .u64 c2, .int .u64 c3, .int .u64 c4, .int .u64 c5]] w fun e w' => e = .returned (.bool true) ∧ Fr no w w' := by
  obtain ⟨m1, m2, m3, l1, ho2, HP⟩ := apart12 a b c0 c1 c2 c3 c4 c5 ha0 ha1 hb0 hb1 hab h0 h1 h2 h3 h4 h5
  have HO2 := Lib.hid ho2
  have HP := Lib.hid HP
  have hne : (a == b) = false := by simp [hab]
  clear ho2 h0 h1 h2 h3 h4 h5 hab
  have hx0 : Blk (w.alloc (.cells #[.int .u64 c0, .int .u64 c1, .int .u64 c2, .int .u64 c3, .int .u64 c4, .int .u64 c5] 56)) w.heap.size 56 (six (mk6 c0 c1 c2 c3 c4 c5)) := Blk.new _ _ _
  have hf0 : Fr no w (w.alloc (.cells #[.int .u64 c0, .int .u64 c1, .int .u64 c2, .int .u64 c3, .int .u64 c4, .int .u64 c5] 56)) := (Fr.refl no w).alloc _
  go_enter Try.func11, Try.ntmps11
  go_wp2_with (go_at_call 34; refine (shown12_any _).mono ?_; rintro e w0 ⟨rfl, hf1⟩)
  refine (tNew_ok 64 _ (by omega) (by omega)).mono ?_
  rintro e w1 ⟨tb, cb, F, rfl, ht, hF, htb, hf2⟩
  have hxs : w.heap.size < w0.heap.size := (hf1.blk hx0 (no_not _)).lt
  have hx1 : Blk w1 w.heap.size 56 (six (mk6 c0 c1 c2 c3 c4 c5)) := hf2.blk (hf1.blk hx0 (no_not _)) (no_not _)
  have hs1 := TSt.beside (K := fun k => k = w.heap.size) ht (fun k hk => by subst hk; exact ⟨fun h => by have := hF _ h; omega, hx1.lt⟩)
  have hfa := hf0.trans' hf1
  have HF := Lib.hid hF
  clear ht hx0 hf0 hf1 hF
  go_wp2_with fail
  refine (hs1.open_ a HP.out.o HO2.out).mono ?_
  rintro e w2 ⟨rfl, hs2, hk2⟩
  have hx2 := hk2.blk hx1 rfl
  clear hs1 hx1 hk2
  obtain ⟨d0, d1, d2, d3, d4, d5⟩ := c6 hx2
  go_wp2_with fail
  refine (small12_lit c0 c1 c2 c3 c4 c5 w2).mono ?_
  rintro e w3 ⟨rfl, hf3⟩
  have hs3 := hs2.keep hf3
  have hx3 := hf3.blk hx2 (no_not _)
  clear hs2 hx2 hf3 d0 d1 d2 d3 d4 d5
  go_wp2_with fail
  refine (hs3.note b (mk6 (c0 / 16777216) (c1 / 16777216) (c2 / 16777216) (c3 / 16777216) (c4 / 16777216) (c5 / 16777216)) HP.out.p HP.out.p0 HP.out.p2).mono ?_
  rintro e w4 ⟨rfl, hs4, hk4⟩
  have hx4 := hk4.blk hx3 rfl
  clear hs3 hx3 hk4
  go_wp2_with fail
  refine (hs4.read b HP.out.rb).mono ?_
  rintro e w5 ⟨rfl, hs5, hk5⟩
  have hx5 := (hk5.blk hx4 rfl).alloc (.cells #[.int .u64 (c0 / 16777216), .int .u64 (c1 / 16777216), .int .u64 (c2 / 16777216), .int .u64 (c3 / 16777216), .int .u64 (c4 / 16777216), .int .u64 (c5 / 16777216)] 56)
  have hs5b := hs5.box (.cells #[.int .u64 (c0 / 16777216), .int .u64 (c1 / 16777216), .int .u64 (c2 / 16777216), .int .u64 (c3 / 16777216), .int .u64 (c4 / 16777216), .int .u64 (c5 / 16777216)] 56)
  have hy5 : Blk (w5.alloc (.cells #[.int .u64 (c0 / 16777216), .int .u64 (c1 / 16777216), .int .u64 (c2 / 16777216), .int .u64 (c3 / 16777216), .int .u64 (c4 / 16777216), .int .u64 (c5 / 16777216)] 56)) w5.heap.size 56 (six (mk6 (c0 / 16777216) (c1 / 16777216) (c2 / 16777216) (c3 / 16777216) (c4 / 16777216) (c5 / 16777216))) := Blk.new _ _ _
  clear hs4 hx4 hk5 hs5
  go_wp2_with fail
  refine (hs5b.read a HP.out.ra).mono ?_
  rintro e w6 ⟨rfl, hs6, hk6⟩
  have hx6 := (hk6.blk hx5 (.inl rfl)).alloc (.cells #[.int .u64 0, .int .u64 0, .int .u64 0, .int .u64 0, .int .u64 0, .int .u64 0] 56)
  have hy6 := (hk6.blk hy5 (.inr rfl)).alloc (.cells #[.int .u64 0, .int .u64 0, .int .u64 0, .int .u64 0, .int .u64 0, .int .u64 0] 56)
  have hs6b := hs6.keep ((Fr.refl no w6).alloc (.cells #[.int .u64 0, .int .u64 0, .int .u64 0, .int .u64 0, .int .u64 0, .int .u64 0] 56))
  clear hs5b hx5 hy5 hk6 hs6
  obtain ⟨d0, d1, d2, d3, d4, d5⟩ := c6 hx6
  go_wp2_with fail
  refine (hs6b.note a (mk6 c0 c1 c2 c3 c4 c5) HP.out.n HP.out.n0 HP.out.n2).mono ?_
  rintro e w7 ⟨rfl, hs7, hk7⟩
  have hx7 := hk7.blk hx6 (.inl rfl)
  have hy7 := hk7.blk hy6 (.inr rfl)
  clear hs6b hx6 hy6 hk7 d0 d1 d2 d3 d4 d5
  go_wp2_with fail
  refine (hs7.shut a HP.out.s HP.out.s2).mono ?_
  rintro e w8 ⟨rfl, hs8, hk8⟩
  have hx8 := hk8.blk hx7 (.inl rfl)
  have hy8 := hk8.blk hy7 (.inr rfl)
  clear hs7 hx7 hy7 hk8
  go_wp2_with fail
  refine (hs8.read a HP.out.ry).mono ?_
  rintro e w9 ⟨rfl, hs9, hk9⟩
  have hx9 := (hk9.blk hx8 (.inl rfl)).alloc (.cells #[.int .u64 0, .int .u64 0, .int .u64 0, .int .u64 0, .int .u64 0, .int .u64 0] 56)
  have hy9 := (hk9.blk hy8 (.inr rfl)).alloc (.cells #[.int .u64 0, .int .u64 0, .int .u64 0, .int .u64 0, .int .u64 0, .int .u64 0] 56)
  have hz9 : Blk (w9.alloc (.cells #[.int .u64 0, .int .u64 0, .int .u64 0, .int .u64 0, .int .u64 0, .int .u64 0] 56)) w9.heap.size 56 (six (mk6 0 0 0 0 0 0)) := Blk.new _ _ _
  have hs9b := hs9.keep ((Fr.refl no w9).alloc (.cells #[.int .u64 0, .int .u64 0, .int .u64 0, .int .u64 0, .int .u64 0, .int .u64 0] 56))
  have hfz := hfa.trans' (hs9b.fr0 HF.out hf2)
  clear hs8 hx8 hy8 hk9 hs9 hs9b
  obtain ⟨d0, d1, d2, d3, d4, d5⟩ := c6 hx9
  obtain ⟨x0, x1, x2, x3, x4, x5⟩ := c6 hy9
  obtain ⟨y0, y1, y2, y3, y4, y5⟩ := c6 hz9
  go_wp2_with fail
  go_region_held3 (fun w' => w'.cell? ⟨w.heap.size, 0, none⟩ = some (.int .u64 c0) ∧ w'.cell? ⟨w.heap.size, 1, none⟩ = some (.int .u64 c1) ∧ w'.cell? ⟨w.heap.size, 2, none⟩ = some (.int .u64 c2) ∧ w'.cell? ⟨w.heap.size, 3, none⟩ = some (.int .u64 c3) ∧ w'.cell? ⟨w.heap.size, 4, none⟩ = some (.int .u64 c4) ∧ w'.cell? ⟨w.heap.size, 5, none⟩ = some (.int .u64 c5) ∧ w'.cell? ⟨w5.heap.size, 0, none⟩ = some (.int .u64 (c0 / 16777216)) ∧ w'.cell? ⟨w5.heap.size, 1, none⟩ = some (.int .u64 (c1 / 16777216)) ∧ w'.cell? ⟨w5.heap.size, 2, none⟩ = some (.int .u64 (c2 / 16777216)) ∧ w'.cell? ⟨w5.heap.size, 3, none⟩ = some (.int .u64 (c3 / 16777216)) ∧ w'.cell? ⟨w5.heap.size, 4, none⟩ = some (.int .u64 (c4 / 16777216)) ∧ w'.cell? ⟨w5.heap.size, 5, none⟩ = some (.int .u64 (c5 / 16777216)) ∧ w'.cell? ⟨w9.heap.size, 0, none⟩ = some (.int .u64 0) ∧ w'.cell? ⟨w9.heap.size, 1, none⟩ = some (.int .u64 0) ∧ w'.cell? ⟨w9.heap.size, 2, none⟩ = some (.int .u64 0) ∧ w'.cell? ⟨w9.heap.size, 3, none⟩ = some (.int .u64 0) ∧ w'.cell? ⟨w9.heap.size, 4, none⟩ = some (.int .u64 0) ∧ w'.cell? ⟨w9.heap.size, 5, none⟩ = some (.int .u64 0))
    (first | exact ⟨d0, d1, d2, d3, d4, d5, x0, x1, x2, x3, x4, x5, y0, y1, y2, y3, y4, y5⟩ | exact s18 (by assumption) hx9 hy9 hz9 | go_keep)
    (first
      | (go_at_call 36; refine (small12_lit c0 c1 c2 c3 c4 c5 _).mono ?_; rintro e w10 ⟨rfl, hf10⟩; have hfd := Fr.of_drew hf10))
  go_wp2
  go_ret
  exact ⟨rfl, hfz.trans' hfd⟩

theorem tapart_out (a b c0 c1 c2 c3 c4 c5 : Int) (h : ¬ (0 ≤ a ∧ a ≤ 63 ∧ 0 ≤ b ∧ b ≤ 63 ∧ a ≠ b)) (w : World) :
    Calls Try.prog 11 #[.int .i64 a, .int .i64 b, .agg #[.int .u64 c0, .int .u64 c1, .int .u64 c2, .int .u64 c3, .int .u64 c4, .int .u64 c5]] w fun e w' => e = .returned (.bool true) ∧ Fr no w w' := by
  have hf0 : Fr no w (w.alloc (.cells #[.int .u64 c0, .int .u64 c1, .int .u64 c2, .int .u64 c3, .int .u64 c4, .int .u64 c5] 56)) := (Fr.refl no w).alloc _
  by_cases a1 : a < 0
  · go_enter Try.func11, Try.ntmps11
    go_wp2_with (go_at_call 34; refine (shown12_any _).mono ?_; rintro e w0 ⟨rfl, hf1⟩)
    go_ret
    exact ⟨rfl, hf0.trans' hf1⟩
  by_cases a2 : 63 < a
  · go_enter Try.func11, Try.ntmps11
    go_wp2_with (go_at_call 34; refine (shown12_any _).mono ?_; rintro e w0 ⟨rfl, hf1⟩)
    go_ret
    exact ⟨rfl, hf0.trans' hf1⟩
  by_cases a3 : b < 0
  · go_enter Try.func11, Try.ntmps11
    go_wp2_with (go_at_call 34; refine (shown12_any _).mono ?_; rintro e w0 ⟨rfl, hf1⟩)
    go_ret
    exact ⟨rfl, hf0.trans' hf1⟩
  by_cases a4 : 63 < b
  · go_enter Try.func11, Try.ntmps11
    go_wp2_with (go_at_call 34; refine (shown12_any _).mono ?_; rintro e w0 ⟨rfl, hf1⟩)
    go_ret
    exact ⟨rfl, hf0.trans' hf1⟩
  obtain rfl : a = b := by omega
  clear h
  go_enter Try.func11, Try.ntmps11
  go_wp2_with (go_at_call 34; refine (shown12_any _).mono ?_; rintro e w0 ⟨rfl, hf1⟩)
  go_ret
  exact ⟨rfl, hf0.trans' hf1⟩
theorem tapart_any (a b c0 c1 c2 c3 c4 c5 : Int) (h0 : 0 ≤ c0 ∧ c0 < 18446744073709551616) (h1 : 0 ≤ c1 ∧ c1 < 18446744073709551616) (h2 : 0 ≤ c2 ∧ c2 < 18446744073709551616) (h3 : 0 ≤ c3 ∧ c3 < 18446744073709551616) (h4 : 0 ≤ c4 ∧ c4 < 18446744073709551616) (h5 : 0 ≤ c5 ∧ c5 < 18446744073709551616) (w : World) :
    Calls Try.prog 11 #[.int .i64 a, .int .i64 b, .agg #[.int .u64 c0, .int .u64 c1, .int .u64 c2, .int .u64 c3, .int .u64 c4, .int .u64 c5]] w fun e w' => e = .returned (.bool true) ∧ Fr no w w' := by
  by_cases h : 0 ≤ a ∧ a ≤ 63 ∧ 0 ≤ b ∧ b ≤ 63 ∧ a ≠ b
  · exact tapart_ok a b c0 c1 c2 c3 c4 c5 h.1 h.2.1 h.2.2.1 h.2.2.2.1 h.2.2.2.2 h0 h1 h2 h3 h4 h5 w
  · exact tapart_out a b c0 c1 c2 c3 c4 c5 h w
end Go.Proofs.Ytkilibdalgnghaa
