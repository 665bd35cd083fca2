/-
  The law TallyRetries, walked.
-/
import Derived.Test.YtkilibdalgnghaaLaw12d
import Derived.Test.YtkilibdalgnghaaLaw12c
namespace Go.Proofs.Ytkilibdalgnghaa
set_option linter.unusedVariables false
set_option linter.unusedSimpArgs false
open Go.RowKit Go.Shelf

theorem loads_get (L : List Int) (i : Int) (l : Nat → Int) (n j : Nat) : loads L i l n j = if j < n then rowC L i j else l j := by
  induction n with
  | zero => simp [loads]
  | succ n ih =>
    rw [loads, upd]
    by_cases h : j = n
    · subst h; simp
    · rw [if_neg h, ih]
      by_cases h2 : j < n
      · rw [if_pos h2, if_pos (by omega)]
      · rw [if_neg h2, if_neg (by omega)]
theorem hrow_any (s0 s1 s2 s3 s4 s5 : Int) (h0 : 0 ≤ s0 ∧ s0 < 1099511627776) (h1 : 0 ≤ s1 ∧ s1 < 1099511627776) (h2 : 0 ≤ s2 ∧ s2 < 1099511627776) (h3 : 0 ≤ s3 ∧ s3 < 1099511627776) (h4 : 0 ≤ s4 ∧ s4 < 1099511627776) (h5 : 0 ≤ s5 ∧ s5 < 1099511627776) : ∀ j, j < 6 → rowC (addK (rep0 6) 0 (mk6 s0 s1 s2 s3 s4 s5) 6) 0 j = (mk6 s0 s1 s2 s3 s4 s5) j := fun j hj => by
  rw [rowC_add (by omega) (by rw [rep0_length]; omega) hj, if_pos rfl, rowC_rep0, Int.zero_add]
  obtain rfl | rfl | rfl | rfl | rfl | rfl : j = 0 ∨ j = 1 ∨ j = 2 ∨ j = 3 ∨ j = 4 ∨ j = 5 := by omega
  all_goals simp only [mk6]; omega
set_option maxRecDepth 100000 in
set_option maxHeartbeats 6400000 in
/-- The counts are changed ahead of the reader's first step. -/
theorem tretries_0 (c0 c1 c2 c3 c4 c5 s0 s1 s2 s3 s4 s5 : Int) (e0 : c0 / 16777216 = s0) (e1 : c1 / 16777216 = s1) (e2 : c2 / 16777216 = s2) (e3 : c3 / 16777216 = s3) (e4 : c4 / 16777216 = s4) (e5 : c5 / 16777216 = s5) (h0 : 0 ≤ s0 ∧ s0 < 1099511627776) (h1 : 0 ≤ s1 ∧ s1 < 1099511627776) (h2 : 0 ≤ s2 ∧ s2 < 1099511627776) (h3 : 0 ≤ s3 ∧ s3 < 1099511627776) (h4 : 0 ≤ s4 ∧ s4 < 1099511627776) (h5 : 0 ≤ s5 ∧ s5 < 1099511627776) (w : World) :
    Calls Try.prog 12 #[.agg #[.int .u64 c0, .int .u64 c1, .int .u64 c2, .int .u64 c3, .int .u64 c4, .int .u64 c5], .int .i64 0] w fun e w' => e = .returned (.bool true) ∧ Fr no w w' := by
  have hx0 : Blk (w.alloc (.cells #[.int .u64 c0, .int .u64 c1, .int .u64 c2, .int .u64 c3, .int .u64 c4, .int .u64 c5] 56)) w.heap.size 56 (six (mk6 c0 c1 c2 c3 c4 c5)) := Blk.new _ _ _
  have hf0 : Fr no w (w.alloc (.cells #[.int .u64 c0, .int .u64 c1, .int .u64 c2, .int .u64 c3, .int .u64 c4, .int .u64 c5] 56)) := (Fr.refl no w).alloc _
  have HSM := fun W => small12_lit c0 c1 c2 c3 c4 c5 W
  rw [e0, e1, e2, e3, e4, e5] at HSM
  have HSM := Lib.hid HSM
  clear e0 e1 e2 e3 e4 e5
  go_enter Try.func12, Try.ntmps12
  go_wp2_with fail
  refine (shown12_any _).mono ?_
  rintro e w0 ⟨rfl, hf1⟩
  have hx1 := hf1.blk hx0 (no_not _)
  have hfa := hf0.trans' hf1
  clear hx0 hf0 hf1
  obtain ⟨d0, d1, d2, d3, d4, d5⟩ := c6 hx1
  go_wp2_with fail
  refine (HSM.out w0).mono ?_
  rintro e w1 ⟨rfl, hf2⟩
  have hx2 := hf2.blk hx1 (no_not _)
  have hfb := hfa.trans' hf2
  clear hx1 hfa hf2 d0 d1 d2 d3 d4 d5
  obtain ⟨d0, d1, d2, d3, d4, d5⟩ := c6 hx2
  have z0 := hx2.frozen
  have hx3 : Blk ((((((w1.setCell ⟨w.heap.size, 0, none⟩ (.int .u64 s0)).setCell ⟨w.heap.size, 1, none⟩ (.int .u64 s1)).setCell ⟨w.heap.size, 2, none⟩ (.int .u64 s2)).setCell ⟨w.heap.size, 3, none⟩ (.int .u64 s3)).setCell ⟨w.heap.size, 4, none⟩ (.int .u64 s4)).setCell ⟨w.heap.size, 5, none⟩ (.int .u64 s5)) w.heap.size 56 (six (mk6 s0 s1 s2 s3 s4 s5)) := ((((((hx2.set_ 0 _).set_ 1 _).set_ 2 _).set_ 3 _).set_ 4 _).set_ 5 _)
  have hfc : Fr no w ((((((w1.setCell ⟨w.heap.size, 0, none⟩ (.int .u64 s0)).setCell ⟨w.heap.size, 1, none⟩ (.int .u64 s1)).setCell ⟨w.heap.size, 2, none⟩ (.int .u64 s2)).setCell ⟨w.heap.size, 3, none⟩ (.int .u64 s3)).setCell ⟨w.heap.size, 4, none⟩ (.int .u64 s4)).setCell ⟨w.heap.size, 5, none⟩ (.int .u64 s5)) := ((((((hfb.setCell (p := ⟨w.heap.size, 0, none⟩) (.inr (Nat.le_refl _)) _).setCell (p := ⟨w.heap.size, 1, none⟩) (.inr (Nat.le_refl _)) _).setCell (p := ⟨w.heap.size, 2, none⟩) (.inr (Nat.le_refl _)) _).setCell (p := ⟨w.heap.size, 3, none⟩) (.inr (Nat.le_refl _)) _).setCell (p := ⟨w.heap.size, 4, none⟩) (.inr (Nat.le_refl _)) _).setCell (p := ⟨w.heap.size, 5, none⟩) (.inr (Nat.le_refl _)) _)
  go_wp2_with fail
  refine (tNew_ok 1 _ (by omega) (by omega)).mono ?_
  rintro e w2 ⟨tb, cb, F, rfl, ht, hF, htb, hf3⟩
  have hx4 := hf3.blk hx3 (no_not _)
  have hs1 := TSt.beside (K := fun k => k = w.heap.size) ht (fun k hk => by subst hk; exact ⟨fun h => by have := hF _ h; have := hx3.lt; omega, hx4.lt⟩)
  have HF := Lib.hid (fun k hk => Nat.le_trans hfc.size (hF k hk))
  have hfd := hfc.trans' hf3
  have HT := Lib.hid ht
  clear hx2 hx3 hF ht d0 d1 d2 d3 d4 d5 z0 hfb hfc hf3
  go_wp2_with fail
  refine (tReader_in F _ tb cb 1 _ _ 0 HT.out (by rfl)).mono ?_
  rintro e w3 ⟨rfl, rfl⟩
  have hs2 := RSt.start (i := 0) hs1
  have hx5 := hx4.alloc (.cells (rdCells tb 0 0 0 fun _ => 0) 126)
  clear hs1 hx4
  go_wp2
  refine wp_loop_rounds 1 ?_
  rw [rounds_succ]
  obtain ⟨d0, d1, d2, d3, d4, d5⟩ := c6 hx5
  have hn1 : noL0 (rep0 6) [0] 0 (mk6 s0 s1 s2 s3 s4 s5) = addK (rep0 6) 0 (mk6 s0 s1 s2 s3 s4 s5) 6 := by rw [noL0, if_pos (by first | rfl | kernel_rfl)]
  have HN1 := Lib.hid hn1
  clear hn1
  go_wp2_with fail
  refine (hs2.note 0 (mk6 s0 s1 s2 s3 s4 s5) (r := .int .i64 0) (m2 := [2]) (by first | rfl | kernel_rfl) HN1.out (by first | rfl | kernel_rfl)).mono ?_
  rintro e w4 ⟨rfl, hs4, hk4⟩
  have hx9 := hk4.blk hx5 rfl
  clear hs2 hx5 hk4 d0 d1 d2 d3 d4 d5
  have HROW : Hid (∀ j, j < 6 → rowC (addK (rep0 6) 0 (mk6 s0 s1 s2 s3 s4 s5) 6) 0 j = (mk6 s0 s1 s2 s3 s4 s5) j) := Lib.hid (hrow_any s0 s1 s2 s3 s4 s5 h0 h1 h2 h3 h4 h5)
  clear HN1
  generalize addK (rep0 6) 0 (mk6 s0 s1 s2 s3 s4 s5) 6 = L at *
  go_wp2
  go_loopw [15] (fun i wr => ∃ (m nx : Nat) (at2 : Int) (l0 l : Nat → Int), m ≤ 8 ∧ i = .int .i64 m ∧ (m ≤ 7 → nx = m) ∧ (m = 8 → nx = 0) ∧ (1 ≤ m → m ≤ 7 → at2 = 2 ∧ l = loads L 0 l0 (m - 1)) ∧ RSt F w2 (fun k => k = w.heap.size) w2.heap.size tb cb 1 L [2] 0 nx at2 l wr ∧ Blk wr w.heap.size 56 (six (mk6 s0 s1 s2 s3 s4 s5))) (fun i _ => 8 - (intOf i).toNat)
  case atStart => exact ⟨0, 0, _, no6, no6, by omega, rfl, fun _ => rfl, fun h => by omega, fun h1 => by omega, hs4, hx9⟩
  case round =>
    obtain ⟨m, nx, at2, l0, l, hm8, rfl, hnx, hnx8, hz, hs5, hx7⟩ := hrel
    clear hs4
    by_cases hlt8 : m < 8
    · obtain rfl := hnx (by omega)
      clear hnx hnx8
      by_cases hm0 : nx = 0
      · subst hm0
        have HB := Lib.hid (hs5.begin_ok (by rfl) (by rfl))
        clear hz
        go_wp2_with fail
        refine HB.out.mono ?_
        rintro e w5 ⟨rfl, hs6, hk6⟩
        have hx8 := (hk6.blk hx7 rfl).alloc (.cells #[.int .u64 0, .int .u64 0, .int .u64 0, .int .u64 0, .int .u64 0, .int .u64 0] 56)
        have hs7 := hs6.keep ((Fr.refl no w5).alloc (.cells #[.int .u64 0, .int .u64 0, .int .u64 0, .int .u64 0, .int .u64 0, .int .u64 0] 56))
        clear hs5 hs6 HB hx7 hk6
        go_wp2
        all_goals
          go_roundw
          case rel => exact ⟨1, 1, 2, l, l, by omega, by go_num, fun _ => rfl, fun h => by omega, fun _ _ => ⟨rfl, rfl⟩, hs7, hx8⟩
          case measure => first | (simp [intOf]; done) | (simp [intOf]; omega)
      · obtain ⟨j, rfl⟩ : ∃ j, nx = j + 1 := ⟨nx - 1, by omega⟩
        by_cases hj : j < 6
        · have HB := Lib.hid (RSt.load j hj hs5 (by omega) (by omega))
          have hj7 : ((j : Int) + 1) < 7 := by omega
          have hj8 : ((j : Int) + 1) < 8 := by omega
          have hne7 : ((j : Int) + 1 == 7) = false := by simp; omega
          have HZ := Lib.hid hz
          clear hz hm0
          go_wp2_with fail
          refine HB.out.mono ?_
          rintro e w5 ⟨rfl, hs6, hk6⟩
          have hx8 := (hk6.blk hx7 rfl).alloc (.cells #[.int .u64 0, .int .u64 0, .int .u64 0, .int .u64 0, .int .u64 0, .int .u64 0] 56)
          have hs7 := hs6.keep ((Fr.refl no w5).alloc (.cells #[.int .u64 0, .int .u64 0, .int .u64 0, .int .u64 0, .int .u64 0, .int .u64 0] 56))
          clear hs5 hs6 HB hx7 hk6
          go_wp2
          all_goals
            go_roundw
            case rel => exact ⟨j + 2, j + 2, at2, l0, _, by omega, by go_num, fun _ => rfl, fun h => by omega, fun _ _ => ⟨(HZ.out (by omega) (by omega)).1, by have := (HZ.out (by omega) (by omega)).2; simp only [Nat.add_sub_cancel] at this; rw [this]; rfl⟩, hs7, hx8⟩
            case measure => first | (simp [intOf]; done) | (simp [intOf]; omega)
        · obtain rfl : j = 6 := by omega
          obtain ⟨hat, hl⟩ := hz (by omega) (by omega)
          have hl6 : ∀ j, j < 6 → l j = (mk6 s0 s1 s2 s3 s4 s5) j := fun j hj => by rw [hl, ← HROW.out j hj, loads_get, if_pos (by omega)]
          have HB := hs5.end_ok (by rfl) (by rw [hat]; rfl)
          rw [show l 0 = s0 from hl6 0 (by omega), show l 1 = s1 from hl6 1 (by omega), show l 2 = s2 from hl6 2 (by omega), show l 3 = s3 from hl6 3 (by omega), show l 4 = s4 from hl6 4 (by omega), show l 5 = s5 from hl6 5 (by omega)] at HB
          have HB := Lib.hid HB
          clear hz hm0 hat hl hl6 hj
          go_wp2_with fail
          refine HB.out.mono ?_
          rintro e w5 ⟨rfl, hs6, hk6⟩
          have hx8 := (hk6.blk hx7 rfl).alloc (.cells #[.int .u64 s0, .int .u64 s1, .int .u64 s2, .int .u64 s3, .int .u64 s4, .int .u64 s5] 56)
          have hs7 := hs6.keep ((Fr.refl no w5).alloc (.cells #[.int .u64 s0, .int .u64 s1, .int .u64 s2, .int .u64 s3, .int .u64 s4, .int .u64 s5] 56))
          clear hs5 hs6 hx7 hk6 HB
          obtain ⟨d0, d1, d2, d3, d4, d5⟩ := c6 hx8
          go_wp2
          all_goals
            go_roundw
            case rel => exact ⟨8, 0, at2, l0, l, by omega, by go_num, fun h => by omega, fun _ => rfl, fun _ h => by omega, hs7, hx8⟩
            case measure => first | (simp [intOf]; done) | (simp [intOf]; omega)
    · obtain rfl := hnx8 (by omega)
      have hm' : (m : Int) = 8 := by omega
      rw [hm']
      clear hnx hnx8 hz hm' hlt8 hm8
      have hsA := hs5
      have hxA := hx7
      clear hs5 hx7
      go_wp2
      go_loopw [19] (fun i wr => ∃ (m nx : Nat) (at2 : Int) (l0 l : Nat → Int), m ≤ 8 ∧ i = .int .i64 m ∧ (m ≤ 7 → nx = m) ∧ (m = 8 → nx = 0) ∧ (1 ≤ m → m ≤ 7 → at2 = 2 ∧ l = loads L 0 l0 (m - 1)) ∧ RSt F w2 (fun k => k = w.heap.size) w2.heap.size tb cb 1 L [2] 0 nx at2 l wr ∧ Blk wr w.heap.size 56 (six (mk6 s0 s1 s2 s3 s4 s5))) (fun i _ => 8 - (intOf i).toNat)
      case atStart => exact ⟨0, 0, _, l, l, by omega, rfl, fun _ => rfl, fun h => by omega, fun h1 => by omega, hsA, hxA⟩
      case round =>
        obtain ⟨m, nx, at2, l0, l, hm8, rfl, hnx, hnx8, hz, hs5, hx7⟩ := hrel
        clear hsA
        by_cases hlt8 : m < 8
        · obtain rfl := hnx (by omega)
          clear hnx hnx8
          by_cases hm0 : nx = 0
          · subst hm0
            have HB := Lib.hid (hs5.begin_ok (by rfl) (by rfl))
            clear hz
            go_wp2_with fail
            refine HB.out.mono ?_
            rintro e w5 ⟨rfl, hs6, hk6⟩
            have hx8 := (hk6.blk hx7 rfl).alloc (.cells #[.int .u64 0, .int .u64 0, .int .u64 0, .int .u64 0, .int .u64 0, .int .u64 0] 56)
            have hs7 := hs6.keep ((Fr.refl no w5).alloc (.cells #[.int .u64 0, .int .u64 0, .int .u64 0, .int .u64 0, .int .u64 0, .int .u64 0] 56))
            clear hs5 hs6 HB hx7 hk6
            go_wp2
            all_goals
              go_roundw
              case rel => exact ⟨1, 1, 2, l, l, by omega, by go_num, fun _ => rfl, fun h => by omega, fun _ _ => ⟨rfl, rfl⟩, hs7, hx8⟩
              case measure => first | (simp [intOf]; done) | (simp [intOf]; omega)
          · obtain ⟨j, rfl⟩ : ∃ j, nx = j + 1 := ⟨nx - 1, by omega⟩
            by_cases hj : j < 6
            · have HB := Lib.hid (RSt.load j hj hs5 (by omega) (by omega))
              have hj7 : ((j : Int) + 1) < 7 := by omega
              have hj8 : ((j : Int) + 1) < 8 := by omega
              have hne7 : ((j : Int) + 1 == 7) = false := by simp; omega
              have HZ := Lib.hid hz
              clear hz hm0
              go_wp2_with fail
              refine HB.out.mono ?_
              rintro e w5 ⟨rfl, hs6, hk6⟩
              have hx8 := (hk6.blk hx7 rfl).alloc (.cells #[.int .u64 0, .int .u64 0, .int .u64 0, .int .u64 0, .int .u64 0, .int .u64 0] 56)
              have hs7 := hs6.keep ((Fr.refl no w5).alloc (.cells #[.int .u64 0, .int .u64 0, .int .u64 0, .int .u64 0, .int .u64 0, .int .u64 0] 56))
              clear hs5 hs6 HB hx7 hk6
              go_wp2
              all_goals
                go_roundw
                case rel => exact ⟨j + 2, j + 2, at2, l0, _, by omega, by go_num, fun _ => rfl, fun h => by omega, fun _ _ => ⟨(HZ.out (by omega) (by omega)).1, by have := (HZ.out (by omega) (by omega)).2; simp only [Nat.add_sub_cancel] at this; rw [this]; rfl⟩, hs7, hx8⟩
                case measure => first | (simp [intOf]; done) | (simp [intOf]; omega)
            · obtain rfl : j = 6 := by omega
              obtain ⟨hat, hl⟩ := hz (by omega) (by omega)
              have hl6 : ∀ j, j < 6 → l j = (mk6 s0 s1 s2 s3 s4 s5) j := fun j hj => by rw [hl, ← HROW.out j hj, loads_get, if_pos (by omega)]
              have HB := hs5.end_ok (by rfl) (by rw [hat]; rfl)
              rw [show l 0 = s0 from hl6 0 (by omega), show l 1 = s1 from hl6 1 (by omega), show l 2 = s2 from hl6 2 (by omega), show l 3 = s3 from hl6 3 (by omega), show l 4 = s4 from hl6 4 (by omega), show l 5 = s5 from hl6 5 (by omega)] at HB
              have HB := Lib.hid HB
              clear hz hm0 hat hl hl6 hj
              go_wp2_with fail
              refine HB.out.mono ?_
              rintro e w5 ⟨rfl, hs6, hk6⟩
              have hx8 := (hk6.blk hx7 rfl).alloc (.cells #[.int .u64 s0, .int .u64 s1, .int .u64 s2, .int .u64 s3, .int .u64 s4, .int .u64 s5] 56)
              have hs7 := hs6.keep ((Fr.refl no w5).alloc (.cells #[.int .u64 s0, .int .u64 s1, .int .u64 s2, .int .u64 s3, .int .u64 s4, .int .u64 s5] 56))
              clear hs5 hs6 hx7 hk6 HB
              obtain ⟨d0, d1, d2, d3, d4, d5⟩ := c6 hx8
              go_wp2
              all_goals
                go_roundw
                case rel => exact ⟨8, 0, at2, l0, l, by omega, by go_num, fun h => by omega, fun _ => rfl, fun _ h => by omega, hs7, hx8⟩
                case measure => first | (simp [intOf]; done) | (simp [intOf]; omega)
        · obtain rfl := hnx8 (by omega)
          have hm' : (m : Int) = 8 := by omega
          rw [hm']
          clear hnx hnx8 hz hm' hlt8 hm8
          have HS := hs5
          clear hx7
          go_wp2
          go_ret
          exact ⟨rfl, HS.fr0 HF.out hfd⟩

set_option maxRecDepth 100000 in
set_option maxHeartbeats 6400000 in
/-- They are changed behind it. -/
theorem tretries_s (a : Nat) (ha1 : 1 ≤ a) (ha : a ≤ 7) (c0 c1 c2 c3 c4 c5 s0 s1 s2 s3 s4 s5 : Int) (e0 : c0 / 16777216 = s0) (e1 : c1 / 16777216 = s1) (e2 : c2 / 16777216 = s2) (e3 : c3 / 16777216 = s3) (e4 : c4 / 16777216 = s4) (e5 : c5 / 16777216 = s5) (h0 : 0 ≤ s0 ∧ s0 < 1099511627776) (h1 : 0 ≤ s1 ∧ s1 < 1099511627776) (h2 : 0 ≤ s2 ∧ s2 < 1099511627776) (h3 : 0 ≤ s3 ∧ s3 < 1099511627776) (h4 : 0 ≤ s4 ∧ s4 < 1099511627776) (h5 : 0 ≤ s5 ∧ s5 < 1099511627776) (w : World) :
    Calls Try.prog 12 #[.agg #[.int .u64 c0, .int .u64 c1, .int .u64 c2, .int .u64 c3, .int .u64 c4, .int .u64 c5], .int .i64 a] w fun e w' => e = .returned (.bool true) ∧ Fr no w w' := by
  have ha0 : ¬ ((a : Int) < 0) := by omega
  have ha7 : ¬ ((7 : Int) < a) := by omega
  have hp1 : decide (0 < (a : Int)) = true := by simp; omega
  have hp2 : decide (0 < a) = true := by simp; omega
  have hp3 : ((a : Int) == 0) = false := by simp; omega
  have hx0 : Blk (w.alloc (.cells #[.int .u64 c0, .int .u64 c1, .int .u64 c2, .int .u64 c3, .int .u64 c4, .int .u64 c5] 56)) w.heap.size 56 (six (mk6 c0 c1 c2 c3 c4 c5)) := Blk.new _ _ _
  have hf0 : Fr no w (w.alloc (.cells #[.int .u64 c0, .int .u64 c1, .int .u64 c2, .int .u64 c3, .int .u64 c4, .int .u64 c5] 56)) := (Fr.refl no w).alloc _
  have HSM := fun W => small12_lit c0 c1 c2 c3 c4 c5 W
  rw [e0, e1, e2, e3, e4, e5] at HSM
  have HSM := Lib.hid HSM
  clear e0 e1 e2 e3 e4 e5
  go_enter Try.func12, Try.ntmps12
  go_wp2_with fail
  refine (shown12_any _).mono ?_
  rintro e w0 ⟨rfl, hf1⟩
  have hx1 := hf1.blk hx0 (no_not _)
  have hfa := hf0.trans' hf1
  clear hx0 hf0 hf1
  obtain ⟨d0, d1, d2, d3, d4, d5⟩ := c6 hx1
  go_wp2_with fail
  refine (HSM.out w0).mono ?_
  rintro e w1 ⟨rfl, hf2⟩
  have hx2 := hf2.blk hx1 (no_not _)
  have hfb := hfa.trans' hf2
  clear hx1 hfa hf2 d0 d1 d2 d3 d4 d5
  obtain ⟨d0, d1, d2, d3, d4, d5⟩ := c6 hx2
  have z0 := hx2.frozen
  have hx3 : Blk ((((((w1.setCell ⟨w.heap.size, 0, none⟩ (.int .u64 s0)).setCell ⟨w.heap.size, 1, none⟩ (.int .u64 s1)).setCell ⟨w.heap.size, 2, none⟩ (.int .u64 s2)).setCell ⟨w.heap.size, 3, none⟩ (.int .u64 s3)).setCell ⟨w.heap.size, 4, none⟩ (.int .u64 s4)).setCell ⟨w.heap.size, 5, none⟩ (.int .u64 s5)) w.heap.size 56 (six (mk6 s0 s1 s2 s3 s4 s5)) := ((((((hx2.set_ 0 _).set_ 1 _).set_ 2 _).set_ 3 _).set_ 4 _).set_ 5 _)
  have hfc : Fr no w ((((((w1.setCell ⟨w.heap.size, 0, none⟩ (.int .u64 s0)).setCell ⟨w.heap.size, 1, none⟩ (.int .u64 s1)).setCell ⟨w.heap.size, 2, none⟩ (.int .u64 s2)).setCell ⟨w.heap.size, 3, none⟩ (.int .u64 s3)).setCell ⟨w.heap.size, 4, none⟩ (.int .u64 s4)).setCell ⟨w.heap.size, 5, none⟩ (.int .u64 s5)) := ((((((hfb.setCell (p := ⟨w.heap.size, 0, none⟩) (.inr (Nat.le_refl _)) _).setCell (p := ⟨w.heap.size, 1, none⟩) (.inr (Nat.le_refl _)) _).setCell (p := ⟨w.heap.size, 2, none⟩) (.inr (Nat.le_refl _)) _).setCell (p := ⟨w.heap.size, 3, none⟩) (.inr (Nat.le_refl _)) _).setCell (p := ⟨w.heap.size, 4, none⟩) (.inr (Nat.le_refl _)) _).setCell (p := ⟨w.heap.size, 5, none⟩) (.inr (Nat.le_refl _)) _)
  go_wp2_with fail
  refine (tNew_ok 1 _ (by omega) (by omega)).mono ?_
  rintro e w2 ⟨tb, cb, F, rfl, ht, hF, htb, hf3⟩
  have hx4 := hf3.blk hx3 (no_not _)
  have hs1 := TSt.beside (K := fun k => k = w.heap.size) ht (fun k hk => by subst hk; exact ⟨fun h => by have := hF _ h; have := hx3.lt; omega, hx4.lt⟩)
  have HF := Lib.hid (fun k hk => Nat.le_trans hfc.size (hF k hk))
  have hfd := hfc.trans' hf3
  have HT := Lib.hid ht
  clear hx2 hx3 hF ht d0 d1 d2 d3 d4 d5 z0 hfb hfc hf3
  go_wp2_with fail
  refine (tReader_in F _ tb cb 1 _ _ 0 HT.out (by rfl)).mono ?_
  rintro e w3 ⟨rfl, rfl⟩
  have hs2 := RSt.start (i := 0) hs1
  have hx5 := hx4.alloc (.cells (rdCells tb 0 0 0 fun _ => 0) 126)
  clear hs1 hx4
  go_wp2
  go_loopw [10] (fun i wr => ∃ (k : Nat) (l : Nat → Int), k ≤ a ∧ i = .int .i64 k ∧ RSt F w2 (fun k => k = w.heap.size) w2.heap.size tb cb 1 (rep0 6) [0] 0 k 0 l wr ∧ Blk wr w.heap.size 56 (six (mk6 s0 s1 s2 s3 s4 s5))) (fun i _ => a - (intOf i).toNat)
  case atStart => exact ⟨0, no6, Nat.zero_le _, rfl, hs2, hx5⟩
  case round =>
    obtain ⟨k, l, hk, rfl, hs5, hx7⟩ := hrel
    clear hs2 hx5
    by_cases hlt : k < a
    · by_cases hk0 : k = 0
      · subst hk0
        have HB := Lib.hid (hs5.begin_ok (by rfl) (by rfl))
        go_wp2_with fail
        refine HB.out.mono ?_
        rintro e w5 ⟨rfl, hs6, hk6⟩
        have hx8 := (hk6.blk hx7 rfl).alloc (.cells #[.int .u64 0, .int .u64 0, .int .u64 0, .int .u64 0, .int .u64 0, .int .u64 0] 56)
        have hs7 := hs6.keep ((Fr.refl no w5).alloc (.cells #[.int .u64 0, .int .u64 0, .int .u64 0, .int .u64 0, .int .u64 0, .int .u64 0] 56))
        clear hs5 hs6 HB hx7 hk6
        go_wp2
        all_goals
          go_roundw
          case rel => exact ⟨1, l, by omega, by go_num, hs7, hx8⟩
          case measure => simp [intOf]; omega
      · obtain ⟨j, rfl⟩ : ∃ j, k = j + 1 := ⟨k - 1, by omega⟩
        have hj : j < 6 := by omega
        clear hk0
        have HB := Lib.hid (RSt.load j hj hs5 (by omega) (by omega))
        have hj7 : ((j : Int) + 1) < 7 := by omega
        have hj8 : ((j : Int) + 1) < 8 := by omega
        have hne7 : ((j : Int) + 1 == 7) = false := by simp; omega
        go_wp2_with fail
        refine HB.out.mono ?_
        rintro e w5 ⟨rfl, hs6, hk6⟩
        have hx8 := (hk6.blk hx7 rfl).alloc (.cells #[.int .u64 0, .int .u64 0, .int .u64 0, .int .u64 0, .int .u64 0, .int .u64 0] 56)
        have hs7 := hs6.keep ((Fr.refl no w5).alloc (.cells #[.int .u64 0, .int .u64 0, .int .u64 0, .int .u64 0, .int .u64 0, .int .u64 0] 56))
        clear hs5 hs6 HB hx7 hk6
        go_wp2
        all_goals
          go_roundw
          case rel => exact ⟨j + 2, _, by omega, by go_num, hs7, hx8⟩
          case measure => first | (simp [intOf]; done) | (simp [intOf]; omega)
    · have hka : (k : Int) = a := by omega
      rw [hka] at hs5 ⊢
      clear hka hlt hk
      obtain ⟨d0, d1, d2, d3, d4, d5⟩ := c6 hx7
      have hn1 : noL0 (rep0 6) [0] 0 (mk6 s0 s1 s2 s3 s4 s5) = addK (rep0 6) 0 (mk6 s0 s1 s2 s3 s4 s5) 6 := by rw [noL0, if_pos (by first | rfl | kernel_rfl)]
      have HN1 := Lib.hid hn1
      clear hn1
      go_wp2_with fail
      refine (hs5.note 0 (mk6 s0 s1 s2 s3 s4 s5) (r := .int .i64 0) (m2 := [2]) (by first | rfl | kernel_rfl) HN1.out (by first | rfl | kernel_rfl)).mono ?_
      rintro e w4 ⟨rfl, hs4, hk4⟩
      have hx9 := hk4.blk hx7 rfl
      clear hs5 hx7 hk4 d0 d1 d2 d3 d4 d5
      have HROW : Hid (∀ j, j < 6 → rowC (addK (rep0 6) 0 (mk6 s0 s1 s2 s3 s4 s5) 6) 0 j = (mk6 s0 s1 s2 s3 s4 s5) j) := Lib.hid (hrow_any s0 s1 s2 s3 s4 s5 h0 h1 h2 h3 h4 h5)
      clear HN1
      generalize addK (rep0 6) 0 (mk6 s0 s1 s2 s3 s4 s5) 6 = L at *
      go_wp2
      go_loopw [15] (fun i wr => ∃ (m nx : Nat) (l : Nat → Int), a ≤ m ∧ m ≤ 8 ∧ i = .int .i64 m ∧ (m ≤ 7 → nx = m) ∧ (m = 8 → nx = 0) ∧ RSt F w2 (fun k => k = w.heap.size) w2.heap.size tb cb 1 L [2] 0 nx 0 l wr ∧ Blk wr w.heap.size 56 (six (mk6 s0 s1 s2 s3 s4 s5))) (fun i _ => 8 - (intOf i).toNat)
      case atStart => exact ⟨a, a, l, Nat.le_refl _, by omega, rfl, fun _ => rfl, fun h => by omega, hs4, hx9⟩
      case round =>
        clear hs4 hx9
        obtain ⟨m, nx, l, ham, hm8, rfl, hnx, hnx8, hs5, hx7⟩ := hrel
        by_cases hlt8 : m < 8
        · obtain rfl := hnx (by omega)
          clear hnx hnx8
          obtain ⟨j, rfl⟩ : ∃ j, nx = j + 1 := ⟨nx - 1, by omega⟩
          by_cases hj : j < 6
          · skip
            have HB := Lib.hid (RSt.load j hj hs5 (by omega) (by omega))
            have hj7 : ((j : Int) + 1) < 7 := by omega
            have hj8 : ((j : Int) + 1) < 8 := by omega
            have hne7 : ((j : Int) + 1 == 7) = false := by simp; omega
            go_wp2_with fail
            refine HB.out.mono ?_
            rintro e w5 ⟨rfl, hs6, hk6⟩
            have hx8 := (hk6.blk hx7 rfl).alloc (.cells #[.int .u64 0, .int .u64 0, .int .u64 0, .int .u64 0, .int .u64 0, .int .u64 0] 56)
            have hs7 := hs6.keep ((Fr.refl no w5).alloc (.cells #[.int .u64 0, .int .u64 0, .int .u64 0, .int .u64 0, .int .u64 0, .int .u64 0] 56))
            clear hs5 hs6 HB hx7 hk6
            go_wp2
            all_goals
              go_roundw
              case rel => exact ⟨j + 2, j + 2, _, by omega, by omega, by go_num, fun _ => rfl, fun h => by omega, hs7, hx8⟩
              case measure => first | (simp [intOf]; done) | (simp [intOf]; omega)
          · obtain rfl : j = 6 := by omega
            have HB := Lib.hid (hs5.end_no (by rfl) (by rfl))
            clear hj
            go_wp2_with fail
            refine HB.out.mono ?_
            rintro e w5 ⟨rfl, hs6, hk6⟩
            have hx8 := (hk6.blk hx7 rfl).alloc (.cells #[.int .u64 0, .int .u64 0, .int .u64 0, .int .u64 0, .int .u64 0, .int .u64 0] 56)
            have hs7 := hs6.keep ((Fr.refl no w5).alloc (.cells #[.int .u64 0, .int .u64 0, .int .u64 0, .int .u64 0, .int .u64 0, .int .u64 0] 56))
            clear hs5 hs6 HB hx7 hk6
            go_wp2
            all_goals
              go_roundw
              case rel => exact ⟨8, 0, l, by omega, by omega, by go_num, fun h => by omega, fun _ => rfl, hs7, hx8⟩
              case measure => first | (simp [intOf]; done) | (simp [intOf]; omega)
        · obtain rfl := hnx8 (by omega)
          have hm' : (m : Int) = 8 := by omega
          rw [hm']
          clear hnx hnx8 hm' hlt8 hm8 ham
          have hsA := hs5
          have hxA := hx7
          clear hs5 hx7
          go_wp2
          go_loopw [19] (fun i wr => ∃ (m nx : Nat) (at2 : Int) (l0 l : Nat → Int), m ≤ 8 ∧ i = .int .i64 m ∧ (m ≤ 7 → nx = m) ∧ (m = 8 → nx = 0) ∧ (1 ≤ m → m ≤ 7 → at2 = 2 ∧ l = loads L 0 l0 (m - 1)) ∧ RSt F w2 (fun k => k = w.heap.size) w2.heap.size tb cb 1 L [2] 0 nx at2 l wr ∧ Blk wr w.heap.size 56 (six (mk6 s0 s1 s2 s3 s4 s5))) (fun i _ => 8 - (intOf i).toNat)
          case atStart => exact ⟨0, 0, _, l, l, by omega, rfl, fun _ => rfl, fun h => by omega, fun h1 => by omega, hsA, hxA⟩
          case round =>
            obtain ⟨m, nx, at2, l0, l, hm8, rfl, hnx, hnx8, hz, hs5, hx7⟩ := hrel
            clear hsA
            by_cases hlt8 : m < 8
            · obtain rfl := hnx (by omega)
              clear hnx hnx8
              by_cases hm0 : nx = 0
              · subst hm0
                have HB := Lib.hid (hs5.begin_ok (by rfl) (by rfl))
                clear hz
                go_wp2_with fail
                refine HB.out.mono ?_
                rintro e w5 ⟨rfl, hs6, hk6⟩
                have hx8 := (hk6.blk hx7 rfl).alloc (.cells #[.int .u64 0, .int .u64 0, .int .u64 0, .int .u64 0, .int .u64 0, .int .u64 0] 56)
                have hs7 := hs6.keep ((Fr.refl no w5).alloc (.cells #[.int .u64 0, .int .u64 0, .int .u64 0, .int .u64 0, .int .u64 0, .int .u64 0] 56))
                clear hs5 hs6 HB hx7 hk6
                go_wp2
                all_goals
                  go_roundw
                  case rel => exact ⟨1, 1, 2, l, l, by omega, by go_num, fun _ => rfl, fun h => by omega, fun _ _ => ⟨rfl, rfl⟩, hs7, hx8⟩
                  case measure => first | (simp [intOf]; done) | (simp [intOf]; omega)
              · obtain ⟨j, rfl⟩ : ∃ j, nx = j + 1 := ⟨nx - 1, by omega⟩
                by_cases hj : j < 6
                · have HB := Lib.hid (RSt.load j hj hs5 (by omega) (by omega))
                  have hj7 : ((j : Int) + 1) < 7 := by omega
                  have hj8 : ((j : Int) + 1) < 8 := by omega
                  have hne7 : ((j : Int) + 1 == 7) = false := by simp; omega
                  have HZ := Lib.hid hz
                  clear hz hm0
                  go_wp2_with fail
                  refine HB.out.mono ?_
                  rintro e w5 ⟨rfl, hs6, hk6⟩
                  have hx8 := (hk6.blk hx7 rfl).alloc (.cells #[.int .u64 0, .int .u64 0, .int .u64 0, .int .u64 0, .int .u64 0, .int .u64 0] 56)
                  have hs7 := hs6.keep ((Fr.refl no w5).alloc (.cells #[.int .u64 0, .int .u64 0, .int .u64 0, .int .u64 0, .int .u64 0, .int .u64 0] 56))
                  clear hs5 hs6 HB hx7 hk6
                  go_wp2
                  all_goals
                    go_roundw
                    case rel => exact ⟨j + 2, j + 2, at2, l0, _, by omega, by go_num, fun _ => rfl, fun h => by omega, fun _ _ => ⟨(HZ.out (by omega) (by omega)).1, by have := (HZ.out (by omega) (by omega)).2; simp only [Nat.add_sub_cancel] at this; rw [this]; rfl⟩, hs7, hx8⟩
                    case measure => first | (simp [intOf]; done) | (simp [intOf]; omega)
                · obtain rfl : j = 6 := by omega
                  obtain ⟨hat, hl⟩ := hz (by omega) (by omega)
                  have hl6 : ∀ j, j < 6 → l j = (mk6 s0 s1 s2 s3 s4 s5) j := fun j hj => by rw [hl, ← HROW.out j hj, loads_get, if_pos (by omega)]
                  have HB := hs5.end_ok (by rfl) (by rw [hat]; rfl)
                  rw [show l 0 = s0 from hl6 0 (by omega), show l 1 = s1 from hl6 1 (by omega), show l 2 = s2 from hl6 2 (by omega), show l 3 = s3 from hl6 3 (by omega), show l 4 = s4 from hl6 4 (by omega), show l 5 = s5 from hl6 5 (by omega)] at HB
                  have HB := Lib.hid HB
                  clear hz hm0 hat hl hl6 hj
                  go_wp2_with fail
                  refine HB.out.mono ?_
                  rintro e w5 ⟨rfl, hs6, hk6⟩
                  have hx8 := (hk6.blk hx7 rfl).alloc (.cells #[.int .u64 s0, .int .u64 s1, .int .u64 s2, .int .u64 s3, .int .u64 s4, .int .u64 s5] 56)
                  have hs7 := hs6.keep ((Fr.refl no w5).alloc (.cells #[.int .u64 s0, .int .u64 s1, .int .u64 s2, .int .u64 s3, .int .u64 s4, .int .u64 s5] 56))
                  clear hs5 hs6 hx7 hk6 HB
                  obtain ⟨d0, d1, d2, d3, d4, d5⟩ := c6 hx8
                  go_wp2
                  all_goals
                    go_roundw
                    case rel => exact ⟨8, 0, at2, l0, l, by omega, by go_num, fun h => by omega, fun _ => rfl, fun _ h => by omega, hs7, hx8⟩
                    case measure => first | (simp [intOf]; done) | (simp [intOf]; omega)
            · obtain rfl := hnx8 (by omega)
              have hm' : (m : Int) = 8 := by omega
              rw [hm']
              clear hnx hnx8 hz hm' hlt8 hm8
              have HS := hs5
              clear hx7
              go_wp2
              go_ret
              exact ⟨rfl, HS.fr0 HF.out hfd⟩

set_option maxRecDepth 100000 in
set_option maxHeartbeats 6400000 in
theorem tretries_out (a : Int) (ha : a < 0 ∨ 7 < a) (c0 c1 c2 c3 c4 c5 : Int) (w : World) :
    Calls Try.prog 12 #[.agg #[.int .u64 c0, .int .u64 c1, .int .u64 c2, .int .u64 c3, .int .u64 c4, .int .u64 c5], .int .i64 a] w fun e w' => e = .returned (.bool true) ∧ Fr no w w' := by
  have hf0 : Fr no w (w.alloc (.cells #[.int .u64 c0, .int .u64 c1, .int .u64 c2, .int .u64 c3, .int .u64 c4, .int .u64 c5] 56)) := (Fr.refl no w).alloc _
  rcases ha with ha | ha
  · go_enter Try.func12, Try.ntmps12
    go_wp2_with fail
    refine (shown12_any _).mono ?_
    rintro e w0 ⟨rfl, hf1⟩
    go_wp2
    go_ret
    exact ⟨rfl, hf0.trans' hf1⟩
  · have ha0 : decide (a < 0) = false := by simp; omega
    go_enter Try.func12, Try.ntmps12
    go_wp2_with fail
    refine (shown12_any _).mono ?_
    rintro e w0 ⟨rfl, hf1⟩
    go_wp2
    go_ret
    exact ⟨rfl, hf0.trans' hf1⟩
theorem tretries_any (c : Nat → Int) (a : Int) (hc : ∀ j, j < 6 → 0 ≤ c j ∧ c j < 18446744073709551616) (w : World) :
    Calls Try.prog 12 #[.agg (six c), .int .i64 a] w fun e w' => e = .returned (.bool true) ∧ Fr no w w' := by
  have b : ∀ j, j < 6 → 0 ≤ c j / 16777216 ∧ c j / 16777216 < 1099511627776 := fun j hj => by have := hc j hj; omega
  by_cases h : a < 0 ∨ 7 < a
  · exact tretries_out a h _ _ _ _ _ _ w
  · obtain ⟨k, rfl⟩ := Int.eq_ofNat_of_zero_le (show 0 ≤ a by omega)
    rcases Nat.eq_zero_or_pos k with rfl | hk
    · exact tretries_0 _ _ _ _ _ _ _ _ _ _ _ _ rfl rfl rfl rfl rfl rfl (b 0 (by omega)) (b 1 (by omega)) (b 2 (by omega)) (b 3 (by omega)) (b 4 (by omega)) (b 5 (by omega)) w
    · exact tretries_s k hk (by omega) _ _ _ _ _ _ _ _ _ _ _ _ rfl rfl rfl rfl rfl rfl (b 0 (by omega)) (b 1 (by omega)) (b 2 (by omega)) (b 3 (by omega)) (b 4 (by omega)) (b 5 (by omega)) w
end Go.Proofs.Ytkilibdalgnghaa
