/-
  The law TallySums, walked.
-/
import Derived.Test.YtkilibdalgnghaaLaw12a
import Derived.Test.YtkilibdalgnghaaPlain12
import Derived.Test.YtkilibdalgnghaaArgs2
import Derived.Deep.RegionHeld3
namespace Go.Proofs.Ytkilibdalgnghaa
set_option linter.unusedVariables false
set_option linter.unusedSimpArgs false
open Go.RowKit Go.Shelf

/-- An Act's cells. -/
def KAct : List IntKind := [.i64, .i64, .i64, .u32, .u64, .u64, .u64, .u64, .u64, .u64]
theorem sum_add {L : List Int} {i : Int} {c : Nat → Int} (h0 : 0 ≤ i) (h3 : i < 4) (hl : L.length = 24) : sumC (addK L i c 6) 4 3 = IntKind.u64.wrap (sumC L 4 3 + c 3) := by
  have hr : ∀ j : Int, rowC (addK L i c 6) j 3 = if j = i then (rowC L i 3 + c 3) % 18446744073709551616 else rowC L j 3 := fun j => rowC_add h0 (by omega) (by omega)
  simp only [sumC, uw, no6]
  rw [hr, hr, hr, hr]
  obtain rfl | rfl | rfl | rfl : i = 0 ∨ i = 1 ∨ i = 2 ∨ i = 3 := by omega
  all_goals simp; omega
theorem ldv_spv {l : List Int} {i o j : Int} (h : spB l i o = true) : ldv (spv l i o) j = if j = i then wrap64 (ldv l i + 1) else ldv l j := by
  have hi : inB l i = true := by simp [spB] at h; exact h.1
  have e : spv l i o = stv l i (wrap64 (ldv l i + 1)) := by rw [spv, if_pos h, stv, if_pos hi]
  rw [e, ldv_stv hi]
theorem spB_even {l : List Int} {i : Int} {n : Nat} (hl : l.length = n) (h0 : 0 ≤ i) (h1 : i < n) (h : oddB l i = false) : spB l i 0 = true := by
  have hi : inB l i = true := inB_true.2 ⟨h0, by omega⟩
  simp [oddB] at h
  simp [spB, hi]
  omega
theorem note_in {L0 L2 : List Int} {i : Int} {c : Nat → Int} {n : Nat} (hl : L2.length = n) (h0 : 0 ≤ i) (h1 : i < n) (h : oddB L2 i = false) : Value.int .i64 (spE L2 i 0) = .int .i64 0 ∧ noL0 L0 L2 i c = addK L0 i c 6 := by
  have hb := spB_even hl h0 h1 h
  exact ⟨by rw [(spE_spB).1 hb], by rw [noL0, if_pos hb]⟩
theorem note_out {L0 L2 : List Int} {i : Int} {c : Nat → Int} {n : Nat} (hl : L2.length = n) (h : ¬ (0 ≤ i ∧ i < n)) : Value.int .i64 (spE L2 i 0) = .int .i64 2 ∧ noL0 L0 L2 i c = L0 ∧ noL2 L2 i = L2 := by
  have hi : inB L2 i = false := by
    cases hb : inB L2 i with
    | false => rfl
    | true => exact absurd (by have := inB_true.1 hb; rw [hl] at this; exact this) h
  have hb : spB L2 i 0 = false := by simp [spB, hi]
  exact ⟨by simp [spE, hi], by rw [noL0, if_neg (by simp [hb])], by rw [noL2, if_neg (by simp [hb])]⟩
theorem no_even {L2 : List Int} {i : Int} {n : Nat} (hl : L2.length = n) (h0 : 0 ≤ i) (h1 : i < n) (h : ∀ j : Int, 0 ≤ j → j < n → oddB L2 j = false) : ∀ j : Int, 0 ≤ j → j < n → oddB (noL2 L2 i) j = false := by
  intro j hj0 hj1
  have hb := spB_even hl h0 h1 (h i h0 h1)
  have hx := h i h0 h1
  have hy := h j hj0 hj1
  have hb2 : spB (spv L2 i 0) i 1 = true := by
    have hi : inB L2 i = true := inB_true.2 ⟨h0, by omega⟩
    simp only [spB, spv_in, hi, Bool.true_and, beq_iff_eq]
    rw [ldv_spv hb, if_pos rfl]
    simp [oddB] at hx
    unfold wrap64
    omega
  rw [noL2, if_pos hb]
  simp only [oddB, beq_eq_false_iff_ne, ne_eq] at *
  rw [ldv_spv hb2]
  by_cases hji : j = i
  · rw [if_pos hji, ldv_spv hb, if_pos rfl]
    unfold wrap64
    omega
  · rw [if_neg hji, ldv_spv hb, if_neg hji]
    exact hy
theorem s8 {w : World} {a : Addr} {q c0 c1 c2 c3 c4 c5 : Int} {b : Nat} (h1 : w.cell? a = some (.int .i64 q)) (h : Blk w b 56 (six (mk6 c0 c1 c2 c3 c4 c5))) : w.cell? a = some (.int .i64 q) ∧ w.cell? ⟨b, 0, none⟩ = some (.int .u64 c0) ∧ w.cell? ⟨b, 1, none⟩ = some (.int .u64 c1) ∧ w.cell? ⟨b, 2, none⟩ = some (.int .u64 c2) ∧
    w.cell? ⟨b, 3, none⟩ = some (.int .u64 c3) ∧ w.cell? ⟨b, 4, none⟩ = some (.int .u64 c4) ∧ w.cell? ⟨b, 5, none⟩ = some (.int .u64 c5) := ⟨h1, cells6 h⟩
theorem small12_lit (c0 c1 c2 c3 c4 c5 : Int) (w : World) : Calls Try.prog 36 #[.agg #[.int .u64 c0, .int .u64 c1, .int .u64 c2, .int .u64 c3, .int .u64 c4, .int .u64 c5]] w fun e w' => e = .returned (.agg #[.int .u64 (c0 / 16777216), .int .u64 (c1 / 16777216), .int .u64 (c2 / 16777216), .int .u64 (c3 / 16777216), .int .u64 (c4 / 16777216), .int .u64 (c5 / 16777216)]) ∧ Fr no w w' :=
  small12_any (mk6 c0 c1 c2 c3 c4 c5) w

set_option maxRecDepth 100000 in
set_option maxHeartbeats 6400000 in
theorem tsums_any (A : Option Addr) (n cap : Nat) (f : Nat → Nat → Int) (w : World) (hr : RowsAt w w.heap.size 10 A n (krow KAct f)) :
    Calls Try.prog 10 #[.slice A n cap] w fun e w' => e = .returned (.bool true) ∧ Fr no w w' := by
  have hn := hr.small
  have HR := Lib.hid hr
  clear hr
  go_enter Try.func10, Try.ntmps10
  go_wp2_with (go_at_call 34; refine (shown12_any _).mono ?_; rintro e w0 ⟨rfl, hf0⟩)
  refine (tNew_ok 4 _ (by omega) (by omega)).mono ?_
  rintro e w1 hnw
  obtain ⟨tb, cb, F, rfl, hs1, hF, htb, hf1⟩ := hnw.st
  have HF := Lib.hid hF
  clear hnw hF
  go_wp2
  go_loopw [6, 7] (fun want i wr => ∃ (k : Nat) (L0 L2 : List Int), k ≤ n ∧ k ≤ 80 ∧ i = .int .i64 k ∧ want = .int .u64 (sumC L0 4 3) ∧ (∀ j : Int, 0 ≤ j → j < 4 → oddB L2 j = false) ∧ TSt F w1 no tb cb 4 L0 L2 wr) (fun _ i _ => n - (intOf i).toNat)
  case atStart => exact ⟨0, rep0 24, rep0 4, Nat.zero_le _, by omega, rfl, rfl, fun j _ _ => by simp [oddB, ldv_rep0], hs1⟩
  case round =>
    obtain ⟨k, L0, L2, hk, hk80, rfl, rfl, hev, hs2⟩ := hrel
    have HE := Lib.hid hev
    clear hs1 hev
    by_cases hlt : k < n
    · by_cases hlt8 : k < 80
      · have hb2 : Below w.heap.size w wr := hf0.is_below.trans ((hs2.fr0 HF.out hf1).is_below.mono hf0.size)
        have hrk := HR.out.keep hb2
        obtain ⟨g, o, rfl, hg, hc⟩ := hrk.at_ (by omega)
        have hgw : g < wr.heap.size := Nat.lt_of_lt_of_le hg hb2.size
        have e1 : wr.cell? ⟨g, o + k * 10 + 1, none⟩ = some (.int .i64 (f k 1)) := hc k 1 hlt (by decide)
        have e4 : wr.cell? ⟨g, o + k * 10 + 4, none⟩ = some (.int .u64 (f k 4)) := hc k 4 hlt (by decide)
        have e5 : wr.cell? ⟨g, o + k * 10 + 5, none⟩ = some (.int .u64 (f k 5)) := hc k 5 hlt (by decide)
        have e6 : wr.cell? ⟨g, o + k * 10 + 6, none⟩ = some (.int .u64 (f k 6)) := hc k 6 hlt (by decide)
        have e7 : wr.cell? ⟨g, o + k * 10 + 7, none⟩ = some (.int .u64 (f k 7)) := hc k 7 hlt (by decide)
        have e8 : wr.cell? ⟨g, o + k * 10 + 8, none⟩ = some (.int .u64 (f k 8)) := hc k 8 hlt (by decide)
        have e9 : wr.cell? ⟨g, o + k * 10 + 9, none⟩ = some (.int .u64 (f k 9)) := hc k 9 hlt (by decide)
        have hw1 : w.cell? ⟨g, o + k * 10 + 1, none⟩ = some (.int .i64 (f k 1)) := by
          obtain ⟨g', o', e, hg', hc'⟩ := HR.out.at_ (by omega)
          obtain ⟨rfl, rfl⟩ : g = g' ∧ o = o' := by simpa using e
          exact hc' k 1 hlt (by decide)
        clear hc hrk hb2
        generalize f k 1 = q at *
        generalize f k 4 = c0 at *
        generalize f k 5 = c1 at *
        generalize f k 6 = c2 at *
        generalize f k 7 = c3 at *
        generalize f k 8 = c4 at *
        generalize f k 9 = c5 at *
        have HC : Hid (∀ {K : Nat → Prop} {l0 l2 : List Int} {W : World}, TSt F w1 K tb cb 4 l0 l2 W → W.cell? ⟨g, o + k * 10 + 1, none⟩ = some (.int .i64 q)) := fun h =>
          ((hf0.is_below.trans ((h.fr0 HF.out hf1).is_below.mono hf0.size)).cell (p := ⟨g, o + k * 10 + 1, none⟩) hg).trans hw1
        have HL := Lib.hid hs2.q64.2.1
        have HL2 := Lib.hid hs2.q64.2.2
        clear hw1
        by_cases hq0 : 0 ≤ q ∧ q < 4
        · have HN : Hid (Value.int .i64 (spE L2 q 0) = .int .i64 0 ∧ noL0 L0 L2 q (mk6 (c0 / 16777216) (c1 / 16777216) (c2 / 16777216) (c3 / 16777216) (c4 / 16777216) (c5 / 16777216)) = addK L0 q (mk6 (c0 / 16777216) (c1 / 16777216) (c2 / 16777216) (c3 / 16777216) (c4 / 16777216) (c5 / 16777216)) 6) :=
            note_in HL2.out hq0.1 hq0.2 (HE.out q hq0.1 hq0.2)
          go_wp2_with fail
          refine (small12_lit c0 c1 c2 c3 c4 c5 wr).mono ?_
          rintro e w3 ⟨rfl, hf3⟩
          have hs3 := (hs2.keep hf3).box (.cells #[.int .u64 (c0 / 16777216), .int .u64 (c1 / 16777216), .int .u64 (c2 / 16777216), .int .u64 (c3 / 16777216), .int .u64 (c4 / 16777216), .int .u64 (c5 / 16777216)] 56)
          have hg3 : Blk (w3.alloc (.cells #[.int .u64 (c0 / 16777216), .int .u64 (c1 / 16777216), .int .u64 (c2 / 16777216), .int .u64 (c3 / 16777216), .int .u64 (c4 / 16777216), .int .u64 (c5 / 16777216)] 56)) w3.heap.size 56 (six (mk6 (c0 / 16777216) (c1 / 16777216) (c2 / 16777216) (c3 / 16777216) (c4 / 16777216) (c5 / 16777216))) := Blk.new _ _ _
          have hlt3 : g < w3.heap.size := Nat.lt_of_lt_of_le hgw hf3.size
          clear e1 e4 e5 e6 e7 e8 e9 hs2
          go_wp2_with fail
          go_region_held3 (fun w' => w'.cell? ⟨g, o + k * 10 + 1, none⟩ = some (.int .i64 q) ∧ w'.cell? ⟨w3.heap.size, 0, none⟩ = some (.int .u64 (c0 / 16777216)) ∧ w'.cell? ⟨w3.heap.size, 1, none⟩ = some (.int .u64 (c1 / 16777216)) ∧ w'.cell? ⟨w3.heap.size, 2, none⟩ = some (.int .u64 (c2 / 16777216)) ∧ w'.cell? ⟨w3.heap.size, 3, none⟩ = some (.int .u64 (c3 / 16777216)) ∧ w'.cell? ⟨w3.heap.size, 4, none⟩ = some (.int .u64 (c4 / 16777216)) ∧ w'.cell? ⟨w3.heap.size, 5, none⟩ = some (.int .u64 (c5 / 16777216)))
            (first | exact s8 (HC.out (by assumption)) (by assumption) | exact s8 (w := World.drew _) (HC.out (TSt.drew (by assumption))) (Blk.drew (by assumption)) | go_keep)
            (first
              | (go_at_call 37; refine (TSt.note (F := F) (w := w1) (K := fun k => no k ∨ k = w3.heap.size) (L0 := L0) (L2 := L2) (by first | assumption | exact TSt.drew (by assumption)) q (mk6 (c0 / 16777216) (c1 / 16777216) (c2 / 16777216) (c3 / 16777216) (c4 / 16777216) (c5 / 16777216)) (r := .int .i64 0) (m0 := addK L0 q (mk6 (c0 / 16777216) (c1 / 16777216) (c2 / 16777216) (c3 / 16777216) (c4 / 16777216) (c5 / 16777216)) 6) (m2 := noL2 L2 q) HN.out.1 HN.out.2 rfl).mono ?_; rintro e w4 ⟨rfl, hs4, hk4⟩; have hg4 := hk4.blk (by first | assumption | exact Blk.drew (by assumption)) (.inr rfl)))
          have z3 : w4.cell? ⟨w3.heap.size, 3, none⟩ = some (.int .u64 (c3 / 16777216)) := hg4.cell 3
          clear hs3 hg3
          go_wp2
          all_goals
            go_roundw
            case rel => exact ⟨k + 1, _, _, by omega, by omega, by go_num, by rw [sum_add hq0.1 hq0.2 HL.out]; rfl, no_even HL2.out hq0.1 hq0.2 HE.out, hs4.weak (fun k hk => hk.elim)⟩
            case measure => simp [intOf]; omega

        · have HN : Hid (Value.int .i64 (spE L2 q 0) = .int .i64 2 ∧ noL0 L0 L2 q (mk6 (c0 / 16777216) (c1 / 16777216) (c2 / 16777216) (c3 / 16777216) (c4 / 16777216) (c5 / 16777216)) = L0 ∧ noL2 L2 q = L2) := note_out HL2.out hq0
          go_wp2_with fail
          refine (small12_lit c0 c1 c2 c3 c4 c5 wr).mono ?_
          rintro e w3 ⟨rfl, hf3⟩
          have hs3 := (hs2.keep hf3).box (.cells #[.int .u64 (c0 / 16777216), .int .u64 (c1 / 16777216), .int .u64 (c2 / 16777216), .int .u64 (c3 / 16777216), .int .u64 (c4 / 16777216), .int .u64 (c5 / 16777216)] 56)
          have hg3 : Blk (w3.alloc (.cells #[.int .u64 (c0 / 16777216), .int .u64 (c1 / 16777216), .int .u64 (c2 / 16777216), .int .u64 (c3 / 16777216), .int .u64 (c4 / 16777216), .int .u64 (c5 / 16777216)] 56)) w3.heap.size 56 (six (mk6 (c0 / 16777216) (c1 / 16777216) (c2 / 16777216) (c3 / 16777216) (c4 / 16777216) (c5 / 16777216))) := Blk.new _ _ _
          have hlt3 : g < w3.heap.size := Nat.lt_of_lt_of_le hgw hf3.size
          clear e1 e4 e5 e6 e7 e8 e9 hs2
          go_wp2_with fail
          go_region_held3 (fun w' => w'.cell? ⟨g, o + k * 10 + 1, none⟩ = some (.int .i64 q) ∧ w'.cell? ⟨w3.heap.size, 0, none⟩ = some (.int .u64 (c0 / 16777216)) ∧ w'.cell? ⟨w3.heap.size, 1, none⟩ = some (.int .u64 (c1 / 16777216)) ∧ w'.cell? ⟨w3.heap.size, 2, none⟩ = some (.int .u64 (c2 / 16777216)) ∧ w'.cell? ⟨w3.heap.size, 3, none⟩ = some (.int .u64 (c3 / 16777216)) ∧ w'.cell? ⟨w3.heap.size, 4, none⟩ = some (.int .u64 (c4 / 16777216)) ∧ w'.cell? ⟨w3.heap.size, 5, none⟩ = some (.int .u64 (c5 / 16777216)))
            (first | exact s8 (HC.out (by assumption)) (by assumption) | exact s8 (w := World.drew _) (HC.out (TSt.drew (by assumption))) (Blk.drew (by assumption)) | go_keep)
            (first
              | (go_at_call 37; refine (TSt.note (F := F) (w := w1) (K := fun k => no k ∨ k = w3.heap.size) (L0 := L0) (L2 := L2) (by first | assumption | exact TSt.drew (by assumption)) q (mk6 (c0 / 16777216) (c1 / 16777216) (c2 / 16777216) (c3 / 16777216) (c4 / 16777216) (c5 / 16777216)) (r := .int .i64 2) (m0 := L0) (m2 := L2) HN.out.1 HN.out.2.1 HN.out.2.2).mono ?_; rintro e w4 ⟨rfl, hs4, hk4⟩; have hg4 := hk4.blk (by first | assumption | exact Blk.drew (by assumption)) (.inr rfl)))
          have z3 : w4.cell? ⟨w3.heap.size, 3, none⟩ = some (.int .u64 (c3 / 16777216)) := hg4.cell 3
          clear hs3 hg3
          go_wp2
          all_goals
            go_roundw
            case rel => exact ⟨k + 1, L0, L2, by omega, by omega, by go_num, rfl, HE.out, hs4.weak (fun k hk => hk.elim)⟩
            case measure => simp [intOf]; omega

      · have hk8 : k = 80 := by omega
        have hge : 80 ≤ k := by omega
        have hsv : SumV L0 L2 4 = .tuple #[.agg #[.int .u64 (sumC L0 4 0), .int .u64 (sumC L0 4 1), .int .u64 (sumC L0 4 2), .int .u64 (sumC L0 4 3), .int .u64 (sumC L0 4 4), .int .u64 (sumC L0 4 5)], .int .i64 0] := by rw [SumV, if_pos (evB_true fun j hj => HE.out j (by omega) (by omega))]; rfl
        have HS := Lib.hid hsv
        have HL2 := Lib.hid hs2.q64.2.2
        clear hsv
        go_wp2_with fail
        refine (hs2.sum HS.out).mono ?_
        rintro e w5 ⟨rfl, hs5, -⟩
        have hs6 := hs5.box (.cells #[.int .u64 (sumC L0 4 0), .int .u64 (sumC L0 4 1), .int .u64 (sumC L0 4 2), .int .u64 (sumC L0 4 3), .int .u64 (sumC L0 4 4), .int .u64 (sumC L0 4 5)] 56)
        have hg6 : Blk (w5.alloc (.cells #[.int .u64 (sumC L0 4 0), .int .u64 (sumC L0 4 1), .int .u64 (sumC L0 4 2), .int .u64 (sumC L0 4 3), .int .u64 (sumC L0 4 4), .int .u64 (sumC L0 4 5)] 56)) w5.heap.size 56 (six (sumC L0 4)) := Blk.new _ _ _
        clear hs5 hs2
        go_wp2_with fail
        go_loopw [11, 12] (fun all q wr => ∃ j : Nat, j ≤ 4 ∧ q = .int .i64 j ∧ all = .int .u64 (sumC L0 j 3) ∧ TSt F w1 (fun k => no k ∨ k = w5.heap.size) tb cb 4 L0 L2 wr ∧ Blk wr w5.heap.size 56 (six (sumC L0 4))) (fun _ q _ => 4 - (intOf q).toNat)
        case atStart => exact ⟨0, by omega, rfl, rfl, hs6, hg6⟩
        case round =>
          obtain ⟨j, hj, rfl, rfl, hs7, hg7⟩ := hrel
          clear hs6 hg6
          by_cases hjl : j < 4
          · have hbg : bgE L2 j = 0 := by
              have hi : inB L2 j = true := inB_true.2 ⟨by omega, by rw [HL2.out]; omega⟩
              have := HE.out j (by omega) (by omega)
              simp [bgE, hi]
              simpa [oddB] using this
            have HRd : Hid (Value.tuple #[.agg (six (rdC L0 L2 j)), .int .i64 (bgE L2 j)] = .tuple #[.agg #[.int .u64 (rowC L0 j 0), .int .u64 (rowC L0 j 1), .int .u64 (rowC L0 j 2), .int .u64 (rowC L0 j 3), .int .u64 (rowC L0 j 4), .int .u64 (rowC L0 j 5)], .int .i64 0]) := by
              show _ = _
              rw [rdC, if_pos hbg, hbg]
              rfl
            clear hbg
            go_wp2_with fail
            refine (hs7.read j HRd.out).mono ?_
            rintro e w6 ⟨rfl, hs8, hk8⟩
            have hg8 := hk8.blk hg7 (.inr rfl)
            clear hs7 hg7 hk8
            go_wp2
            go_roundw
            case rel => exact ⟨j + 1, by omega, by go_num, rfl, hs8.keep ((Fr.refl no w6).alloc _), hg8.alloc _⟩
            case measure => simp [intOf]; omega
          · obtain rfl : j = 4 := by omega
            have z3 : wr.cell? ⟨w5.heap.size, 3, none⟩ = some (.int .u64 (sumC L0 4 3)) := hg7.cell 3
            go_wp2
            go_ret
            exact ⟨rfl, hf0.trans' (hs7.fr0 HF.out hf1)⟩
    · have hge : n ≤ k := by omega
      have hsv : SumV L0 L2 4 = .tuple #[.agg #[.int .u64 (sumC L0 4 0), .int .u64 (sumC L0 4 1), .int .u64 (sumC L0 4 2), .int .u64 (sumC L0 4 3), .int .u64 (sumC L0 4 4), .int .u64 (sumC L0 4 5)], .int .i64 0] := by rw [SumV, if_pos (evB_true fun j hj => HE.out j (by omega) (by omega))]; rfl
      have HS := Lib.hid hsv
      have HL2 := Lib.hid hs2.q64.2.2
      clear hsv
      go_wp2_with fail
      refine (hs2.sum HS.out).mono ?_
      rintro e w5 ⟨rfl, hs5, -⟩
      have hs6 := hs5.box (.cells #[.int .u64 (sumC L0 4 0), .int .u64 (sumC L0 4 1), .int .u64 (sumC L0 4 2), .int .u64 (sumC L0 4 3), .int .u64 (sumC L0 4 4), .int .u64 (sumC L0 4 5)] 56)
      have hg6 : Blk (w5.alloc (.cells #[.int .u64 (sumC L0 4 0), .int .u64 (sumC L0 4 1), .int .u64 (sumC L0 4 2), .int .u64 (sumC L0 4 3), .int .u64 (sumC L0 4 4), .int .u64 (sumC L0 4 5)] 56)) w5.heap.size 56 (six (sumC L0 4)) := Blk.new _ _ _
      clear hs5 hs2
      go_wp2_with fail
      go_loopw [11, 12] (fun all q wr => ∃ j : Nat, j ≤ 4 ∧ q = .int .i64 j ∧ all = .int .u64 (sumC L0 j 3) ∧ TSt F w1 (fun k => no k ∨ k = w5.heap.size) tb cb 4 L0 L2 wr ∧ Blk wr w5.heap.size 56 (six (sumC L0 4))) (fun _ q _ => 4 - (intOf q).toNat)
      case atStart => exact ⟨0, by omega, rfl, rfl, hs6, hg6⟩
      case round =>
        obtain ⟨j, hj, rfl, rfl, hs7, hg7⟩ := hrel
        clear hs6 hg6
        by_cases hjl : j < 4
        · have hbg : bgE L2 j = 0 := by
            have hi : inB L2 j = true := inB_true.2 ⟨by omega, by rw [HL2.out]; omega⟩
            have := HE.out j (by omega) (by omega)
            simp [bgE, hi]
            simpa [oddB] using this
          have HRd : Hid (Value.tuple #[.agg (six (rdC L0 L2 j)), .int .i64 (bgE L2 j)] = .tuple #[.agg #[.int .u64 (rowC L0 j 0), .int .u64 (rowC L0 j 1), .int .u64 (rowC L0 j 2), .int .u64 (rowC L0 j 3), .int .u64 (rowC L0 j 4), .int .u64 (rowC L0 j 5)], .int .i64 0]) := by
            show _ = _
            rw [rdC, if_pos hbg, hbg]
            rfl
          clear hbg
          go_wp2_with fail
          refine (hs7.read j HRd.out).mono ?_
          rintro e w6 ⟨rfl, hs8, hk8⟩
          have hg8 := hk8.blk hg7 (.inr rfl)
          clear hs7 hg7 hk8
          go_wp2
          go_roundw
          case rel => exact ⟨j + 1, by omega, by go_num, rfl, hs8.keep ((Fr.refl no w6).alloc _), hg8.alloc _⟩
          case measure => simp [intOf]; omega
        · obtain rfl : j = 4 := by omega
          have z3 : wr.cell? ⟨w5.heap.size, 3, none⟩ = some (.int .u64 (sumC L0 4 3)) := hg7.cell 3
          go_wp2
          go_ret
          exact ⟨rfl, hf0.trans' (hs7.fr0 HF.out hf1)⟩
end Go.Proofs.Ytkilibdalgnghaa
