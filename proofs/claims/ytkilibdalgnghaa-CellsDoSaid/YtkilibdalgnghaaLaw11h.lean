/-
  The law CellsDo, walked.
-/
import Derived.Test.YtkilibdalgnghaaLaw11f
import Derived.Test.YtkilibdalgnghaaLaw11g
import Derived.Test.YtkilibdalgnghaaArgs
namespace Go.Proofs.Ytkilibdalgnghaa
set_option linter.unusedVariables false
set_option linter.unusedSimpArgs false
open Go.RowKit Go.Shelf

theorem hov_rhov {l : List Int} (h : ∀ x ∈ l, 0 ≤ x ∧ x ≤ 64) (i : Int) : rhov l i = hov l i := by
  cases hb : inB l i with
  | false => simp [hov, rhov, hb, ldv]
  | true =>
    have hi := inB_true.1 hb
    have hm : ldv l i ∈ l := by
      simp only [ldv, hb, if_true, List.getD]
      rw [List.getElem?_eq_getElem (by omega)]
      simp
    have := h _ hm
    simp only [hov, rhov, hb, if_true]
    split
    · rfl
    · unfold wrap64
      omega
theorem D2.cell_ {w0 w : World} {K : Nat → Prop} {cb rb : Nat} {p0 p1 p2 r0 r1 r2 : List Int} (h : D2 w0 K cb rb p0 p1 p2 r0 r1 r2 w) {a : Addr} {v : Value} (ha : a.block < w0.heap.size) (hc : w0.cell? a = some v) : w.cell? a = some v :=
  (h.fr.is_below.cell ha).trans hc

set_option maxRecDepth 100000 in
set_option maxHeartbeats 6400000 in
theorem cdo_ok (n m k : Nat) (hn : n ≤ 20) (hm : m ≤ 20) (hk : k ≤ 20) (A : Option Addr) (N c : Nat) (f : Nat → Nat → Int) (w : World) (hr : RowsAt w w.heap.size 5 A N (int5 f)) :
    Calls Try.prog 8 #[.int .i64 n, .int .i64 m, .int .i64 k, .slice A N c] w fun e w' => e = .returned (.bool true) ∧ Fr no w w' := by
  have hN := hr.small
  have HR := Lib.hid hr
  clear hr
  go_enter Try.func8, Try.ntmps8
  go_wp2_with (go_at_call 17; refine (shown_any _).mono ?_; rintro e w0 ⟨rfl, hf0⟩)
  refine (cNew_ok n m k _ (by omega) (by omega) (by omega)).mono ?_
  rintro e w1 hn1
  obtain ⟨cb, rfl, hs1⟩ := hn1.st
  clear hn1
  go_wp2_with fail
  refine (rNew_ok n m k _ (by omega) (by omega) (by omega)).mono ?_
  rintro e w2 ⟨rb, rfl, hs2, hf2⟩
  have hd : DSt w0 cb rb 0 (rep0 n) (rep0 m) (rep0 k) w2 := ⟨Two.mk2 (S := PCells cb (rep0 n) (rep0 m) (rep0 k)) (R := RCells rb (rep0 n) (rep0 m) (rep0 k)) hs1.cells hs1.fr hs2 hf2 (pcells_stable _ _ _ _),
    fun x hx => by obtain ⟨_, rfl⟩ := List.mem_replicate.1 hx; omega, fun x hx => by obtain ⟨_, rfl⟩ := List.mem_replicate.1 hx; omega⟩
  clear hs1 hs2 hf2
  go_wp2
  go_loopw [14] (fun i wr => ∃ (j : Nat) (l0 l1 l2 : List Int), j ≤ N ∧ j ≤ 80 ∧ i = .int .i64 j ∧ DSt w0 cb rb j l0 l1 l2 wr) (fun i _ => N - (intOf i).toNat)
  case atStart => exact ⟨0, _, _, _, Nat.zero_le _, by omega, rfl, hd⟩
  case round =>
    obtain ⟨j, l0, l1, l2, hj, hj80, rfl, hs2⟩ := hrel
    clear hd
    by_cases hlt : j < N
    · by_cases hlt8 : j < 80
      · have hr0 := HR.out.keep hf0.is_below
        obtain ⟨g, o, rfl, hg, hc⟩ := hr0.at_ (by omega)
        have hg0 : g < w0.heap.size := Nat.lt_of_lt_of_le hg hf0.size
        have c0 : w0.cell? ⟨g, o + j * 5, none⟩ = some (.int .i64 (f j 0)) := hc j 0 hlt (by omega)
        have c1 : w0.cell? ⟨g, o + j * 5 + 1, none⟩ = some (.int .i64 (f j 1)) := hc j 1 hlt (by omega)
        have c2 : w0.cell? ⟨g, o + j * 5 + 2, none⟩ = some (.int .i64 (f j 2)) := hc j 2 hlt (by omega)
        have c3 : w0.cell? ⟨g, o + j * 5 + 3, none⟩ = some (.int .i64 (f j 3)) := hc j 3 hlt (by omega)
        have c4 : w0.cell? ⟨g, o + j * 5 + 4, none⟩ = some (.int .i64 (f j 4)) := hc j 4 hlt (by omega)
        clear hc hr0
        generalize f j 0 = d at *
        generalize f j 1 = i at *
        generalize f j 2 = a at *
        generalize f j 3 = v at *
        generalize f j 4 = u at *
        have d0 := hs2.two.cell_ hg0 c0
        have d1 := hs2.two.cell_ hg0 c1
        have d2 := hs2.two.cell_ hg0 c2
        have d3 := hs2.two.cell_ hg0 c3
        have d4 := hs2.two.cell_ hg0 c4
        have C1 := Lib.hid c1
        clear c0 c1 c2 c3 c4
        go_wp2_with fail
        refine (did_any w0 cb rb j hlt8 l0 l1 l2 _ d i a v u hs2).mono ?_
        rintro e w3 ⟨rfl, m0, m1, m2, hs3⟩
        have c1 := hs3.two.cell_ hg0 C1.out
        clear d0 d1 d2 d3 d4
        go_wp2_with fail
        refine (hs3.two.c (fun F hF hs => cLoad_any F _ cb _ _ _ i hs)).mono ?_
        rintro e w4 ⟨rfl, hb4, -⟩
        have c4 := hb4.cell_ hg0 C1.out
        clear c1
        go_wp2_with fail
        refine (hb4.r (fun F hF hs => rLoad_any F _ rb _ _ _ i hs)).mono ?_
        rintro e w5 ⟨rfl, hb5, -⟩
        have c5 := hb5.cell_ hg0 C1.out
        clear c4
        have hv := Lib.hid (hov_rhov hs3.n1 i)
        go_wp2_with fail
        go_region_held3 (fun w' => w'.cell? ⟨g, o + j * 5 + 1, none⟩ = some (.int .i64 i))
          (first | exact D2.cell_ (by assumption) hg0 C1.out | exact D2.cell_ (D2.drew (by assumption)) hg0 C1.out | go_keep)
          (first
            | (go_at_call 21; refine (D2.c (by first | assumption | exact D2.drew (by assumption)) (fun F hF hs => cHolderM_any F _ cb _ _ _ i hF hs)).mono ?_; rintro e w1 ⟨rfl, hb1, -⟩)
            | (go_at_call 33; refine (D2.r (v := .int .i64 (hov m1 i)) (by first | assumption | exact D2.drew (by assumption)) (fun F hF hs => hv.out ▸ rHolder_any F _ rb _ _ _ i hs)).mono ?_; rintro e w1 ⟨rfl, hb1, -⟩))
        all_goals
          go_wp2
          go_roundw
          case rel => exact ⟨j + 1, m0, m1, m2, by omega, by omega, by go_num, ⟨by assumption, hs3.n1, hs3.n2⟩⟩
          case measure => simp [intOf]; omega
      · have : j = 80 := by omega
        subst this
        go_wp2
        go_ret
        exact ⟨rfl, hf0.trans' hs2.two.fr⟩
    · have : j = N := by omega
      subst this
      go_wp2
      go_ret
      exact ⟨rfl, hf0.trans' hs2.two.fr⟩

set_option maxRecDepth 100000 in
set_option maxHeartbeats 3200000 in
theorem cdo_bad (n m k : Int) (h : rightB [n, m, k] = false) (A : Option Addr) (N c : Nat) (w : World) :
    Calls Try.prog 8 #[.int .i64 n, .int .i64 m, .int .i64 k, .slice A N c] w fun e w' => e = .returned (.bool true) ∧ Fr no w w' := by
  have hb := Lib.hid h
  clear h
  go_enter Try.func8, Try.ntmps8
  go_wp2_with (go_at_call 17; refine (shown_any _).mono ?_; rintro e w0 ⟨rfl, hf0⟩)
  all_goals first
    | (go_ret; exact ⟨rfl, hf0⟩)
    | (refine (cNew_bad n m k _ hb.out).mono ?_
       rintro e w1 ⟨rfl, hf1⟩
       go_wp2_with fail
       refine (rNew_bad n m k _ hb.out).mono ?_
       rintro e w2 ⟨rfl, rfl⟩
       go_wp2
       go_ret
       exact ⟨rfl, hf0.trans' hf1⟩)
set_option maxRecDepth 100000 in
set_option maxHeartbeats 3200000 in
theorem cdo_big (n m k : Int) (h : 20 < n ∨ 20 < m ∨ 20 < k) (A : Option Addr) (N c : Nat) (w : World) :
    Calls Try.prog 8 #[.int .i64 n, .int .i64 m, .int .i64 k, .slice A N c] w fun e w' => e = .returned (.bool true) ∧ Fr no w w' := by
  by_cases h1 : 20 < n
  · go_enter Try.func8, Try.ntmps8
    go_wp2_with (go_at_call 17; refine (shown_any _).mono ?_; rintro e w0 ⟨rfl, hf0⟩)
    go_ret
    exact ⟨rfl, hf0⟩
  by_cases h2 : 20 < m
  · go_enter Try.func8, Try.ntmps8
    go_wp2_with (go_at_call 17; refine (shown_any _).mono ?_; rintro e w0 ⟨rfl, hf0⟩)
    go_ret
    exact ⟨rfl, hf0⟩
  have h3 : 20 < k := by omega
  go_enter Try.func8, Try.ntmps8
  go_wp2_with (go_at_call 17; refine (shown_any _).mono ?_; rintro e w0 ⟨rfl, hf0⟩)
  go_ret
  exact ⟨rfl, hf0⟩

theorem cdo_any (n m k : Int) (A : Option Addr) (N c : Nat) (f : Nat → Nat → Int) (w : World) (hr : RowsAt w w.heap.size 5 A N (int5 f)) :
    Calls Try.prog 8 #[.int .i64 n, .int .i64 m, .int .i64 k, .slice A N c] w fun e w' => e = .returned (.bool true) ∧ Fr no w w' := by
  by_cases hbig : 20 < n ∨ 20 < m ∨ 20 < k
  · exact cdo_big n m k hbig A N c w
  · cases hb : rightB [n, m, k] with
    | false => exact cdo_bad n m k hb A N c w
    | true =>
      obtain ⟨⟨h1, h2⟩, ⟨h3, h4⟩, h5, h6⟩ := right3 hb
      obtain ⟨n, rfl⟩ := Int.eq_ofNat_of_zero_le h1
      obtain ⟨m, rfl⟩ := Int.eq_ofNat_of_zero_le h3
      obtain ⟨k, rfl⟩ := Int.eq_ofNat_of_zero_le h5
      exact cdo_ok n m k (by omega) (by omega) (by omega) A N c f w hr
end Go.Proofs.Ytkilibdalgnghaa
