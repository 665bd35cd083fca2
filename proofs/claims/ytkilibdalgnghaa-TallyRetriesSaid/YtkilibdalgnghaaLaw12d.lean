/-
  The law TallyReads, walked.
-/
import Derived.Test.YtkilibdalgnghaaTally9
import Derived.Test.YtkilibdalgnghaaLaw12b
namespace Go.Proofs.Ytkilibdalgnghaa
set_option linter.unusedVariables false
set_option linter.unusedSimpArgs false
open Go.RowKit Go.Shelf

section
variable {F K : Nat → Prop} {w w1 : World} {rb tb cb q : Nat} {L0 L2 : List Int} {i nx at_ : Int} {l : Nat → Int}
theorem RSt.open_ (h : RSt F w K rb tb cb q L0 L2 i nx at_ l w1) (p : Int) {m0 m2 : List Int} {r : Value} (hr : Value.int .i64 (spE L2 p 0) = r) (h2 : spv L2 p 0 = m2) (h0 : L0 = m0) :
    Calls Try.prog 40 #[.pointer (some ⟨tb, 0, none⟩), .int .i64 p] w1 fun e w2 => e = .returned r ∧ RSt F w K rb tb cb q m0 m2 i nx at_ l w2 ∧ Kept K w1 w2 := by
  subst hr h2 h0
  exact h.tally fun F w ha => tOpen_any F w tb cb q L0 L2 p ha
theorem RSt.shut (h : RSt F w K rb tb cb q L0 L2 i nx at_ l w1) (p : Int) {m0 m2 : List Int} {r : Value} (hr : Value.int .i64 (shE L2 p) = r) (h2 : spv L2 p 1 = m2) (h0 : L0 = m0) :
    Calls Try.prog 41 #[.pointer (some ⟨tb, 0, none⟩), .int .i64 p] w1 fun e w2 => e = .returned r ∧ RSt F w K rb tb cb q m0 m2 i nx at_ l w2 ∧ Kept K w1 w2 := by
  subst hr h2 h0
  exact h.tally fun F w ha => tShut_any F w tb cb q L0 L2 p ha
theorem RSt.add (h : RSt F w K rb tb cb q L0 L2 i nx at_ l w1) (p j u : Int) (hu : 0 ≤ u ∧ u < 4294967296) {m0 : List Int} {r : Value} (hr : Value.int .i64 (adE L2 p j) = r) (h0 : adL L0 L2 p j u = m0) :
    Calls Try.prog 47 #[.pointer (some ⟨tb, 0, none⟩), .int .i64 p, .int .i64 j, .int .u32 u] w1 fun e w2 => e = .returned r ∧ RSt F w K rb tb cb q m0 L2 i nx at_ l w2 ∧ Kept K w1 w2 := by
  subst hr h0
  exact h.tally fun F w ha => tAdd_any F w tb cb q L0 L2 p j u hu ha
theorem RSt.note (h : RSt F w K rb tb cb q L0 L2 i nx at_ l w1) (p : Int) (c : Nat → Int) {m0 m2 : List Int} {r : Value} (hr : Value.int .i64 (spE L2 p 0) = r) (h0 : noL0 L0 L2 p c = m0) (h2 : noL2 L2 p = m2) :
    Calls Try.prog 37 #[.pointer (some ⟨tb, 0, none⟩), .int .i64 p, .agg (six c)] w1 fun e w2 => e = .returned r ∧ RSt F w K rb tb cb q m0 m2 i nx at_ l w2 ∧ Kept K w1 w2 := by
  subst hr h0 h2
  exact h.tally fun F w ha => tNote_any F w tb cb q L0 L2 p c ha
end

/-- The six counts, by the writer's next step. -/
def lr (w x y : Int) : List Int := [if 1 < w then y else x, if 2 < w then y else x, if 3 < w then y else x, if 4 < w then y else x, if 5 < w then y else x, if 6 < w then y else x]
theorem w_open (x y y' s : Int) (hs : s % 2 = 0) (h0 : 0 ≤ s) (h1 : s ≤ 400) : Value.int .i64 (spE [s] 0 0) = .int .i64 0 ∧ spv [s] 0 0 = [s + 1] ∧ lr 0 x y = lr 1 x y' := by
  have hw : wrap64 (s + 1) = s + 1 := by unfold wrap64; omega
  refine ⟨?_, ?_, by simp [lr]⟩
  · simp [spE, inB, ldv, hs]
  · simp [spv, spB, inB, ldv, hs, hw]
theorem w_shut (x y y' s : Int) (hs : s % 2 = 1) (h0 : 0 ≤ s) (h1 : s ≤ 400) : Value.int .i64 (shE [s] 0) = .int .i64 0 ∧ spv [s] 0 1 = [s + 1] ∧ lr 7 x y = lr 0 y y' := by
  have hw : wrap64 (s + 1) = s + 1 := by unfold wrap64; omega
  refine ⟨?_, ?_, by simp [lr]⟩
  · simp [shE, oddB, inB, ldv, hs]
  · simp [spv, spB, inB, ldv, hs, hw]
theorem w_add0 (x v s : Int) (hs : s % 2 = 1) : Value.int .i64 (adE [s] 0 0) = .int .i64 0 ∧ adL (lr 1 x (wrap64 (x + v))) [s] 0 0 v = lr 2 x (wrap64 (x + v)) := by
  refine ⟨?_, ?_⟩
  · simp [adE, inB, oddB, ldv, hs]
  · simp [adL, adOk, stv, adv, inB, oddB, ldv, lr, hs]
theorem w_add1 (x v s : Int) (hs : s % 2 = 1) : Value.int .i64 (adE [s] 0 1) = .int .i64 0 ∧ adL (lr 2 x (wrap64 (x + v))) [s] 0 1 v = lr 3 x (wrap64 (x + v)) := by
  refine ⟨?_, ?_⟩
  · simp [adE, inB, oddB, ldv, hs]
  · simp [adL, adOk, stv, adv, inB, oddB, ldv, lr, hs]
theorem w_add2 (x v s : Int) (hs : s % 2 = 1) : Value.int .i64 (adE [s] 0 2) = .int .i64 0 ∧ adL (lr 3 x (wrap64 (x + v))) [s] 0 2 v = lr 4 x (wrap64 (x + v)) := by
  refine ⟨?_, ?_⟩
  · simp [adE, inB, oddB, ldv, hs]
  · simp [adL, adOk, stv, adv, inB, oddB, ldv, lr, hs]
theorem w_add3 (x v s : Int) (hs : s % 2 = 1) : Value.int .i64 (adE [s] 0 3) = .int .i64 0 ∧ adL (lr 4 x (wrap64 (x + v))) [s] 0 3 v = lr 5 x (wrap64 (x + v)) := by
  refine ⟨?_, ?_⟩
  · simp [adE, inB, oddB, ldv, hs]
  · simp [adL, adOk, stv, adv, inB, oddB, ldv, lr, hs]
theorem w_add4 (x v s : Int) (hs : s % 2 = 1) : Value.int .i64 (adE [s] 0 4) = .int .i64 0 ∧ adL (lr 5 x (wrap64 (x + v))) [s] 0 4 v = lr 6 x (wrap64 (x + v)) := by
  refine ⟨?_, ?_⟩
  · simp [adE, inB, oddB, ldv, hs]
  · simp [adL, adOk, stv, adv, inB, oddB, ldv, lr, hs]
theorem w_add5 (x v s : Int) (hs : s % 2 = 1) : Value.int .i64 (adE [s] 0 5) = .int .i64 0 ∧ adL (lr 6 x (wrap64 (x + v))) [s] 0 5 v = lr 7 x (wrap64 (x + v)) := by
  refine ⟨?_, ?_⟩
  · simp [adE, inB, oddB, ldv, hs]
  · simp [adL, adOk, stv, adv, inB, oddB, ldv, lr, hs]
theorem lr_row (x y : Int) (k : Nat) (hk : k < 6) : rowC (lr 0 x y) 0 k = IntKind.u64.wrap x := by
  obtain rfl | rfl | rfl | rfl | rfl | rfl : k = 0 ∨ k = 1 ∨ k = 2 ∨ k = 3 ∨ k = 4 ∨ k = 5 := by omega
  all_goals simp [rowC, lr, ldv, inB]
/-- What reader and writer know. -/
structure TInv (w x y v s : Int) (nx : Nat) (at_ : Int) (l : Nat → Int) : Prop where
  w0 : 0 ≤ w
  w7 : w ≤ 7
  v0 : 0 ≤ v ∧ v < 4294967296
  hy : w ≠ 0 → y = wrap64 (x + v)
  s0 : 0 ≤ s
  ev : w = 0 → s % 2 = 0
  od : w ≠ 0 → s % 2 = 1
  n7 : nx ≤ 7
  le : 1 ≤ nx → 0 ≤ at_ ∧ at_ ≤ s
  eq : 1 ≤ nx → at_ = s → w = 0 ∧ ∀ j, j + 1 < nx → l j = IntKind.u64.wrap x
section
variable {w x y v s at_ : Int} {nx : Nat} {l : Nat → Int}
theorem TInv.open_ (h : TInv 0 x y v s nx at_ l) (u : Int) (hu : 0 ≤ u ∧ u < 4294967296) : TInv 1 x (wrap64 (x + u)) u (s + 1) nx at_ l :=
  ⟨by omega, by omega, hu, fun _ => rfl, by have := h.s0; omega, fun h => by omega, fun _ => by have := h.ev rfl; omega, h.n7, fun hn => by have := h.le hn; omega, fun hn he => by have := h.le hn; omega⟩
theorem TInv.add (h : TInv w x y v s nx at_ l) (hw : 1 ≤ w) (hw6 : w ≤ 6) : TInv (w + 1) x y v s nx at_ l :=
  ⟨by omega, by omega, h.v0, fun _ => h.hy (by omega), h.s0, fun h => by omega, fun _ => h.od (by omega), h.n7, h.le, fun hn he => by have := (h.eq hn he).1; omega⟩
theorem TInv.shut (h : TInv 7 x y v s nx at_ l) (y' : Int) : TInv 0 y y' v (s + 1) nx at_ l :=
  ⟨by omega, by omega, h.v0, fun h => absurd rfl h, by have := h.s0; omega, fun _ => by have := h.od (by omega); omega, fun h => absurd rfl h, h.n7, fun hn => by have := h.le hn; omega, fun hn he => by have := h.le hn; omega⟩
theorem TInv.begin_ (h : TInv 0 x y v s 0 at_ l) : TInv 0 x y v s 1 s l :=
  ⟨h.w0, h.w7, h.v0, h.hy, h.s0, h.ev, h.od, by omega, fun _ => ⟨h.s0, Int.le_refl _⟩, fun _ _ => ⟨rfl, fun j hj => by omega⟩⟩
theorem TInv.load (j : Nat) (hj : j < 6) (h : TInv w x y v s (j + 1) at_ l) (r : Int) (hr : w = 0 → r = IntKind.u64.wrap x) : TInv w x y v s (j + 2) at_ (upd l j r) :=
  ⟨h.w0, h.w7, h.v0, h.hy, h.s0, h.ev, h.od, by omega, fun _ => h.le (by omega), fun _ he => by
    obtain ⟨h1, h2⟩ := h.eq (by omega) he
    refine ⟨h1, fun i hi => ?_⟩
    unfold upd
    split
    · exact hr h1
    · exact h2 i (by omega)⟩
theorem TInv.end_ (h : TInv w x y v s 7 at_ l) : TInv w x y v s 0 at_ l := ⟨h.w0, h.w7, h.v0, h.hy, h.s0, h.ev, h.od, by omega, fun h => by omega, fun h => by omega⟩
end

set_option maxRecDepth 100000 in
set_option maxHeartbeats 12800000 in
theorem treads_any (A : Option Addr) (n cap : Nat) (f : Nat → Nat → Int) (w : World) (hr : RowsAt w w.heap.size 10 A n (krow KAct f)) (hwf : ∀ k, 0 ≤ f k 3 ∧ f k 3 < 4294967296) :
    Calls Try.prog 15 #[.slice A n cap] w fun e w' => e = .returned (.bool true) ∧ Fr no w w' := by
  have hn := hr.small
  have HR := Lib.hid hr
  have HW := Lib.hid hwf
  clear hr hwf
  go_enter Try.func15, Try.ntmps15
  go_wp2_with (go_at_call 34; refine (shown12_any _).mono ?_; rintro e w0 ⟨rfl, hf0⟩)
  refine (tNew_ok 1 _ (by omega) (by omega)).mono ?_
  rintro e w1 hnw
  obtain ⟨tb, cb, F, rfl, hs0, hF, htb, hf1⟩ := hnw.st
  have HF := Lib.hid hF
  clear hnw hF
  have hta : ∃ G, TAt G w1 tb cb 1 (rep0 6) (rep0 1) := by
    obtain ⟨⟨G, ha, _⟩, _⟩ := hs0
    exact ⟨G, ha⟩
  obtain ⟨G0, hta⟩ := hta
  go_wp2_with fail
  refine (tReader_in G0 _ tb cb 1 _ _ 0 hta (by rfl)).mono ?_
  rintro e w2 ⟨rfl, rfl⟩
  have hs1 := RSt.start (i := 0) hs0
  clear hs0 hta
  go_wp2
  go_loopw [8, 9, 10] (fun sw sv i wr => ∃ (k : Nat) (wv v x y s : Int) (nx : Nat) (at_ : Int) (l : Nat → Int), k ≤ n ∧ k ≤ 200 ∧ i = .int .i64 k ∧ sw = .int .i64 wv ∧ sv = .int .u32 v ∧ s ≤ k ∧ TInv wv x y v s nx at_ l ∧
      RSt F w1 no w1.heap.size tb cb 1 (lr wv x y) [s] 0 nx at_ l wr) (fun _ _ i _ => n - (intOf i).toNat)
  case atStart => exact ⟨0, 0, 1, 0, 0, 0, 0, 0, no6, Nat.zero_le _, by omega, rfl, rfl, rfl, by omega, ⟨by omega, by omega, by omega, fun h => absurd rfl h, by omega, fun _ => rfl, fun h => absurd rfl h, by omega, fun h => by omega, fun h => by omega⟩, hs1⟩
  case round =>
    obtain ⟨k, wv, v, x, y, s, nx, at_, l, hk, hk200, rfl, rfl, rfl, hsk, hI, hs2⟩ := hrel
    clear hs1
    by_cases hlt : k < n
    · by_cases hlt8 : k < 200
      · have hb2 : Below w.heap.size w wr := hf0.is_below.trans ((hs2.fr0 HF.out hf1).is_below.mono hf0.size)
        have hrk := HR.out.keep hb2
        obtain ⟨g, o, rfl, hg, hc⟩ := hrk.at_ (by omega)
        have e0 : wr.cell? ⟨g, o + k * 10, none⟩ = some (.int .i64 (f k 0)) := hc k 0 hlt (by decide)
        have e3 : wr.cell? ⟨g, o + k * 10 + 3, none⟩ = some (.int .u32 (f k 3)) := hc k 3 hlt (by decide)
        have HU := Lib.hid (HW.out k)
        have hk3 : ∀ W, RSt F w1 no w1.heap.size tb cb 1 (lr 1 x (wrap64 (x + f k 3))) [s + 1] 0 nx at_ l W → W.cell? ⟨g, o + k * 10 + 3, none⟩ = some (.int .u32 (f k 3)) := fun W hW => by
          have hb : Below w.heap.size w W := hf0.is_below.trans ((hW.fr0 HF.out hf1).is_below.mono hf0.size)
          obtain ⟨g', o', e, hg', hc'⟩ := (HR.out.keep hb).at_ (by omega)
          obtain ⟨rfl, rfl⟩ : g = g' ∧ o = o' := by simpa using e
          exact hc' k 3 hlt (by decide)
        have HK3 := Lib.hid hk3
        clear hc hrk hb2 hk3
        generalize f k 0 = d at *
        generalize f k 3 = u at *
        have hI' := Lib.hid hI
        by_cases hd : d.tmod 2 = 0
        · have hd' : (d.tmod 2 == 0) = true := by simp [hd]
          clear hd
          obtain hw4 : wv = 0 ∨ wv = 1 ∨ wv = 2 ∨ wv = 3 ∨ wv = 4 ∨ wv = 5 ∨ wv = 6 ∨ wv = 7 := by have := hI.w0; have := hI.w7; omega
          clear hI
          rcases hw4 with rfl | rfl | rfl | rfl | rfl | rfl | rfl | rfl
          · have e := Lib.hid (w_open x y (wrap64 (x + u)) s (hI'.out.ev rfl) hI'.out.s0 (by omega))
            clear e3
            go_wp2_with fail
            refine (hs2.open_ 0 e.out.1 e.out.2.1 e.out.2.2).mono ?_
            rintro e w3 ⟨rfl, hs3, -⟩
            have e3 := HK3.out _ hs3
            go_wp2
            all_goals
              go_roundw
              case rel => exact ⟨k + 1, 1, u, x, _, s + 1, nx, at_, l, by omega, by omega, by go_num, by first | rfl | go_num, rfl, by omega, hI'.out.open_ u HU.out, hs3⟩
              case measure => simp [intOf]; omega
          · have hy := hI'.out.hy (by omega)
            subst hy
            have e := Lib.hid (w_add0 x v s (hI'.out.od (by omega)))
            clear e3
            go_wp2_with fail
            refine (hs2.add 0 0 v hI'.out.v0 e.out.1 e.out.2).mono ?_
            rintro e w3 ⟨rfl, hs3, -⟩
            go_wp2
            all_goals
              go_roundw
              case rel => exact ⟨k + 1, 2, v, x, _, s, nx, at_, l, by omega, by omega, by go_num, by first | rfl | go_num, rfl, by omega, hI'.out.add (by omega) (by omega), hs3⟩
              case measure => simp [intOf]; omega
          · have hy := hI'.out.hy (by omega)
            subst hy
            have e := Lib.hid (w_add1 x v s (hI'.out.od (by omega)))
            clear e3
            go_wp2_with fail
            refine (hs2.add 0 1 v hI'.out.v0 e.out.1 e.out.2).mono ?_
            rintro e w3 ⟨rfl, hs3, -⟩
            go_wp2
            all_goals
              go_roundw
              case rel => exact ⟨k + 1, 3, v, x, _, s, nx, at_, l, by omega, by omega, by go_num, by first | rfl | go_num, rfl, by omega, hI'.out.add (by omega) (by omega), hs3⟩
              case measure => simp [intOf]; omega
          · have hy := hI'.out.hy (by omega)
            subst hy
            have e := Lib.hid (w_add2 x v s (hI'.out.od (by omega)))
            clear e3
            go_wp2_with fail
            refine (hs2.add 0 2 v hI'.out.v0 e.out.1 e.out.2).mono ?_
            rintro e w3 ⟨rfl, hs3, -⟩
            go_wp2
            all_goals
              go_roundw
              case rel => exact ⟨k + 1, 4, v, x, _, s, nx, at_, l, by omega, by omega, by go_num, by first | rfl | go_num, rfl, by omega, hI'.out.add (by omega) (by omega), hs3⟩
              case measure => simp [intOf]; omega
          · have hy := hI'.out.hy (by omega)
            subst hy
            have e := Lib.hid (w_add3 x v s (hI'.out.od (by omega)))
            clear e3
            go_wp2_with fail
            refine (hs2.add 0 3 v hI'.out.v0 e.out.1 e.out.2).mono ?_
            rintro e w3 ⟨rfl, hs3, -⟩
            go_wp2
            all_goals
              go_roundw
              case rel => exact ⟨k + 1, 5, v, x, _, s, nx, at_, l, by omega, by omega, by go_num, by first | rfl | go_num, rfl, by omega, hI'.out.add (by omega) (by omega), hs3⟩
              case measure => simp [intOf]; omega
          · have hy := hI'.out.hy (by omega)
            subst hy
            have e := Lib.hid (w_add4 x v s (hI'.out.od (by omega)))
            clear e3
            go_wp2_with fail
            refine (hs2.add 0 4 v hI'.out.v0 e.out.1 e.out.2).mono ?_
            rintro e w3 ⟨rfl, hs3, -⟩
            go_wp2
            all_goals
              go_roundw
              case rel => exact ⟨k + 1, 6, v, x, _, s, nx, at_, l, by omega, by omega, by go_num, by first | rfl | go_num, rfl, by omega, hI'.out.add (by omega) (by omega), hs3⟩
              case measure => simp [intOf]; omega
          · have hy := hI'.out.hy (by omega)
            subst hy
            have e := Lib.hid (w_add5 x v s (hI'.out.od (by omega)))
            clear e3
            go_wp2_with fail
            refine (hs2.add 0 5 v hI'.out.v0 e.out.1 e.out.2).mono ?_
            rintro e w3 ⟨rfl, hs3, -⟩
            go_wp2
            all_goals
              go_roundw
              case rel => exact ⟨k + 1, 7, v, x, _, s, nx, at_, l, by omega, by omega, by go_num, by first | rfl | go_num, rfl, by omega, hI'.out.add (by omega) (by omega), hs3⟩
              case measure => simp [intOf]; omega
          · have e := Lib.hid (w_shut x y 0 s (hI'.out.od (by omega)) hI'.out.s0 (by omega))
            clear e3
            go_wp2_with fail
            refine (hs2.shut 0 e.out.1 e.out.2.1 e.out.2.2).mono ?_
            rintro e w3 ⟨rfl, hs3, -⟩
            go_wp2
            all_goals
              go_roundw
              case rel => exact ⟨k + 1, 0, v, y, 0, s + 1, nx, at_, l, by omega, by omega, by go_num, by first | rfl | go_num, rfl, by omega, hI'.out.shut 0, hs3⟩
              case measure => simp [intOf]; omega
        · have hd' : (d.tmod 2 == 0) = false := by simp [hd]
          clear hd e3
          have hin : Hid (inB [s] 0 = true) := by show _ = _; simp [inB]
          by_cases hn0 : nx = 0
          · subst hn0
            by_cases hw0 : wv = 0
            · subst hw0
              have ho : oddB [s] 0 = false := by
                have := hI.ev rfl
                simp [oddB, ldv, inB, this]
              have HB := Lib.hid (hs2.begin_ok hin.out ho)
              clear hI ho
              go_wp2_with fail
              refine HB.out.mono ?_
              rintro e w3 ⟨rfl, hs3, -⟩
              have hs4 := hs3.keep ((Fr.refl no w3).alloc (.cells #[.int .u64 0, .int .u64 0, .int .u64 0, .int .u64 0, .int .u64 0, .int .u64 0] 56))
              clear hs3 hs2 HB
              go_wp2
              all_goals
                go_roundw
                case rel => exact ⟨k + 1, 0, v, x, y, s, 1, s, l, by omega, by omega, by go_num, rfl, rfl, by omega, hI'.out.begin_, by rw [show ldv [s] 0 = s by simp [ldv, inB]] at hs4; exact hs4⟩
                case measure => simp [intOf]; omega
            · have ho : oddB [s] 0 = true := by
                have := hI.od hw0
                simp [oddB, ldv, inB, this]
              have HB := Lib.hid (hs2.begin_no hin.out ho)
              clear hI ho hw0
              go_wp2_with fail
              refine HB.out.mono ?_
              rintro e w3 ⟨rfl, hs3, -⟩
              have hs4 := hs3.keep ((Fr.refl no w3).alloc (.cells #[.int .u64 0, .int .u64 0, .int .u64 0, .int .u64 0, .int .u64 0, .int .u64 0] 56))
              clear hs3 hs2 HB
              go_wp2
              all_goals
                go_roundw
                case rel => exact ⟨k + 1, wv, v, x, y, s, 0, at_, l, by omega, by omega, by go_num, rfl, rfl, by omega, hI'.out, hs4⟩
                case measure => simp [intOf]; omega
          · obtain ⟨j, rfl⟩ : ∃ j, nx = j + 1 := ⟨nx - 1, by omega⟩
            by_cases hj : j < 6
            · have HB := Lib.hid (RSt.load j hj hs2 (by omega) (by omega))
              have hr : Hid (wv = 0 → rowC (lr wv x y) 0 j = IntKind.u64.wrap x) := fun h => by rw [h]; exact lr_row x y j hj
              clear hI hn0
              go_wp2_with fail
              refine HB.out.mono ?_
              rintro e w3 ⟨rfl, hs3, -⟩
              have hs4 := hs3.keep ((Fr.refl no w3).alloc (.cells #[.int .u64 0, .int .u64 0, .int .u64 0, .int .u64 0, .int .u64 0, .int .u64 0] 56))
              clear hs3 hs2 HB
              go_wp2
              all_goals
                go_roundw
                case rel => exact ⟨k + 1, wv, v, x, y, s, j + 2, at_, _, by omega, by omega, by go_num, rfl, rfl, by omega, TInv.load j hj hI'.out _ hr.out, hs4⟩
                case measure => simp [intOf]; omega
            · obtain rfl : j = 6 := by have := hI.n7; omega
              by_cases he : at_ = s
              · have hen : enB [s] 0 at_ = true := by simp [enB, inB, ldv, he]
                have hl := (hI.eq (by omega) he).2
                have HB := hs2.end_ok hin.out hen
                rw [hl 0 (by omega), hl 1 (by omega), hl 2 (by omega), hl 3 (by omega), hl 4 (by omega), hl 5 (by omega)] at HB
                have HB := Lib.hid HB
                clear hI hn0 he hen hl hj
                go_wp2_with fail
                refine HB.out.mono ?_
                rintro e w3 ⟨rfl, hs3, -⟩
                have hs4 := hs3.keep ((Fr.refl no w3).alloc (.cells #[.int .u64 (IntKind.u64.wrap x), .int .u64 (IntKind.u64.wrap x), .int .u64 (IntKind.u64.wrap x), .int .u64 (IntKind.u64.wrap x), .int .u64 (IntKind.u64.wrap x), .int .u64 (IntKind.u64.wrap x)] 56))
                clear hs3 hs2
                go_wp2
                all_goals
                  go_roundw
                  case rel => exact ⟨k + 1, wv, v, x, y, s, 0, at_, l, by omega, by omega, by go_num, rfl, rfl, by omega, hI'.out.end_, hs4⟩
                  case measure => simp [intOf]; omega
              · have hen : enB [s] 0 at_ = false := by
                  simp [enB, inB, ldv]
                  omega
                have HB := Lib.hid (hs2.end_no hin.out hen)
                clear hI hn0 he hen hj
                go_wp2_with fail
                refine HB.out.mono ?_
                rintro e w3 ⟨rfl, hs3, -⟩
                have hs4 := hs3.keep ((Fr.refl no w3).alloc (.cells #[.int .u64 0, .int .u64 0, .int .u64 0, .int .u64 0, .int .u64 0, .int .u64 0] 56))
                clear hs3 hs2 HB
                go_wp2
                all_goals
                  go_roundw
                  case rel => exact ⟨k + 1, wv, v, x, y, s, 0, at_, l, by omega, by omega, by go_num, rfl, rfl, by omega, hI'.out.end_, hs4⟩
                  case measure => simp [intOf]; omega
      · have hge : 200 ≤ k := by omega
        go_wp2
        go_ret
        exact ⟨rfl, hf0.trans' (hs2.fr0 HF.out hf1)⟩
    · have hge : n ≤ k := by omega
      go_wp2
      go_ret
      exact ⟨rfl, hf0.trans' (hs2.fr0 HF.out hf1)⟩
end Go.Proofs.Ytkilibdalgnghaa
