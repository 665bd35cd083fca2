/-
  The laws of the tally: shown, small.
-/
import Derived.Test.YtkilibdalgnghaaTally8
namespace Go.Proofs.Ytkilibdalgnghaa
set_option linter.unusedVariables false
set_option linter.unusedSimpArgs false
open Go.RowKit Go.Shelf

def mk6 (a0 a1 a2 a3 a4 a5 : Int) : Nat → Int := fun j => match j with
  | 0 => a0 | 1 => a1 | 2 => a2 | 3 => a3 | 4 => a4 | _ => a5
section
variable {F K : Nat → Prop} {w w1 : World} {tb cb q : Nat} {L0 L2 : List Int}
theorem TSt.open_ (h : TSt F w K tb cb q L0 L2 w1) (i : Int) {m2 : List Int} {r : Value} (hr : Value.int .i64 (spE L2 i 0) = r := by first | rfl | kernel_rfl) (h2 : spv L2 i 0 = m2 := by first | rfl | kernel_rfl) :
    Calls Try.prog 40 #[.pointer (some ⟨tb, 0, none⟩), .int .i64 i] w1 fun e w2 => e = .returned r ∧ TSt F w K tb cb q L0 m2 w2 ∧ Kept K w1 w2 := by
  subst hr h2
  exact h.go fun F w ha => tOpen_any F w tb cb q L0 L2 i ha
theorem TSt.shut (h : TSt F w K tb cb q L0 L2 w1) (i : Int) {m2 : List Int} {r : Value} (hr : Value.int .i64 (shE L2 i) = r := by first | rfl | kernel_rfl) (h2 : spv L2 i 1 = m2 := by first | rfl | kernel_rfl) :
    Calls Try.prog 41 #[.pointer (some ⟨tb, 0, none⟩), .int .i64 i] w1 fun e w2 => e = .returned r ∧ TSt F w K tb cb q L0 m2 w2 ∧ Kept K w1 w2 := by
  subst hr h2
  exact h.go fun F w ha => tShut_any F w tb cb q L0 L2 i ha
theorem TSt.add (h : TSt F w K tb cb q L0 L2 w1) (i j u : Int) (hu : 0 ≤ u ∧ u < 4294967296) {m0 : List Int} {r : Value} (hr : Value.int .i64 (adE L2 i j) = r := by first | rfl | kernel_rfl) (h0 : adL L0 L2 i j u = m0 := by first | rfl | kernel_rfl) :
    Calls Try.prog 47 #[.pointer (some ⟨tb, 0, none⟩), .int .i64 i, .int .i64 j, .int .u32 u] w1 fun e w2 => e = .returned r ∧ TSt F w K tb cb q m0 L2 w2 ∧ Kept K w1 w2 := by
  subst hr h0
  exact h.go fun F w ha => tAdd_any F w tb cb q L0 L2 i j u hu ha
theorem TSt.note (h : TSt F w K tb cb q L0 L2 w1) (i : Int) (c : Nat → Int) {m0 m2 : List Int} {r : Value} (hr : Value.int .i64 (spE L2 i 0) = r := by first | rfl | kernel_rfl) (h0 : noL0 L0 L2 i c = m0 := by first | rfl | kernel_rfl) (h2 : noL2 L2 i = m2 := by first | rfl | kernel_rfl) :
    Calls Try.prog 37 #[.pointer (some ⟨tb, 0, none⟩), .int .i64 i, .agg (six c)] w1 fun e w2 => e = .returned r ∧ TSt F w K tb cb q m0 m2 w2 ∧ Kept K w1 w2 := by
  subst hr h0 h2
  exact h.go fun F w ha => tNote_any F w tb cb q L0 L2 i c ha
theorem TSt.read (h : TSt F w K tb cb q L0 L2 w1) (i : Int) {r : Value} (hr : Value.tuple #[.agg (six (rdC L0 L2 i)), .int .i64 (bgE L2 i)] = r := by first | rfl | kernel_rfl) :
    Calls Try.prog 39 #[.pointer (some ⟨tb, 0, none⟩), .int .i64 i] w1 fun e w2 => e = .returned r ∧ TSt F w K tb cb q L0 L2 w2 ∧ Kept K w1 w2 := by
  subst hr
  exact h.go fun F w ha => tRead_any F w tb cb q L0 L2 i ha
theorem TSt.sum (h : TSt F w K tb cb q L0 L2 w1) {r : Value} (hr : SumV L0 L2 q = r := by first | rfl | kernel_rfl) :
    Calls Try.prog 38 #[.pointer (some ⟨tb, 0, none⟩)] w1 fun e w2 => e = .returned r ∧ TSt F w K tb cb q L0 L2 w2 ∧ Kept K w1 w2 := by
  subst hr
  exact h.go fun F w ha => tSum_any F w tb cb q L0 L2 ha
/-- A tally made since w0. -/
theorem TNew.st {q : Nat} {w0 w1 : World} {e : Ending} (h : TNew q w0 e w1) : ∃ tb cb F, e = .returned (.tuple #[.pointer (some ⟨tb, 0, none⟩), .int .i64 0]) ∧ TSt F w1 no tb cb q (rep0 (6 * q)) (rep0 q) w1 ∧ (∀ k, F k → w0.heap.size ≤ k) ∧ w0.heap.size ≤ tb ∧ Fr no w0 w1 := by
  obtain ⟨tb, cb, F, rfl, h1, h2, h3, h4⟩ := h
  exact ⟨tb, cb, F, rfl, TSt.start h1, h2, h3, h4⟩
theorem TSt.fr0 {w0 w' : World} (h : TSt F w K tb cb q L0 L2 w') (hF : ∀ k, F k → w0.heap.size ≤ k) (hf : Fr no w0 w) : Fr no w0 w' :=
  hf.trans (h.fr.mono fun k hk => .inr ⟨hF k hk, h.bd k hk⟩)
end

set_option maxHeartbeats 1600000 in
theorem shown12_any (w : World) : Calls Try.prog 34 #[] w fun e w' => e = .returned (.bool true) ∧ Fr no w w' := by
  go_enter Try.func34, Try.ntmps34
  go_wp2_with fail
  refine (tNew_ok 2 _ (by omega) (by omega)).mono ?_
  rintro e w1 hn
  obtain ⟨tb, cb, F, rfl, hs1, hF, -, hf1⟩ := hn.st
  clear hn
  go_wp2_with fail
  refine (hs1.note 1 (mk6 2 0 0 0 0 0) (r := .int .i64 0) (m0 := [0, 0, 0, 0, 0, 0, 2, 0, 0, 0, 0, 0]) (m2 := [0, 2])).mono ?_
  rintro e w2 ⟨rfl, hs2, -⟩
  go_wp2_with fail
  refine (hs2.read 1 (r := .tuple #[.agg #[.int .u64 2, .int .u64 0, .int .u64 0, .int .u64 0, .int .u64 0, .int .u64 0], .int .i64 0])).mono ?_
  rintro e w3 ⟨rfl, hs3, -⟩
  go_wp2_with fail
  have hs3b := hs3.box (.cells #[.int .u64 2, .int .u64 0, .int .u64 0, .int .u64 0, .int .u64 0, .int .u64 0] 56)
  have hg3 : Blk (w3.alloc (.cells #[.int .u64 2, .int .u64 0, .int .u64 0, .int .u64 0, .int .u64 0, .int .u64 0] 56)) w3.heap.size 56 (six (mk6 2 0 0 0 0 0)) := Blk.new _ _ _
  clear hs1 hs2 hs3
  refine (hs3b.open_ 1 (r := .int .i64 0) (m2 := [0, 3])).mono ?_
  rintro e w4 ⟨rfl, hs4, hk4⟩
  have hg4 := hk4.blk hg3 (.inr rfl)
  go_wp2_with fail
  refine (hs4.sum (r := .tuple #[.agg #[.int .u64 0, .int .u64 0, .int .u64 0, .int .u64 0, .int .u64 0, .int .u64 0], .int .i64 111])).mono ?_
  rintro e w5 ⟨rfl, hs5, hk5⟩
  have hg5 := hk5.blk hg4 (.inr rfl)
  clear hs3b hg3 hk4 hg4 hs4 hk5
  have hs6 := hs5.keep ((Fr.refl no w5).alloc (.cells #[.int .u64 0, .int .u64 0, .int .u64 0, .int .u64 0, .int .u64 0, .int .u64 0] 56))
  have hg6 := hg5.alloc (.cells #[.int .u64 0, .int .u64 0, .int .u64 0, .int .u64 0, .int .u64 0, .int .u64 0] 56)
  clear hs5 hg5
  go_wp2_with fail
  refine (tNew_bad 0 _ (by omega)).mono ?_
  rintro e w6 ⟨rfl, rfl⟩
  obtain ⟨c0, c1, c2, c3, c4, c5⟩ := cells6 hg6
  go_wp2
  go_ret
  exact ⟨rfl, hs6.fr0 hF hf1⟩
end Go.Proofs.Ytkilibdalgnghaa
