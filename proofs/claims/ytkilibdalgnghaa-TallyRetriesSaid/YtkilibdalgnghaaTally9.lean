/-
  A tally and its reader over a stretch of calls.
-/
import Derived.Test.YtkilibdalgnghaaLaw12a
import Derived.Test.YtkilibdalgnghaaPlain12
namespace Go.Proofs.Ytkilibdalgnghaa
set_option linter.unusedVariables false
set_option linter.unusedSimpArgs false
open Go.RowKit Go.Shelf
section
variable {F K : Nat → Prop} {w w1 : World} {rb tb cb q : Nat} {L0 L2 L0' L2' : List Int} {i nx at_ : Int} {l : Nat → Int} {f : FuncId} {args : Array Value} {v : Value}
/-- A call on the tally while a reader reads. -/
theorem RSt.tally (h : RSt F w K rb tb cb q L0 L2 i nx at_ l w1) (hc : ∀ F w, TAt F w tb cb q L0 L2 → Calls Try.prog f args w (TPost F w tb cb q v L0' L2')) :
    Calls Try.prog f args w1 fun e w2 => e = .returned v ∧ RSt F w K rb tb cb q L0' L2' i nx at_ l w2 ∧ Kept K w1 w2 := by
  obtain ⟨⟨G, ha, hG, hK⟩, hf, hnew, htl, hto, hbd⟩ := h
  refine (hc _ w1 ha.t).mono ?_
  rintro e w2 ⟨rfl, h1, h2⟩
  refine ⟨rfl, ⟨⟨_, ⟨h1, h2.blk ha.rd ha.out, FN.not ha.rd.lt ha.out⟩, fun k hk => ?_, fun k hk => ⟨FN.not (hK k hk).2.2 (hK k hk).1, (hK k hk).2.1, Nat.lt_of_lt_of_le (hK k hk).2.2 h2.size⟩⟩, hf.trans (h2.mono hG), hnew, htl, hto, hbd⟩, fun k hk => h2.block k (hK k hk).2.2 (hK k hk).1⟩
  rcases hk with hk | ⟨hk, hk'⟩
  · exact FN.more h2.size k (hG k hk)
  · exact .inr ⟨Nat.le_trans hf.size hk, hk'⟩
theorem RSt.fr0 {w0 w' : World} (h : RSt F w K rb tb cb q L0 L2 i nx at_ l w') (hF : ∀ k, F k → w0.heap.size ≤ k) (hf : Fr no w0 w) : Fr no w0 w' :=
  hf.trans (h.fr.mono fun k hk => .inr ⟨hF k hk, h.bd k hk⟩)
theorem RSt.start (h : TSt F w K tb cb q L0 L2 w1) : RSt F w K w1.heap.size tb cb q L0 L2 i 0 0 no6 (w1.alloc (.cells (rdCells tb i 0 0 fun _ => 0) 126)) := by
  obtain ⟨⟨G, ha, hG, hK⟩, hf, htl, hto, hbd⟩ := h
  have hf1 : Fr no w1 (w1.alloc (.cells (rdCells tb i 0 0 fun _ => 0) 126)) := (Fr.refl no w1).alloc _
  exact ⟨⟨G, ⟨ha.keep hf1, Blk.new _ _ _, fun hk => by have := ha.bd _ hk; omega⟩, fun k hk => FN.more hf1.size k (hG k hk), fun k hk => ⟨(hK k hk).1, by have := (hK k hk).2; omega, Nat.lt_of_lt_of_le (hK k hk).2 hf1.size⟩⟩, hf.alloc _, hf.size, htl, hto, hbd⟩
theorem RSt.lens (h : RSt F w K rb tb cb q L0 L2 i nx at_ l w1) : L0.length = 6 * q ∧ L2.length = q := by
  obtain ⟨⟨G, ha, _⟩, _⟩ := h
  exact ⟨ha.t.len0, ha.t.len2⟩
theorem RSt.box (h : RSt F w K rb tb cb q L0 L2 i nx at_ l w1) (o : Obj) : RSt F w (fun k => K k ∨ k = w1.heap.size) rb tb cb q L0 L2 i nx at_ l (w1.alloc o) := by
  have h' := h.keep ((Fr.refl no w1).alloc o)
  obtain ⟨⟨G, ha, hG, hK⟩, hf0, hn, htl, hto, hbd⟩ := h
  obtain ⟨_, hf1, _, _, _, _⟩ := h'
  refine ⟨⟨G, ha.keep ((Fr.refl no w1).alloc o), fun k hk => FN.more (by simp) k (hG k hk), fun k hk => ?_⟩, hf1, hn, htl, hto, hbd⟩
  rcases hk with hk | rfl
  · exact ⟨(hK k hk).1, (hK k hk).2.1, by have := (hK k hk).2.2; simp; omega⟩
  · exact ⟨fun hk => by have := ha.t.bd _ hk; omega, by have := ha.rd.lt; omega, by simp⟩
theorem RSt.weak {K' : Nat → Prop} (h : RSt F w K rb tb cb q L0 L2 i nx at_ l w1) (hk : ∀ k, K' k → K k) : RSt F w K' rb tb cb q L0 L2 i nx at_ l w1 := by
  obtain ⟨⟨G, ha, hG, hK⟩, hf, hn, htl, hto, hbd⟩ := h
  exact ⟨⟨G, ha, hG, fun k h => hK k (hk k h)⟩, hf, hn, htl, hto, hbd⟩
end
def Z6 : Array Value := #[.int .u64 0, .int .u64 0, .int .u64 0, .int .u64 0, .int .u64 0, .int .u64 0]
section
variable {F K : Nat → Prop} {w w1 : World} {rb tb cb q : Nat} {L0 L2 : List Int} {i at_ : Int} {l : Nat → Int}
/-- A reader's step, with the counts written out. -/
theorem RSt.begin_ok (h : RSt F w K rb tb cb q L0 L2 i 0 at_ l w1) (hi : inB L2 i = true) (ho : oddB L2 i = false) :
    Calls Try.prog 43 #[.pointer (some ⟨rb, 0, none⟩)] w1 fun e w2 => e = .returned (.tuple #[.agg #[.int .u64 0, .int .u64 0, .int .u64 0, .int .u64 0, .int .u64 0, .int .u64 0], .bool false, .int .i64 0]) ∧ RSt F w K rb tb cb q L0 L2 i 1 (ldv L2 i) l w2 ∧ Kept K w1 w2 :=
  h.go fun F w ha => by
    have := step_begin F w rb tb cb q L0 L2 i at_ l hi ha
    rw [ho, show bgE L2 i = 0 by simp [bgE, hi]; simpa [oddB] using ho] at this
    exact this
theorem RSt.begin_no (h : RSt F w K rb tb cb q L0 L2 i 0 at_ l w1) (hi : inB L2 i = true) (ho : oddB L2 i = true) :
    Calls Try.prog 43 #[.pointer (some ⟨rb, 0, none⟩)] w1 fun e w2 => e = .returned (.tuple #[.agg #[.int .u64 0, .int .u64 0, .int .u64 0, .int .u64 0, .int .u64 0, .int .u64 0], .bool false, .int .i64 111]) ∧ RSt F w K rb tb cb q L0 L2 i 0 at_ l w2 ∧ Kept K w1 w2 :=
  h.go fun F w ha => by
    have := step_begin F w rb tb cb q L0 L2 i at_ l hi ha
    rw [ho, show bgE L2 i = 111 by simp [bgE, hi]; simpa [oddB] using ho] at this
    exact this
theorem RSt.load (k : Nat) (hk : k < 6) (h : RSt F w K rb tb cb q L0 L2 i (k + 1 : Nat) at_ l w1) (i0 : 0 ≤ i) (i1 : i < q) :
    Calls Try.prog 43 #[.pointer (some ⟨rb, 0, none⟩)] w1 fun e w2 => e = .returned (.tuple #[.agg #[.int .u64 0, .int .u64 0, .int .u64 0, .int .u64 0, .int .u64 0, .int .u64 0], .bool false, .int .i64 0]) ∧ RSt F w K rb tb cb q L0 L2 i (k + 2 : Nat) at_ (upd l k (rowC L0 i k)) w2 ∧ Kept K w1 w2 :=
  h.go fun F w ha => rdLoad_k F w rb tb cb q L0 L2 i at_ l k hk i0 i1 ha
theorem RSt.end_no (h : RSt F w K rb tb cb q L0 L2 i 7 at_ l w1) (hi : inB L2 i = true) (he : enB L2 i at_ = false) :
    Calls Try.prog 43 #[.pointer (some ⟨rb, 0, none⟩)] w1 fun e w2 => e = .returned (.tuple #[.agg #[.int .u64 0, .int .u64 0, .int .u64 0, .int .u64 0, .int .u64 0, .int .u64 0], .bool false, .int .i64 111]) ∧ RSt F w K rb tb cb q L0 L2 i 0 at_ l w2 ∧ Kept K w1 w2 :=
  h.go fun F w ha => step_fail F w rb tb cb q L0 L2 i at_ l hi he ha
theorem RSt.end_ok (h : RSt F w K rb tb cb q L0 L2 i 7 at_ l w1) (hi : inB L2 i = true) (he : enB L2 i at_ = true) :
    Calls Try.prog 43 #[.pointer (some ⟨rb, 0, none⟩)] w1 fun e w2 => e = .returned (.tuple #[.agg #[.int .u64 (l 0), .int .u64 (l 1), .int .u64 (l 2), .int .u64 (l 3), .int .u64 (l 4), .int .u64 (l 5)], .bool true, .int .i64 0]) ∧ RSt F w K rb tb cb q L0 L2 i 0 at_ l w2 ∧ Kept K w1 w2 :=
  h.go fun F w ha => step_ok F w rb tb cb q L0 L2 i at_ l hi he ha
end
end Go.Proofs.Ytkilibdalgnghaa
