/-
  The tally: counts of queues on cells. Contracts of the short functions.
-/
import Derived.Test.YtkilibdalgnghaaCells4
import Derived.Test.YtkilibdalgnghaaPlain11
namespace Go.Proofs.Ytkilibdalgnghaa
set_option linter.unusedVariables false
set_option linter.unusedSimpArgs false
open Go.RowKit Go.Shelf

/-- A tally of q queues: its struct lies in block tb (outside F), its cells own F. -/
structure TAt (F : Nat → Prop) (w : World) (tb cb q : Nat) (L0 L2 : List Int) : Prop where
  blk : Blk w tb 119 #[.pointer (some ⟨cb, 0, none⟩), .int .i64 q]
  out : ¬ F tb
  cells : CellsAt F w cb L0 [] L2
  bd : ∀ k, F k → k < w.heap.size
  len0 : L0.length = 6 * q
  len2 : L2.length = q
  q64 : q ≤ 64
def TPost (F : Nat → Prop) (w : World) (tb cb q : Nat) (v : Value) (L0 L2 : List Int) (e : Ending) (w' : World) : Prop := e = .returned v ∧ TAt (FN F w w') w' tb cb q L0 L2 ∧ Fr F w w'
section
variable {F G : Nat → Prop} {w w' w1 : World} {tb cb q : Nat} {L0 L2 L0' L2' : List Int} {f : FuncId} {args : Array Value} {v : Value}
theorem TAt.frame (h : TAt F w tb cb q L0 L2) (hf : Fr G w w') (hd : ∀ k, F k → ¬ G k) (ht : ¬ G tb) : TAt F w' tb cb q L0 L2 :=
  ⟨hf.blk h.blk ht, h.out, h.cells.frame hf hd, fun k hk => Nat.lt_of_lt_of_le (h.bd k hk) hf.size, h.len0, h.len2, h.q64⟩
theorem TAt.keep (h : TAt F w tb cb q L0 L2) (hf : Fr no w w') : TAt F w' tb cb q L0 L2 := h.frame hf (fun k _ => no_not k) (no_not _)
theorem TAt.next (h : TAt F w tb cb q L0 L2) (hc : CellsAt (FN F w w') w' cb L0' [] L2') (hf : Fr F w w') (h0 : L0'.length = L0.length) (h2 : L2'.length = L2.length) : TAt (FN F w w') w' tb cb q L0' L2' :=
  ⟨hf.blk h.blk h.out, FN.not h.blk.lt h.out, hc, FN.lt h.bd hf.size, h0.trans h.len0, h2.trans h.len2, h.q64⟩
theorem TPost.self (h : TAt F w tb cb q L0 L2) : TPost F w tb cb q v L0 L2 (.returned v) w := ⟨rfl, by rw [FN.self]; exact h, Fr.refl _ _⟩
/-- A call on the cells. -/
theorem TAt.go (h : TAt F w tb cb q L0 L2) (hc : ∀ F w, (∀ k, F k → k < w.heap.size) → CellsAt F w cb L0 [] L2 → Calls Try.prog f args w (Post1 F w cb v L0' [] L2')) (h0 : L0'.length = L0.length) (h2 : L2'.length = L2.length) :
    Calls Try.prog f args w (TPost F w tb cb q v L0' L2') :=
  (hc F w h.bd h.cells).mono fun e w' ⟨he, h1, hf⟩ => ⟨he, h.next h1 hf h0 h2, hf⟩

theorem TAt.mono (h : TAt F w tb cb q L0 L2) (hG : ∀ k, F k → G k) (ht : ¬ G tb) (hb : ∀ k, G k → k < w.heap.size) : TAt G w tb cb q L0 L2 :=
  ⟨h.blk, ht, h.cells.mono hG, hb, h.len0, h.len2, h.q64⟩

/-- A tally over a stretch of calls, seen from its beginning; the blocks K lie beside it. -/
structure TSt (F : Nat → Prop) (w : World) (K : Nat → Prop) (tb cb q : Nat) (L0 L2 : List Int) (w' : World) : Prop where
  ex : ∃ G, TAt G w' tb cb q L0 L2 ∧ (∀ k, G k → FN F w w' k) ∧ ∀ k, K k → ¬ G k ∧ k < w'.heap.size
  fr : Fr F w w'
  tbl : tb < w.heap.size
  out : ¬ F tb
  bd : ∀ k, F k → k < w.heap.size
variable {K : Nat → Prop}
theorem TSt.start (h : TAt F w tb cb q L0 L2) : TSt F w no tb cb q L0 L2 w := ⟨⟨F, h, fun _ hk => .inl hk, fun _ hk => hk.elim⟩, Fr.refl _ _, h.blk.lt, h.out, h.bd⟩
theorem TSt.goK (h : TSt F w K tb cb q L0 L2 w1) (hc : ∀ G, TAt G w1 tb cb q L0 L2 → (∀ k, K k → ¬ G k) → Calls Try.prog f args w1 (TPost G w1 tb cb q v L0' L2')) :
    Calls Try.prog f args w1 fun e w2 => e = .returned v ∧ TSt F w K tb cb q L0' L2' w2 ∧ Kept K w1 w2 := by
  obtain ⟨⟨G, ha, hG, hK⟩, hf, htl, hto, hbd⟩ := h
  refine (hc _ ha fun k hk => (hK k hk).1).mono ?_
  rintro e w2 ⟨rfl, h1, h2⟩
  refine ⟨rfl, ⟨⟨_, h1, fun k hk => ?_, fun k hk => ⟨FN.not (hK k hk).2 (hK k hk).1, Nat.lt_of_lt_of_le (hK k hk).2 h2.size⟩⟩, hf.trans (h2.mono hG), htl, hto, hbd⟩, fun k hk => h2.block k (hK k hk).2 (hK k hk).1⟩
  rcases hk with hk | ⟨hk, hk'⟩
  · exact FN.more h2.size k (hG k hk)
  · exact .inr ⟨Nat.le_trans hf.size hk, hk'⟩
theorem TSt.go (h : TSt F w K tb cb q L0 L2 w1) (hc : ∀ F w, TAt F w tb cb q L0 L2 → Calls Try.prog f args w (TPost F w tb cb q v L0' L2')) :
    Calls Try.prog f args w1 fun e w2 => e = .returned v ∧ TSt F w K tb cb q L0' L2' w2 ∧ Kept K w1 w2 := h.goK fun G ha _ => hc G w1 ha
theorem TSt.post (h : TSt F w K tb cb q L0 L2 w1) : TPost F w tb cb q v L0 L2 (.returned v) w1 := by
  obtain ⟨⟨G, ha, hG, hK⟩, hf, htl, hto, hbd⟩ := h
  exact ⟨rfl, ha.mono hG (FN.not htl hto) (FN.lt hbd hf.size), hf⟩
theorem TSt.keep (h : TSt F w K tb cb q L0 L2 w1) (hf : Fr no w1 w') : TSt F w K tb cb q L0 L2 w' := by
  obtain ⟨⟨G, ha, hG, hK⟩, hf0, htl, hto, hbd⟩ := h
  exact ⟨⟨G, ha.keep hf, fun k hk => FN.more hf.size k (hG k hk), fun k hk => ⟨(hK k hk).1, Nat.lt_of_lt_of_le (hK k hk).2 hf.size⟩⟩, hf0.trans' (hf.mono fun k hk => hk.elim), htl, hto, hbd⟩
theorem TSt.box (h : TSt F w K tb cb q L0 L2 w1) (o : Obj) : TSt F w (fun k => K k ∨ k = w1.heap.size) tb cb q L0 L2 (w1.alloc o) := by
  have h' := h.keep ((Fr.refl no w1).alloc o)
  obtain ⟨⟨G, ha, hG, hK⟩, hf0, htl, hto, hbd⟩ := h
  obtain ⟨_, hf1, _, _, _⟩ := h'
  refine ⟨⟨G, ha.keep ((Fr.refl no w1).alloc o), fun k hk => FN.more (by simp) k (hG k hk), fun k hk => ?_⟩, hf1, htl, hto, hbd⟩
  rcases hk with hk | rfl
  · exact ⟨(hK k hk).1, by have := (hK k hk).2; simp; omega⟩
  · exact ⟨fun hk => by have := ha.bd _ hk; omega, by simp⟩
theorem TSt.weak {K' : Nat → Prop} (h : TSt F w K tb cb q L0 L2 w1) (hk : ∀ k, K' k → K k) : TSt F w K' tb cb q L0 L2 w1 := by
  obtain ⟨⟨G, ha, hG, hK⟩, hf, htl, hto, hbd⟩ := h
  exact ⟨⟨G, ha, hG, fun k h => hK k (hk k h)⟩, hf, htl, hto, hbd⟩
/-- A cell of a block of K is set. -/
theorem TSt.set_ (h : TSt F w K tb cb q L0 L2 w1) {p : Addr} (hp : K p.block) (hw : w.heap.size ≤ p.block) (hne : p.block ≠ tb) (u : Value) : TSt F w K tb cb q L0 L2 (w1.setCell p u) := by
  obtain ⟨⟨G, ha, hG, hK⟩, hf, htl, hto, hbd⟩ := h
  refine ⟨⟨G, ha.frame ((Fr.refl (fun k => k = p.block) w1).setCell (.inl rfl) u) (fun k hk he => (hK _ hp).1 (he ▸ hk)) (fun he => hne he.symm), ?_, ?_⟩, hf.setCell (.inr hw) u, htl, hto, hbd⟩
  · intro k hk; rw [FN.setCell]; exact hG k hk
  · intro k hk; exact ⟨(hK k hk).1, by simpa [World.setCell] using (hK k hk).2⟩
theorem TSt.drew (h : TSt F w K tb cb q L0 L2 w1) : TSt F w K tb cb q L0 L2 w1.drew := h.keep (Fr.refl no w1).drew
end

/-! ### check, Open, isOpen, Add, Shut -/
section
variable (F : Nat → Prop) (w : World) (tb cb q : Nat) (L0 L2 : List Int) (i : Int)
theorem tCheck_any (h : TAt F w tb cb q L0 L2) : Calls Try.prog 67 #[.pointer (some ⟨tb, 0, none⟩), .int .i64 i] w fun e w' => e = .returned (.int .i64 (er L2 i)) ∧ w = w' := by
  have d1 := h.blk.cell 1
  simp only [List.getElem?_toArray, List.getElem?_cons_succ, List.getElem?_cons_zero] at d1
  have hq := h.q64
  have hl := h.len2
  cases hi : inB L2 i with
  | true =>
    have e1 : er L2 i = 0 := by simp [er, hi]
    obtain ⟨i0, i1⟩ := inB_true.1 hi
    rw [hl] at i1
    rw [e1]
    clear hl hi e1 h
    go_enter Try.func67, Try.ntmps67
    go_wp2
    go_ret
    exact ⟨rfl, rfl⟩
  | false =>
    have e1 : er L2 i = 2 := by simp [er, hi]
    have hn : i < 0 ∨ (q : Int) ≤ i := by
      have : ¬ (0 ≤ i ∧ i < (L2.length : Int)) := fun hh => by rw [inB_true.2 hh] at hi; cases hi
      rw [hl] at this
      omega
    rw [e1]
    clear hl hi e1 h
    rcases hn with hn | hn
    · go_enter Try.func67, Try.ntmps67
      go_wp2
      go_ret
      exact ⟨rfl, rfl⟩
    · have h0 : 0 ≤ i := by omega
      go_enter Try.func67, Try.ntmps67
      go_wp2
      go_ret
      exact ⟨rfl, rfl⟩
theorem tCheck_nil : Calls Try.prog 67 #[.pointer none, .int .i64 i] w fun e w' => e = .returned (.int .i64 1) ∧ w = w' := by
  go_enter Try.func67, Try.ntmps67
  go_wp2
  go_ret
  exact ⟨rfl, rfl⟩

theorem spE_out {l : List Int} {i o : Int} (h : inB l i = false) : spE l i o = 2 ∧ spv l i o = l := by simp [spE, spv, spB, h]
set_option maxHeartbeats 800000 in
theorem tOpen_any (h : TAt F w tb cb q L0 L2) : Calls Try.prog 40 #[.pointer (some ⟨tb, 0, none⟩), .int .i64 i] w (TPost F w tb cb q (.int .i64 (spE L2 i 0)) L0 (spv L2 i 0)) := by
  have d0 := h.blk.cell 0
  simp only [List.getElem?_toArray, List.getElem?_cons_succ, List.getElem?_cons_zero] at d0
  have hC := tCheck_any F w tb cb q L0 L2 i h
  cases hi : inB L2 i with
  | false =>
    rw [(spE_out hi).1, (spE_out hi).2]
    simp only [er, hi] at hC
    clear hi d0
    go_enter Try.func40, Try.ntmps40
    go_wp2_with (go_at_call 67; refine hC.mono ?_; rintro e w1 ⟨rfl, rfl⟩)
    go_ret
    exact TPost.self h
  | true =>
    simp only [er, hi, if_true] at hC
    have HG := Lib.hid (h.go (v := .int .i64 (spE L2 i 0)) (L0' := L0) (L2' := spv L2 i 0) (fun F w _ hc => cChange_any F w cb _ _ _ i hc) rfl (by unfold spv; split <;> simp))
    clear h hi
    go_enter Try.func40, Try.ntmps40
    go_wp2_with (go_at_call 67; refine hC.mono ?_; rintro e w1 ⟨rfl, rfl⟩)
    refine HG.out.mono ?_
    rintro e w1 ⟨rfl, hq⟩
    go_wp2
    go_ret
    exact ⟨rfl, hq⟩
end
end Go.Proofs.Ytkilibdalgnghaa
