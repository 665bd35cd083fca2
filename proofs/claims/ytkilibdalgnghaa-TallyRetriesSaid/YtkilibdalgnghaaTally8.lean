/-
  The tally's Sum.
-/
import Derived.Test.YtkilibdalgnghaaTally7
namespace Go.Proofs.Ytkilibdalgnghaa
set_option linter.unusedVariables false
set_option linter.unusedSimpArgs false
open Go.RowKit Go.Shelf
attribute [local go_sem] Oper.semAt_some

/-- The first k queues' counts together. -/
def sumC (L0 : List Int) : Nat → Nat → Int
  | 0 => no6
  | k + 1 => fun j => IntKind.u64.wrap (sumC L0 k j + rowC L0 k j)
/-- Are all counts of changes even? -/
def evB (L2 : List Int) (q : Nat) : Bool := (List.range q).all fun j => !oddB L2 j
theorem evB_true {L2 : List Int} {q : Nat} (h : ∀ j, j < q → oddB L2 j = false) : evB L2 q = true := by
  simp only [evB, List.all_eq_true, List.mem_range]
  intro j hj
  simp [h j hj]
theorem evB_false {L2 : List Int} {q j : Nat} (hj : j < q) (h : oddB L2 j = true) : evB L2 q = false := by
  simp only [evB, List.all_eq_false, List.mem_range]
  exact ⟨j, hj, by simp [h]⟩
def SumV (L0 L2 : List Int) (q : Nat) : Value := if evB L2 q then .tuple #[.agg (six (sumC L0 q)), .int .i64 0] else .tuple #[.agg (six no6), .int .i64 111]

theorem TSt.frameK {F K M : Nat → Prop} {w w1 w2 : World} {tb cb q : Nat} {L0 L2 : List Int} (h : TSt F w K tb cb q L0 L2 w1) (hf : Fr M w1 w2) (hM : ∀ k, M k → K k ∧ w.heap.size ≤ k) : TSt F w K tb cb q L0 L2 w2 := by
  obtain ⟨⟨G, ha, hG, hK⟩, hf0, htl, hto, hbd⟩ := h
  refine ⟨⟨G, ha.frame hf (fun k hk hm => (hK _ (hM k hm).1).1 hk) (fun hm => by have := (hM _ hm).2; omega), fun k hk => FN.more hf.size k (hG k hk), fun k hk => ⟨(hK k hk).1, Nat.lt_of_lt_of_le (hK k hk).2 hf.size⟩⟩,
    hf0.trans (hf.mono fun k hm => .inr ⟨(hM k hm).2, (hK k (hM k hm).1).2⟩), htl, hto, hbd⟩
theorem TSt.turn {F K : Nat → Prop} {w w1 w2 : World} {tb cb q B : Nat} {L0 L2 : List Int} (h : TSt F w K tb cb q L0 L2 w1) (ht : Turn B w1 w2) (hK : K (B + 1)) (hB : w.heap.size ≤ B) : TSt F w K tb cb q L0 L2 w2 :=
  h.frameK ht.fr (fun k hk => by subst hk; exact ⟨hK, by omega⟩)

/-- Sum's own blocks. -/
def SK (w : World) : Nat → Prop := fun k => w.heap.size ≤ k ∧ k ≤ w.heap.size + 5
/-- Between two rounds of Sum's loop; where it was left. -/
structure SumJ (L : LoopState → Option Code → Obj) (F : Nat → Prop) (w : World) (tb cb q : Nat) (L0 L2 : List Int) (k : Nat) (W : World) : Prop where
  bk : Book L (w.heap.size + 4) .ready none W
  st : TSt F w (SK w) tb cb q L0 L2 W
  hr : Blk W w.heap.size 56 (six no6)
  ho : Blk W (w.heap.size + 1) 56 (six (sumC L0 k))
  he : Blk W (w.heap.size + 2) 25 #[.int .i64 0]
  hc : Blk W (w.heap.size + 3) 51 #[.pointer (some ⟨tb, 0, none⟩)]
  ev : ∀ j, j < k → oddB L2 j = false
structure SumX (L : LoopState → Option Code → Obj) (F : Nat → Prop) (w : World) (tb cb q : Nat) (L0 L2 : List Int) (W : World) : Prop where
  bk : Book L (w.heap.size + 4) .done (some (.exit 0)) W
  st : TSt F w (SK w) tb cb q L0 L2 W
  hr : Blk W w.heap.size 56 (six no6)
  ho : Blk W (w.heap.size + 1) 56 (six no6)
  he : Blk W (w.heap.size + 2) 25 #[.int .i64 111]
  od : evB L2 q = false

theorem tSum_nil (w : World) : Calls Try.prog 38 #[.pointer none] w fun e w' => e = .returned (.tuple #[.agg (six no6), .int .i64 1]) ∧ Fr no w w' := by
  refine calls_of_wp_marks Try.func38 rfl ?_
  simp only [Try.ntmps38, List.size_toArray, List.length_cons, List.length_nil, Nat.reduceAdd, Nat.reduceSub, Array.replicate_succ, Array.replicate_zero, List.push_toArray, List.append_toArray, List.nil_append, List.cons_append]
  go_wp2
  go_step3
  go_wp2
  rw [Exit.noGoto_ret]
  exact leave_none (res_ct rfl rfl (Blk.new w _ _) Try.underlying56 (by kernel_rfl)) ⟨rfl, (Fr.refl no w).alloc _⟩
theorem sum_end {F : Nat → Prop} {w W6 Wf : World} {tb cb q : Nat} {L0 L2 : List Int} {cs : Array Value} {v : Value} (hst : TSt F w (SK w) tb cb q L0 L2 W6) (hK : W6.heap[w.heap.size + 4]? = some (.deferred (some []))) (hf : Fr (fun k => k = w.heap.size) W6 Wf) (hb : Blk Wf w.heap.size 56 cs) :
    Wf.heap[w.heap.size + 4]? = some (.deferred (some [])) ∧ Blk (Wf.putObj (w.heap.size + 4) (.deferred none)) w.heap.size 56 cs ∧ TPost F w tb cb q v L0 L2 (.returned v) (Wf.putObj (w.heap.size + 4) (.deferred none)) := by
  refine ⟨hf.heap hK (by omega), hb.putObj (by omega) _, ?_⟩
  have h1 := hst.frameK hf (fun k hk => by subst hk; exact ⟨⟨by omega, by omega⟩, by omega⟩)
  have h2 := h1.frameK (Fr.putObj0 (F := fun k => k = w.heap.size + 4) (Fr.refl _ Wf) (.inl rfl) (.deferred none)) (fun k hk => by subst hk; exact ⟨⟨by omega, by omega⟩, by omega⟩)
  exact h2.post
section
variable (F : Nat → Prop) (w : World) (tb cb q : Nat) (L0 L2 : List Int)
set_option maxHeartbeats 6400000 in
theorem tSum_any (h : TAt F w tb cb q L0 L2) : Calls Try.prog 38 #[.pointer (some ⟨tb, 0, none⟩)] w (TPost F w tb cb q (SumV L0 L2 q) L0 L2) := by
  have HH := Lib.hid h
  clear h
  refine calls_of_wp_marks Try.func38 rfl ?_
  simp only [Try.ntmps38, List.size_toArray, List.length_cons, List.length_nil, Nat.reduceAdd, Nat.reduceSub, Array.replicate_succ, Array.replicate_zero, List.push_toArray, List.append_toArray, List.nil_append, List.cons_append]
  go_wp2
  go_step3
  go_wp2_with (go_at_call 66; refine (tAll_any _ _).mono ?_; rintro e w1 ⟨rfl, rfl⟩)
  go_step3
  go_wp2
  have hq := HH.out.q64
  have hfa0 : Fr no w ((((w.alloc (.cells #[.int .u64 0, .int .u64 0, .int .u64 0, .int .u64 0, .int .u64 0, .int .u64 0] 56)).alloc (.cells #[.int .u64 0, .int .u64 0, .int .u64 0, .int .u64 0, .int .u64 0, .int .u64 0] 56)).alloc (.cells #[.int .i64 0] 25)).alloc (.cells #[.pointer (some ⟨tb, 0, none⟩)] 51)) := ((((Fr.refl no w).alloc _).alloc _).alloc _).alloc _
  have b0 : Blk ((((w.alloc (.cells #[.int .u64 0, .int .u64 0, .int .u64 0, .int .u64 0, .int .u64 0, .int .u64 0] 56)).alloc (.cells #[.int .u64 0, .int .u64 0, .int .u64 0, .int .u64 0, .int .u64 0, .int .u64 0] 56)).alloc (.cells #[.int .i64 0] 25)).alloc (.cells #[.pointer (some ⟨tb, 0, none⟩)] 51)) w.heap.size 56 (six no6) := (((Blk.new w _ _).alloc _).alloc _).alloc _
  have b1 : Blk ((((w.alloc (.cells #[.int .u64 0, .int .u64 0, .int .u64 0, .int .u64 0, .int .u64 0, .int .u64 0] 56)).alloc (.cells #[.int .u64 0, .int .u64 0, .int .u64 0, .int .u64 0, .int .u64 0, .int .u64 0] 56)).alloc (.cells #[.int .i64 0] 25)).alloc (.cells #[.pointer (some ⟨tb, 0, none⟩)] 51)) (w.heap.size + 1) 56 (six no6) := ((Blk.new' (by simp)).alloc _).alloc _
  have b2 : Blk ((((w.alloc (.cells #[.int .u64 0, .int .u64 0, .int .u64 0, .int .u64 0, .int .u64 0, .int .u64 0] 56)).alloc (.cells #[.int .u64 0, .int .u64 0, .int .u64 0, .int .u64 0, .int .u64 0, .int .u64 0] 56)).alloc (.cells #[.int .i64 0] 25)).alloc (.cells #[.pointer (some ⟨tb, 0, none⟩)] 51)) (w.heap.size + 2) 25 #[.int .i64 0] := (Blk.new' (by simp)).alloc _
  have b3 : Blk ((((w.alloc (.cells #[.int .u64 0, .int .u64 0, .int .u64 0, .int .u64 0, .int .u64 0, .int .u64 0] 56)).alloc (.cells #[.int .u64 0, .int .u64 0, .int .u64 0, .int .u64 0, .int .u64 0, .int .u64 0] 56)).alloc (.cells #[.int .i64 0] 25)).alloc (.cells #[.pointer (some ⟨tb, 0, none⟩)] 51)) (w.heap.size + 3) 51 #[.pointer (some ⟨tb, 0, none⟩)] := Blk.new' (by simp)
  refine wp_range (gf := 93) (lb := #[.pointer (some ⟨w.heap.size + 3, 0, none⟩)]) rfl (enters_of Try.func93 (by kernel_rfl) rfl) ?_
  intro B L W2 hB hW2 hs2 hbk hround
  obtain rfl : B = w.heap.size + 4 := by simpa using hB
  have hfa := hfa0.trans' hW2
  have c0 := hW2.blk b0 (no_not _)
  have c1 := hW2.blk b1 (no_not _)
  have c2 := hW2.blk b2 (no_not _)
  have c3 := hW2.blk b3 (no_not _)
  have hst : TSt F w (SK w) tb cb q L0 L2 W2 := ⟨⟨F, HH.out.keep hfa, fun k hk => .inl hk, fun k hk => ⟨fun hf => by have := HH.out.bd _ hf; have := hk.1; omega, by have := hk.2; omega⟩⟩, hfa.mono (fun _ h => h.elim), HH.out.blk.lt, HH.out.out, HH.out.bd⟩
  clear hB hW2 hfa0 hfa b0 b1 b2 b3
  refine (all_iter (w.heap.size + 4) (w.heap.size + 3) tb cb q (fun k => rdC L0 L2 k) (fun k => bgE L2 k) (SumJ L F w tb cb q L0 L2) (SumX L F w tb cb q L0 L2) hq ?_ ?_ W2 ⟨hbk, hst, c0, c1, c2, c3, fun j hj => by omega⟩).mono ?_
  · rintro k W hj
    exact ⟨hj.hc.cell 0, hj.st.blk.cell 1⟩
  · rintro k W hJ hk
    clear hst c0 c1 c2 c3 hbk hs2
    refine (hJ.st.go (fun F w ha => tRead_any F w tb cb q L0 L2 k ha)).mono ?_
    rintro e W1 ⟨rfl, hs1, hk1⟩
    refine ⟨rfl, ?_⟩
    have hb1 : Book L (w.heap.size + 4) .ready none W1 := ⟨(hk1 _ ⟨by omega, by omega⟩).trans hJ.bk.record, (hk1 _ ⟨by omega, by omega⟩).trans hJ.bk.calls⟩
    have g0 := hk1.blk hJ.hr ⟨by omega, by omega⟩
    have g1 := hk1.blk hJ.ho ⟨by omega, by omega⟩
    have g2 := hk1.blk hJ.he ⟨by omega, by omega⟩
    have g3 := hk1.blk hJ.hc ⟨by omega, by omega⟩
    have hev := Lib.hid hJ.ev
    have hlt := hb1.lt
    have hin : inB L2 k = true := inB_true.2 ⟨by omega, by rw [HH.out.len2]; omega⟩
    clear hJ hk1
    cases ho : oddB L2 k with
    | true =>
      have e1 : bgE L2 k = 111 := by simp [bgE, hin]; simpa [oddB] using ho
      have e2 : rdC L0 L2 k = no6 := by simp [rdC, e1]
      simp only [e1, e2]
      show Yields _ _ #[.agg #[.int .u64 0, .int .u64 0, .int .u64 0, .int .u64 0, .int .u64 0, .int .u64 0], .int .i64 111] _ _
      have HX := Lib.hid (evB_false hk ho)
      clear hin ho e1 e2
      refine hround _ W1 _ rfl hb1 ?_
      clear hround
      have hfw := fw_fn
      have hfd := fw_depth
      gi_wp2
      refine ⟨hb1.frame ((Fr.refl no W1).alloc _) (no_not _) (no_not _), fun W3 ht hb3 => ?_⟩
      have hf3 : Fr no W1 (W1.alloc (.cells #[.int .u64 0, .int .u64 0, .int .u64 0, .int .u64 0, .int .u64 0, .int .u64 0] 56)) := (Fr.refl no W1).alloc _
      have k0 := ht.blk (hf3.blk g0 (no_not _)) (by omega)
      have k1 := ht.blk (hf3.blk g1 (no_not _)) (by omega)
      have k2 := ht.blk (hf3.blk g2 (no_not _)) (by omega)
      have s3 := (hs1.keep hf3).turn ht ⟨by omega, by omega⟩ (by omega)
      clear g0 g1 g2 g3 hs1 hb1 ht hf3
      obtain ⟨d0, d1, d2, d3, d4, d5⟩ := cells6 k1
      have e0 : W3.cell? ⟨w.heap.size + 2, 0, none⟩ = some (.int .i64 0) := k2.cell 0
      have y0 := k1.frozen 0
      have y1 := k1.frozen 1
      have y2 := k1.frozen 2
      have y3 := k1.frozen 3
      have y4 := k1.frozen 4
      have y5 := k1.frozen 5
      have y6 := k2.frozen 0
      gi_wp2
      have m1 : Blk ((((((W3.setCell ⟨w.heap.size + 1, 0, none⟩ (.int .u64 0)).setCell ⟨w.heap.size + 1, 1, none⟩ (.int .u64 0)).setCell ⟨w.heap.size + 1, 2, none⟩ (.int .u64 0)).setCell ⟨w.heap.size + 1, 3, none⟩ (.int .u64 0)).setCell ⟨w.heap.size + 1, 4, none⟩ (.int .u64 0)).setCell ⟨w.heap.size + 1, 5, none⟩ (.int .u64 0)) (w.heap.size + 1) 56 (six no6) := ((((((k1.set_ 0 _).set_ 1 _).set_ 2 _).set_ 3 _).set_ 4 _).set_ 5 _)
      have F1 : Fr (fun k => k = w.heap.size + 1) W3 ((((((W3.setCell ⟨w.heap.size + 1, 0, none⟩ (.int .u64 0)).setCell ⟨w.heap.size + 1, 1, none⟩ (.int .u64 0)).setCell ⟨w.heap.size + 1, 2, none⟩ (.int .u64 0)).setCell ⟨w.heap.size + 1, 3, none⟩ (.int .u64 0)).setCell ⟨w.heap.size + 1, 4, none⟩ (.int .u64 0)).setCell ⟨w.heap.size + 1, 5, none⟩ (.int .u64 0)) := (((((((Fr.refl (fun k => k = w.heap.size + 1) W3).setCell (p := ⟨w.heap.size + 1, 0, none⟩) (.inl rfl) _).setCell (p := ⟨w.heap.size + 1, 1, none⟩) (.inl rfl) _).setCell (p := ⟨w.heap.size + 1, 2, none⟩) (.inl rfl) _).setCell (p := ⟨w.heap.size + 1, 3, none⟩) (.inl rfl) _).setCell (p := ⟨w.heap.size + 1, 4, none⟩) (.inl rfl) _).setCell (p := ⟨w.heap.size + 1, 5, none⟩) (.inl rfl) _)
      have F2 : Fr (fun k => k = w.heap.size + 2) ((((((W3.setCell ⟨w.heap.size + 1, 0, none⟩ (.int .u64 0)).setCell ⟨w.heap.size + 1, 1, none⟩ (.int .u64 0)).setCell ⟨w.heap.size + 1, 2, none⟩ (.int .u64 0)).setCell ⟨w.heap.size + 1, 3, none⟩ (.int .u64 0)).setCell ⟨w.heap.size + 1, 4, none⟩ (.int .u64 0)).setCell ⟨w.heap.size + 1, 5, none⟩ (.int .u64 0)) (((((((W3.setCell ⟨w.heap.size + 1, 0, none⟩ (.int .u64 0)).setCell ⟨w.heap.size + 1, 1, none⟩ (.int .u64 0)).setCell ⟨w.heap.size + 1, 2, none⟩ (.int .u64 0)).setCell ⟨w.heap.size + 1, 3, none⟩ (.int .u64 0)).setCell ⟨w.heap.size + 1, 4, none⟩ (.int .u64 0)).setCell ⟨w.heap.size + 1, 5, none⟩ (.int .u64 0)).setCell ⟨w.heap.size + 2, 0, none⟩ (.int .i64 111)) := (Fr.refl (fun k => k = w.heap.size + 2) _).setCell (p := ⟨w.heap.size + 2, 0, none⟩) (.inl rfl) _
      refine ⟨(hb3.frame F1 (by omega) (by omega)).frame F2 (by omega) (by omega), fun W4 ht4 hb4 => ⟨hb4, ?_, ?_, ?_, ?_, HX.out⟩⟩
      · exact ((s3.frameK F1 (fun k hk => by subst hk; exact ⟨⟨by omega, by omega⟩, by omega⟩)).frameK F2 (fun k hk => by subst hk; exact ⟨⟨by omega, by omega⟩, by omega⟩)).turn ht4 ⟨by omega, by omega⟩ (by omega)
      · exact ht4.blk (F2.blk (F1.blk k0 (by omega)) (by omega)) (by omega)
      · exact ht4.blk (F2.blk m1 (by omega)) (by omega)
      · exact ht4.blk ((F1.blk k2 (by omega)).set_ 0 _) (by omega)
    | false =>
      have e1 : bgE L2 k = 0 := by simp [bgE, hin]; simpa [oddB] using ho
      have e2 : rdC L0 L2 k = rowC L0 k := by simp [rdC, e1]
      simp only [e1, e2]
      have hsum : six (sumC L0 (k + 1)) = six (fun j => IntKind.u64.wrap (sumC L0 k j + rowC L0 k j)) := rfl
      generalize rowC L0 k = a at *
      show Yields _ _ #[.agg #[.int .u64 (a 0), .int .u64 (a 1), .int .u64 (a 2), .int .u64 (a 3), .int .u64 (a 4), .int .u64 (a 5)], .int .i64 0] _ _
      have HO := Lib.hid ho
      have HS := Lib.hid hsum
      clear hin ho e1 e2 hsum
      refine hround _ W1 _ rfl hb1 ?_
      clear hround
      have hfw := fw_fn
      have hfd := fw_depth
      gi_wp2
      refine ⟨hb1.frame ((Fr.refl no W1).alloc _) (no_not _) (no_not _), fun W3 ht hb3 => ?_⟩
      have hf3 : Fr no W1 (W1.alloc (.cells #[.int .u64 (a 0), .int .u64 (a 1), .int .u64 (a 2), .int .u64 (a 3), .int .u64 (a 4), .int .u64 (a 5)] 56)) := (Fr.refl no W1).alloc _
      have kc : Blk W3 W1.heap.size 56 (six a) := ht.blk (Blk.new _ _ _) (by omega)
      have k0 := ht.blk (hf3.blk g0 (no_not _)) (by omega)
      have k1 := ht.blk (hf3.blk g1 (no_not _)) (by omega)
      have k2 := ht.blk (hf3.blk g2 (no_not _)) (by omega)
      have k3 := ht.blk (hf3.blk g3 (no_not _)) (by omega)
      have s3 := (hs1.keep hf3).turn ht ⟨by omega, by omega⟩ (by omega)
      have hne : W1.heap.size ≠ w.heap.size + 1 := by omega
      clear g0 g1 g2 g3 hs1 hb1 ht hf3
      obtain ⟨d0, d1, d2, d3, d4, d5⟩ := cells6 k1
      obtain ⟨x0, x1, x2, x3, x4, x5⟩ := cells6 kc
      have y0 := k1.frozen 0
      have y1 := k1.frozen 1
      have y2 := k1.frozen 2
      have y3 := k1.frozen 3
      have y4 := k1.frozen 4
      have y5 := k1.frozen 5
      gi_wp2
      have m1 : Blk ((((((W3.setCell ⟨w.heap.size + 1, 0, none⟩ (.int .u64 (IntKind.u64.wrap (sumC L0 k 0 + a 0)))).setCell ⟨w.heap.size + 1, 1, none⟩ (.int .u64 (IntKind.u64.wrap (sumC L0 k 1 + a 1)))).setCell ⟨w.heap.size + 1, 2, none⟩ (.int .u64 (IntKind.u64.wrap (sumC L0 k 2 + a 2)))).setCell ⟨w.heap.size + 1, 3, none⟩ (.int .u64 (IntKind.u64.wrap (sumC L0 k 3 + a 3)))).setCell ⟨w.heap.size + 1, 4, none⟩ (.int .u64 (IntKind.u64.wrap (sumC L0 k 4 + a 4)))).setCell ⟨w.heap.size + 1, 5, none⟩ (.int .u64 (IntKind.u64.wrap (sumC L0 k 5 + a 5)))) (w.heap.size + 1) 56 (six (sumC L0 (k + 1))) := HS.out ▸ ((((((k1.set_ 0 _).set_ 1 _).set_ 2 _).set_ 3 _).set_ 4 _).set_ 5 _)
      have F1 : Fr (fun k => k = w.heap.size + 1) W3 ((((((W3.setCell ⟨w.heap.size + 1, 0, none⟩ (.int .u64 (IntKind.u64.wrap (sumC L0 k 0 + a 0)))).setCell ⟨w.heap.size + 1, 1, none⟩ (.int .u64 (IntKind.u64.wrap (sumC L0 k 1 + a 1)))).setCell ⟨w.heap.size + 1, 2, none⟩ (.int .u64 (IntKind.u64.wrap (sumC L0 k 2 + a 2)))).setCell ⟨w.heap.size + 1, 3, none⟩ (.int .u64 (IntKind.u64.wrap (sumC L0 k 3 + a 3)))).setCell ⟨w.heap.size + 1, 4, none⟩ (.int .u64 (IntKind.u64.wrap (sumC L0 k 4 + a 4)))).setCell ⟨w.heap.size + 1, 5, none⟩ (.int .u64 (IntKind.u64.wrap (sumC L0 k 5 + a 5)))) := (((((((Fr.refl (fun k => k = w.heap.size + 1) W3).setCell (p := ⟨w.heap.size + 1, 0, none⟩) (.inl rfl) _).setCell (p := ⟨w.heap.size + 1, 1, none⟩) (.inl rfl) _).setCell (p := ⟨w.heap.size + 1, 2, none⟩) (.inl rfl) _).setCell (p := ⟨w.heap.size + 1, 3, none⟩) (.inl rfl) _).setCell (p := ⟨w.heap.size + 1, 4, none⟩) (.inl rfl) _).setCell (p := ⟨w.heap.size + 1, 5, none⟩) (.inl rfl) _)
      refine ⟨hb3.frame F1 (by omega) (by omega), fun W4 ht4 hb4 => ⟨hb4, ?_, ?_, ?_, ?_, ?_, ?_⟩⟩
      · exact (s3.frameK F1 (fun k hk => by subst hk; exact ⟨⟨by omega, by omega⟩, by omega⟩)).turn ht4 ⟨by omega, by omega⟩ (by omega)
      · exact ht4.blk (F1.blk k0 (by omega)) (by omega)
      · exact ht4.blk m1 (by omega)
      · exact ht4.blk (F1.blk k2 (by omega)) (by omega)
      · exact ht4.blk (F1.blk k3 (by omega)) (by omega)
      · intro j hj
        rcases Nat.lt_or_eq_of_le (Nat.le_of_lt_succ hj) with h | h
        · exact hev.out j h
        · rw [h]; exact HO.out
  · rintro e W5 ⟨rfl, hJ | hX⟩
    · refine ⟨⟨_, rfl⟩, .inl ⟨hJ.bk, fun W6 ht hK => ?_⟩⟩
      have k0 := ht.blk hJ.hr (by omega)
      have k1 := ht.blk hJ.ho (by omega)
      have k2 := ht.blk hJ.he (by omega)
      have s6 := hJ.st.turn ht ⟨by omega, by omega⟩ (by omega)
      obtain ⟨d0, d1, d2, d3, d4, d5⟩ := cells6 k1
      obtain ⟨x0, x1, x2, x3, x4, x5⟩ := cells6 k0
      have e0 : W6.cell? ⟨w.heap.size + 2, 0, none⟩ = some (.int .i64 0) := k2.cell 0
      have y0 := k0.frozen 0
      have y1 := k0.frozen 1
      have y2 := k0.frozen 2
      have y3 := k0.frozen 3
      have y4 := k0.frozen 4
      have y5 := k0.frozen 5
      have HE := Lib.hid hJ
      have hK' := Lib.hid hK
      clear hK hround hJ
      go_wp2
      go_region
      all_goals
        go_wp2
        rw [Exit.noGoto_ret]
        have m1 : Blk ((((((W6.setCell ⟨w.heap.size, 0, none⟩ (.int .u64 (sumC L0 q 0))).setCell ⟨w.heap.size, 1, none⟩ (.int .u64 (sumC L0 q 1))).setCell ⟨w.heap.size, 2, none⟩ (.int .u64 (sumC L0 q 2))).setCell ⟨w.heap.size, 3, none⟩ (.int .u64 (sumC L0 q 3))).setCell ⟨w.heap.size, 4, none⟩ (.int .u64 (sumC L0 q 4))).setCell ⟨w.heap.size, 5, none⟩ (.int .u64 (sumC L0 q 5))).drew w.heap.size 56 (six (sumC L0 q)) := ((((((k0.set_ 0 _).set_ 1 _).set_ 2 _).set_ 3 _).set_ 4 _).set_ 5 _).drew
        have F1 : Fr (fun k => k = w.heap.size) W6 ((((((W6.setCell ⟨w.heap.size, 0, none⟩ (.int .u64 (sumC L0 q 0))).setCell ⟨w.heap.size, 1, none⟩ (.int .u64 (sumC L0 q 1))).setCell ⟨w.heap.size, 2, none⟩ (.int .u64 (sumC L0 q 2))).setCell ⟨w.heap.size, 3, none⟩ (.int .u64 (sumC L0 q 3))).setCell ⟨w.heap.size, 4, none⟩ (.int .u64 (sumC L0 q 4))).setCell ⟨w.heap.size, 5, none⟩ (.int .u64 (sumC L0 q 5))).drew := (((((((Fr.refl (fun k => k = w.heap.size) W6).setCell (p := ⟨w.heap.size, 0, none⟩) (.inl rfl) _).setCell (p := ⟨w.heap.size, 1, none⟩) (.inl rfl) _).setCell (p := ⟨w.heap.size, 2, none⟩) (.inl rfl) _).setCell (p := ⟨w.heap.size, 3, none⟩) (.inl rfl) _).setCell (p := ⟨w.heap.size, 4, none⟩) (.inl rfl) _).setCell (p := ⟨w.heap.size, 5, none⟩) (.inl rfl) _).drew
        obtain ⟨q1, q2, q3⟩ := sum_end (v := SumV L0 L2 q) s6 hK'.out F1 m1
        have hv : SumV L0 L2 q = .tuple #[.agg (six (sumC L0 q)), .int .i64 0] := by rw [SumV, if_pos (evB_true HE.out.ev)]
        rw [hv] at q3 ⊢
        exact leave_mark q1 (res_ct rfl rfl q2 Try.underlying56 (by kernel_rfl)) q3
    · refine ⟨⟨_, rfl⟩, .inr ⟨_, hX.bk, fun W6 ht hK => ?_⟩⟩
      have k0 := ht.blk hX.hr (by omega)
      have k1 := ht.blk hX.ho (by omega)
      have k2 := ht.blk hX.he (by omega)
      have s6 := hX.st.turn ht ⟨by omega, by omega⟩ (by omega)
      obtain ⟨d0, d1, d2, d3, d4, d5⟩ := cells6 k1
      obtain ⟨x0, x1, x2, x3, x4, x5⟩ := cells6 k0
      have e0 : W6.cell? ⟨w.heap.size + 2, 0, none⟩ = some (.int .i64 111) := k2.cell 0
      have y0 := k0.frozen 0
      have y1 := k0.frozen 1
      have y2 := k0.frozen 2
      have y3 := k0.frozen 3
      have y4 := k0.frozen 4
      have y5 := k0.frozen 5
      have HE := Lib.hid hX
      have hK' := Lib.hid hK
      clear hK hround hX
      go_wp2
      go_region
      all_goals
        go_wp2
        rw [Exit.noGoto_ret]
        have m1 : Blk ((((((W6.setCell ⟨w.heap.size, 0, none⟩ (.int .u64 0)).setCell ⟨w.heap.size, 1, none⟩ (.int .u64 0)).setCell ⟨w.heap.size, 2, none⟩ (.int .u64 0)).setCell ⟨w.heap.size, 3, none⟩ (.int .u64 0)).setCell ⟨w.heap.size, 4, none⟩ (.int .u64 0)).setCell ⟨w.heap.size, 5, none⟩ (.int .u64 0)).drew w.heap.size 56 (six no6) := ((((((k0.set_ 0 _).set_ 1 _).set_ 2 _).set_ 3 _).set_ 4 _).set_ 5 _).drew
        have F1 : Fr (fun k => k = w.heap.size) W6 ((((((W6.setCell ⟨w.heap.size, 0, none⟩ (.int .u64 0)).setCell ⟨w.heap.size, 1, none⟩ (.int .u64 0)).setCell ⟨w.heap.size, 2, none⟩ (.int .u64 0)).setCell ⟨w.heap.size, 3, none⟩ (.int .u64 0)).setCell ⟨w.heap.size, 4, none⟩ (.int .u64 0)).setCell ⟨w.heap.size, 5, none⟩ (.int .u64 0)).drew := (((((((Fr.refl (fun k => k = w.heap.size) W6).setCell (p := ⟨w.heap.size, 0, none⟩) (.inl rfl) _).setCell (p := ⟨w.heap.size, 1, none⟩) (.inl rfl) _).setCell (p := ⟨w.heap.size, 2, none⟩) (.inl rfl) _).setCell (p := ⟨w.heap.size, 3, none⟩) (.inl rfl) _).setCell (p := ⟨w.heap.size, 4, none⟩) (.inl rfl) _).setCell (p := ⟨w.heap.size, 5, none⟩) (.inl rfl) _).drew
        obtain ⟨q1, q2, q3⟩ := sum_end (v := SumV L0 L2 q) s6 hK'.out F1 m1
        have hv : SumV L0 L2 q = .tuple #[.agg (six no6), .int .i64 111] := by rw [SumV, if_neg (by simp [HE.out.od])]
        rw [hv] at q3 ⊢
        exact leave_mark q1 (res_ct rfl rfl q2 Try.underlying56 (by kernel_rfl)) q3
end
end Go.Proofs.Ytkilibdalgnghaa
