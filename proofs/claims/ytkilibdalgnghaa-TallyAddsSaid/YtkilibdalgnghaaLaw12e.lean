/-
  The law TallyAdds, walked.
-/
import Derived.Test.YtkilibdalgnghaaTally9
import Derived.Test.YtkilibdalgnghaaLaw12b
namespace Go.Proofs.Ytkilibdalgnghaa
set_option linter.unusedVariables false
set_option linter.unusedSimpArgs false
open Go.RowKit Go.Shelf

/-- A tally as a thing of its own. -/
def PT (tb q : Nat) (L0 L2 : List Int) (G : Nat → Prop) (w : World) : Prop := ∃ cb F, TAt F w tb cb q L0 L2 ∧ (∀ k, F k → G k) ∧ G tb
theorem pt_stable (tb q : Nat) (L0 L2 : List Int) : Stable (PT tb q L0 L2) := fun G K w w' ⟨cb, F, h, h1, h2⟩ hf hd =>
  ⟨cb, F, h.frame hf (fun k hk => hd k (h1 k hk)) (hd _ h2), h1, h2⟩
section
variable {w0 w w1 : World} {K : Nat → Prop} {S R : (Nat → Prop) → World → Prop} {tb q : Nat} {L0 L2 L0' L2' : List Int} {f : FuncId} {args : Array Value} {v : Value}
theorem PT.go (hc : ∀ cb F w, TAt F w tb cb q L0 L2 → Calls Try.prog f args w (TPost F w tb cb q v L0' L2')) : ∀ G, (∀ k, G k → k < w.heap.size) → PT tb q L0 L2 G w →
    Calls Try.prog f args w fun e w' => e = .returned v ∧ PT tb q L0' L2' (FN G w w') w' ∧ Fr G w w' := by
  rintro G hG ⟨cb, F, h, h1, h2⟩
  refine (hc cb F w h).mono ?_
  rintro e w' ⟨rfl, ht, hf⟩
  exact ⟨rfl, ⟨cb, _, ht, FN.mono h1 w w', .inl h2⟩, hf.mono h1⟩
theorem Two.l (h : Two w0 K (PT tb q L0 L2) R w) (hR : Stable R) (hc : ∀ cb F w, TAt F w tb cb q L0 L2 → Calls Try.prog f args w (TPost F w tb cb q v L0' L2')) :
    Calls Try.prog f args w fun e w' => e = .returned v ∧ Two w0 K (PT tb q L0' L2') R w' ∧ Kept K w w' := h.left hR (PT.go hc)
theorem Two.r (h : Two w0 K S (PT tb q L0 L2) w) (hS : Stable S) (hc : ∀ cb F w, TAt F w tb cb q L0 L2 → Calls Try.prog f args w (TPost F w tb cb q v L0' L2')) :
    Calls Try.prog f args w fun e w' => e = .returned v ∧ Two w0 K S (PT tb q L0' L2') w' ∧ Kept K w w' := h.right hS (PT.go hc)
theorem Two.box2 (h : Two w0 K S R w) (hS : Stable S) (hR : Stable R) (o : Obj) : Two w0 (fun k => K k ∨ k = w.heap.size) S R (w.alloc o) := by
  have hf : Fr no w (w.alloc o) := (Fr.refl no w).alloc o
  obtain ⟨⟨F, G, hs, hr, hd, hF, hG, hK⟩, hf0⟩ := h
  refine ⟨⟨F, G, hS F no w _ hs hf (fun k _ => no_not k), hR G no w _ hr hf (fun k _ => no_not k), hd, fun k hk => ⟨(hF k hk).1, Nat.lt_of_lt_of_le (hF k hk).2 hf.size⟩, fun k hk => ⟨(hG k hk).1, Nat.lt_of_lt_of_le (hG k hk).2 hf.size⟩, ?_⟩, hf0.trans' hf⟩
  rintro k (hk | rfl)
  · exact ⟨(hK k hk).1, (hK k hk).2.1, Nat.lt_of_lt_of_le (hK k hk).2.2 hf.size⟩
  · exact ⟨fun h => by have := (hF _ h).2; omega, fun h => by have := (hG _ h).2; omega, by simp⟩
end
theorem TSt.thing {F K : Nat → Prop} {w0 w w1 : World} {tb cb q : Nat} {L0 L2 : List Int} (h : TSt F w K tb cb q L0 L2 w1) (hF : ∀ k, F k → w0.heap.size ≤ k) (htb : w0.heap.size ≤ tb) (hf : Fr no w0 w) : PT tb q L0 L2 (FN no w0 w1) w1 := by
  have hs := h.fr.size
  have htl := h.tbl
  have hbd := h.bd
  obtain ⟨⟨G, ha, hG, _⟩, _⟩ := h
  refine ⟨cb, G, ha, fun k hk => .inr ?_, .inr ⟨htb, by omega⟩⟩
  have hl := ha.bd k hk
  rcases hG k hk with hk | ⟨hk, _⟩
  · exact ⟨hF k hk, hl⟩
  · exact ⟨Nat.le_trans hf.size hk, hl⟩
theorem TNew.thing {q : Nat} {w w' : World} {tb cb : Nat} {F : Nat → Prop} {L0 L2 : List Int} (h : TAt F w' tb cb q L0 L2) (hF : ∀ k, F k → w.heap.size ≤ k) (htb : w.heap.size ≤ tb) : PT tb q L0 L2 (FN no w w') w' :=
  ⟨cb, F, h, fun k hk => .inr ⟨hF k hk, h.bd k hk⟩, .inr ⟨htb, h.blk.lt⟩⟩

def six32 (c : Nat → Int) : Array Value := #[.int .u32 (c 0), .int .u32 (c 1), .int .u32 (c 2), .int .u32 (c 3), .int .u32 (c 4), .int .u32 (c 5)]
theorem six32_get (c : Nat → Int) {k : Nat} (h : k < 6) : (six32 c)[k]? = some (.int .u32 (c k)) := by
  obtain rfl | rfl | rfl | rfl | rfl | rfl : k = 0 ∨ k = 1 ∨ k = 2 ∨ k = 3 ∨ k = 4 ∨ k = 5 := by omega
  all_goals rfl
theorem adds_step (c : Nat → Int) (hc : ∀ k, k < 6 → 0 ≤ c k ∧ c k < 4294967296) (k : Nat) (hk : k < 6) : Value.int .i64 (adE [1] 0 k) = .int .i64 0 ∧ adL (addK (rep0 6) 0 c k) [1] 0 k (c k) = addK (rep0 6) 0 c (k + 1) := by
  have h1 : decide ((k : Int) < 6) = true := by simp; omega
  have h2 : wrap64 (c k) = c k := by have := hc k hk; unfold wrap64; omega
  have h0 : oddB [1] 0 = true := rfl
  refine ⟨by simp [adE, inB, h1, h0], ?_⟩
  have : adOk [1] 0 (k : Int) = true := by simp [adOk, inB, h1, h0]
  rw [adL, if_pos this, addK, h2]

set_option maxRecDepth 100000 in
set_option maxHeartbeats 6400000 in
theorem tadds_any (c : Nat → Int) (hc : ∀ k, k < 6 → 0 ≤ c k ∧ c k < 4294967296) (w : World) :
    Calls Try.prog 16 #[.agg (six32 c)] w fun e w' => e = .returned (.bool true) ∧ Fr no w w' := by
  have HC := Lib.hid hc
  have hx0 : Blk (w.alloc (.cells (six32 c) 85)) w.heap.size 85 (six32 c) := Blk.new _ _ _
  have hfx : Fr no w (w.alloc (.cells (six32 c) 85)) := (Fr.refl no w).alloc _
  clear hc
  go_enter Try.func16, Try.ntmps16
  go_wp2_with (go_at_call 34; refine (shown12_any _).mono ?_; rintro e w0 ⟨rfl, hf0⟩)
  refine (tNew_ok 1 _ (by omega) (by omega)).mono ?_
  rintro e w1 hnw
  obtain ⟨tb, cb, F, rfl, hs1, hF, htb, hf1⟩ := hnw.st
  have HF := Lib.hid hF
  have hxw := hf0.blk hx0 (no_not _)
  have hfw := hfx.trans' hf0
  clear hnw hF hx0 hfx hf0
  go_wp2_with fail
  refine (hs1.open_ 0 (r := .int .i64 0) (m2 := [1])).mono ?_
  rintro e w2 ⟨rfl, hs2, -⟩
  clear hs1
  go_wp2_with fail
  go_loopw [7] (fun i wr => ∃ k : Nat, k ≤ 6 ∧ i = .int .i64 k ∧ TSt F w1 no tb cb 1 (addK (rep0 6) 0 c k) [1] wr) (fun i _ => 6 - (intOf i).toNat)
  case atStart => exact ⟨0, by omega, rfl, hs2⟩
  case round =>
    obtain ⟨k, hk, rfl, hs3⟩ := hrel
    clear hs2
    by_cases hlt : k < 6
    · have e := Lib.hid (adds_step c HC.out k hlt)
      have hb := Lib.hid (HC.out k hlt)
      have d0 : wr.cell? ⟨w.heap.size, k, none⟩ = some (.int .u32 (c k)) := ((hs3.fr0 HF.out hf1).blk hxw (no_not _)).cell k |>.trans (six32_get c hlt)
      go_wp2_with fail
      refine (hs3.add 0 k (c k) hb.out e.out.1 e.out.2).mono ?_
      rintro e w3 ⟨rfl, hs4, -⟩
      clear d0 hs3
      go_wp2
      all_goals
        go_roundw
        case rel => exact ⟨k + 1, by omega, by go_num, hs4⟩
        case measure => simp [intOf]; omega
    · obtain rfl : k = 6 := by omega
      go_wp2_with fail
      refine (hs3.shut 0 (r := .int .i64 0) (m2 := [2])).mono ?_
      rintro e w4 ⟨rfl, hs4, -⟩
      clear hs3
      go_wp2_with fail
      refine (tNew_ok 1 _ (by omega) (by omega)).mono ?_
      rintro e w5 ⟨ub, cu, F2, rfl, hu, hF2, hub, hf5⟩
      have h2 : Two w0 no (PT tb 1 (addK (rep0 6) 0 c 6) [2]) (PT ub 1 (rep0 6) (rep0 1)) w5 :=
        Two.mk2 (hs4.thing HF.out htb hf1) (hs4.fr0 HF.out hf1) (TNew.thing hu hF2 hub) hf5 (pt_stable _ _ _ _)
      clear hs4 hu hF2 hf5
      have hx5 := h2.fr.blk hxw (no_not _)
      have l0 : w5.cell? ⟨w.heap.size, 0, none⟩ = some (.int .u32 (c 0)) := hx5.cell 0
      have l1 : w5.cell? ⟨w.heap.size, 1, none⟩ = some (.int .u32 (c 1)) := hx5.cell 1
      have l2 : w5.cell? ⟨w.heap.size, 2, none⟩ = some (.int .u32 (c 2)) := hx5.cell 2
      have l3 : w5.cell? ⟨w.heap.size, 3, none⟩ = some (.int .u32 (c 3)) := hx5.cell 3
      have l4 : w5.cell? ⟨w.heap.size, 4, none⟩ = some (.int .u32 (c 4)) := hx5.cell 4
      have l5 : w5.cell? ⟨w.heap.size, 5, none⟩ = some (.int .u32 (c 5)) := hx5.cell 5
      have hn1 : spE (rep0 1) 0 0 = 0 := by first | rfl | kernel_rfl
      have hn2 : noL0 (rep0 6) (rep0 1) 0 c = addK (rep0 6) 0 c 6 := by rw [noL0, if_pos (by first | rfl | kernel_rfl)]
      have hn3 : noL2 (rep0 1) 0 = [2] := by first | rfl | kernel_rfl
      have HN1 := Lib.hid hn1
      have HN2 := Lib.hid hn2
      have HN3 := Lib.hid hn3
      clear hn1 hn2 hn3
      have b0 := HC.out 0 (by omega)
      have b1 := HC.out 1 (by omega)
      have b2 := HC.out 2 (by omega)
      have b3 := HC.out 3 (by omega)
      have b4 := HC.out 4 (by omega)
      have b5 := HC.out 5 (by omega)
      go_wp2_with fail
      refine (h2.r (v := .int .i64 0) (L0' := addK (rep0 6) 0 c 6) (L2' := [2]) (pt_stable _ _ _ _) (fun cb F w ha => by have := tNote_any F w ub cb 1 (rep0 6) (rep0 1) 0 c ha; rw [HN1.out, HN2.out, HN3.out] at this; exact this)).mono ?_
      rintro e w6 ⟨rfl, h3, -⟩
      clear h2 hx5 l0 l1 l2 l3 l4 l5 b0 b1 b2 b3 b4 b5
      have hrd : Value.tuple #[.agg (six (rdC (addK (rep0 6) 0 c 6) [2] 0)), .int .i64 (bgE [2] 0)] = .tuple #[.agg #[.int .u64 (rowC (addK (rep0 6) 0 c 6) 0 0), .int .u64 (rowC (addK (rep0 6) 0 c 6) 0 1), .int .u64 (rowC (addK (rep0 6) 0 c 6) 0 2), .int .u64 (rowC (addK (rep0 6) 0 c 6) 0 3), .int .u64 (rowC (addK (rep0 6) 0 c 6) 0 4), .int .u64 (rowC (addK (rep0 6) 0 c 6) 0 5)], .int .i64 0] := rfl
      have HRD := Lib.hid hrd
      clear hrd
      go_wp2_with fail
      refine (h3.l (pt_stable _ _ _ _) (fun cb F w ha => HRD.out ▸ tRead_any F w tb cb 1 _ _ 0 ha)).mono ?_
      rintro e w7 ⟨rfl, h4, -⟩
      have h5 := h4.box2 (pt_stable _ _ _ _) (pt_stable _ _ _ _) (.cells #[.int .u64 (rowC (addK (rep0 6) 0 c 6) 0 0), .int .u64 (rowC (addK (rep0 6) 0 c 6) 0 1), .int .u64 (rowC (addK (rep0 6) 0 c 6) 0 2), .int .u64 (rowC (addK (rep0 6) 0 c 6) 0 3), .int .u64 (rowC (addK (rep0 6) 0 c 6) 0 4), .int .u64 (rowC (addK (rep0 6) 0 c 6) 0 5)] 56)
      have g5 : Blk (w7.alloc (.cells #[.int .u64 (rowC (addK (rep0 6) 0 c 6) 0 0), .int .u64 (rowC (addK (rep0 6) 0 c 6) 0 1), .int .u64 (rowC (addK (rep0 6) 0 c 6) 0 2), .int .u64 (rowC (addK (rep0 6) 0 c 6) 0 3), .int .u64 (rowC (addK (rep0 6) 0 c 6) 0 4), .int .u64 (rowC (addK (rep0 6) 0 c 6) 0 5)] 56)) w7.heap.size 56 (six (rowC (addK (rep0 6) 0 c 6) 0)) := Blk.new _ _ _
      clear h3 h4
      go_wp2_with fail
      refine (h5.r (pt_stable _ _ _ _) (fun cb F w ha => HRD.out ▸ tRead_any F w ub cb 1 _ _ 0 ha)).mono ?_
      rintro e w8 ⟨rfl, h6, hk6⟩
      have g6 := (hk6.blk g5 (.inr rfl)).alloc (.cells #[.int .u64 (rowC (addK (rep0 6) 0 c 6) 0 0), .int .u64 (rowC (addK (rep0 6) 0 c 6) 0 1), .int .u64 (rowC (addK (rep0 6) 0 c 6) 0 2), .int .u64 (rowC (addK (rep0 6) 0 c 6) 0 3), .int .u64 (rowC (addK (rep0 6) 0 c 6) 0 4), .int .u64 (rowC (addK (rep0 6) 0 c 6) 0 5)] 56)
      have g7 : Blk (w8.alloc (.cells #[.int .u64 (rowC (addK (rep0 6) 0 c 6) 0 0), .int .u64 (rowC (addK (rep0 6) 0 c 6) 0 1), .int .u64 (rowC (addK (rep0 6) 0 c 6) 0 2), .int .u64 (rowC (addK (rep0 6) 0 c 6) 0 3), .int .u64 (rowC (addK (rep0 6) 0 c 6) 0 4), .int .u64 (rowC (addK (rep0 6) 0 c 6) 0 5)] 56)) w8.heap.size 56 (six (rowC (addK (rep0 6) 0 c 6) 0)) := Blk.new _ _ _
      have h7 := h6.keep (pt_stable _ _ _ _) (pt_stable _ _ _ _) ((Fr.refl no w8).alloc (.cells #[.int .u64 (rowC (addK (rep0 6) 0 c 6) 0 0), .int .u64 (rowC (addK (rep0 6) 0 c 6) 0 1), .int .u64 (rowC (addK (rep0 6) 0 c 6) 0 2), .int .u64 (rowC (addK (rep0 6) 0 c 6) 0 3), .int .u64 (rowC (addK (rep0 6) 0 c 6) 0 4), .int .u64 (rowC (addK (rep0 6) 0 c 6) 0 5)] 56))
      clear h5 g5 h6 hk6
      obtain ⟨d0, d1, d2, d3, d4, d5⟩ := cells6 g6
      obtain ⟨x0, x1, x2, x3, x4, x5⟩ := cells6 g7
      go_wp2_with fail
      refine (h7.l (v := .int .i64 120) (L0' := addK (rep0 6) 0 c 6) (L2' := [2]) (pt_stable _ _ _ _) (fun cb F w ha => tAdd_any F w tb cb 1 _ _ 0 0 1 (by omega) ha)).mono ?_
      rintro e w9 ⟨rfl, h8, -⟩
      clear h7 d0 d1 d2 d3 d4 d5 x0 x1 x2 x3 x4 x5 g6 g7
      go_wp2_with fail
      refine (h8.l (v := .int .i64 120) (L0' := addK (rep0 6) 0 c 6) (L2' := [2]) (pt_stable _ _ _ _) (fun cb F w ha => tShut_any F w tb cb 1 _ _ 0 ha)).mono ?_
      rintro e w10 ⟨rfl, h9, -⟩
      go_wp2
      go_ret
      exact ⟨rfl, hfw.trans' h9.fr⟩
end Go.Proofs.Ytkilibdalgnghaa
