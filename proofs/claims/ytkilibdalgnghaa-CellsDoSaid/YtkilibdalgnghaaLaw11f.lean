/-
  One act on the program's cells and on the document's: both tell the same. (Printed by genlaw11f.py.)
-/
import Derived.Test.YtkilibdalgnghaaLaw11
import Derived.Test.YtkilibdalgnghaaPlain11
import Derived.Test.YtkilibdalgnghaaRef11b
import Derived.Deep.RegionHeld3
namespace Go.Proofs.Ytkilibdalgnghaa
set_option linter.unusedVariables false
set_option linter.unusedSimpArgs false
open Go.RowKit Go.Shelf

/-- Both cells. -/
def D2 (w0 : World) (K : Nat → Prop) (cb rb : Nat) (p0 p1 p2 r0 r1 r2 : List Int) (w : World) : Prop := Two w0 K (PCells cb p0 p1 p2) (RCells rb r0 r1 r2) w
section
variable {w0 w : World} {K : Nat → Prop} {cb rb : Nat} {p0 p1 p2 r0 r1 r2 p0' p1' p2' : List Int} {f : FuncId} {args : Array Value} {v : Value}
theorem D2.c (h : D2 w0 K cb rb p0 p1 p2 r0 r1 r2 w) (hc : ∀ F, (∀ k, F k → k < w.heap.size) → PCells cb p0 p1 p2 F w → Calls Try.prog f args w (Post1 F w cb v p0' p1' p2')) :
    Calls Try.prog f args w fun e w' => e = .returned v ∧ D2 w0 K cb rb p0' p1' p2' r0 r1 r2 w' ∧ Kept K w w' := Two.left h (rcells_stable _ _ _ _) hc
theorem D2.r (h : D2 w0 K cb rb p0 p1 p2 r0 r1 r2 w) (hc : ∀ F, (∀ k, F k → k < w.heap.size) → RCells rb r0 r1 r2 F w → Calls Try.prog f args w (RPost F w rb v p0' p1' p2')) :
    Calls Try.prog f args w fun e w' => e = .returned v ∧ D2 w0 K cb rb p0 p1 p2 p0' p1' p2' w' ∧ Kept K w w' := Two.right h (pcells_stable _ _ _ _) hc
theorem D2.drew (h : D2 w0 K cb rb p0 p1 p2 r0 r1 r2 w) : D2 w0 K cb rb p0 p1 p2 r0 r1 r2 w.drew := Two.drew h (pcells_stable _ _ _ _) (rcells_stable _ _ _ _)
theorem D2.box (h : D2 w0 K cb rb p0 p1 p2 r0 r1 r2 w) (o : Obj) : D2 w0 (fun k => k = w.heap.size) cb rb p0 p1 p2 r0 r1 r2 (w.alloc o) := Two.box h (pcells_stable _ _ _ _) (rcells_stable _ _ _ _) o
theorem D2.weak {K' : Nat → Prop} (h : D2 w0 K cb rb p0 p1 p2 r0 r1 r2 w) (hk : ∀ k, K' k → K k) : D2 w0 K' cb rb p0 p1 p2 r0 r1 r2 w := Two.weak h hk
end
/-- Both cells, at the same numbers, n acts in. -/
structure DSt (w0 : World) (cb rb n : Nat) (l0 l1 l2 : List Int) (w : World) : Prop where
  two : D2 w0 no cb rb l0 l1 l2 l0 l1 l2 w
  n1 : ∀ x ∈ l1, 0 ≤ x ∧ x ≤ 64
  n2 : ∀ x ∈ l2, 0 ≤ x ∧ x ≤ n
def DNext (w0 : World) (cb rb n : Nat) (e : Ending) (w : World) : Prop := e = .returned (.bool true) ∧ ∃ l0 l1 l2, DSt w0 cb rb n l0 l1 l2 w
/-- The act, boxed. -/
def act5 (d i a v u : Int) : Array Value := #[.int .i64 d, .int .i64 i, .int .i64 a, .int .i64 v, .int .i64 u]
theorem box_s {w : World} {g : Nat} {d i a v u : Int} (h : Blk w g 29 (act5 d i a v u)) :
    w.cell? ⟨g, 1, none⟩ = some (.int .i64 i) ∧ w.cell? ⟨g, 2, none⟩ = some (.int .i64 a) ∧ w.cell? ⟨g, 3, none⟩ = some (.int .i64 v) := ⟨h.cell 1, h.cell 2, h.cell 3⟩
theorem mem_set {l : List Int} {P : Int → Prop} (h : ∀ x ∈ l, P x) (k : Nat) (v : Int) (hv : P v) : ∀ x ∈ l.set k v, P x := fun x hx => by
  rcases List.mem_or_eq_of_mem_set hx with hx | rfl
  · exact h x hx
  · exact hv
theorem tuv_small {l : List Int} (h : ∀ x ∈ l, 0 ≤ x ∧ x ≤ 64) (i a : Int) : (∀ x ∈ tuv l i a 0 (wrap64 (a + 1)), 0 ≤ x ∧ x ≤ 64) ∧ ∀ x ∈ tuv l i a (wrap64 (a + 1)) 0, 0 ≤ x ∧ x ≤ 64 := by
  refine ⟨?_, ?_⟩
  · unfold tuv
    split
    · rename_i hb
      refine mem_set h _ _ ?_
      simp [tuB, actB] at hb
      unfold wrap64
      omega
    · exact h
  · unfold tuv
    split
    · exact mem_set h _ _ (by omega)
    · exact h
theorem spv_small {l : List Int} {n : Nat} (hn : n ≤ 80) (h : ∀ x ∈ l, 0 ≤ x ∧ x ≤ n) (i o : Int) : ∀ x ∈ spv l i o, 0 ≤ x ∧ x ≤ ((n + 1 : Nat) : Int) := by
  have h' : ∀ x ∈ l, 0 ≤ x ∧ x ≤ ((n + 1 : Nat) : Int) := fun x hx => by have := h x hx; omega
  unfold spv
  split
  · rename_i hb
    refine mem_set h' _ _ ?_
    simp [spB] at hb
    have hi := inB_true.1 hb.1
    have hm : ldv l i ∈ l := by
      simp only [ldv, hb.1, if_true, List.getD]
      rw [List.getElem?_eq_getElem (by omega)]
      simp
    have := h _ hm
    unfold wrap64
    omega
  · exact h'


set_option maxRecDepth 100000 in
set_option maxHeartbeats 6400000 in
theorem numbered_any (w0 : World) (cb rb n : Nat) (hn8 : n < 80) (l0 l1 l2 : List Int) (w : World) (d i a v u : Int) (h : DSt w0 cb rb n l0 l1 l2 w) :
    Calls Try.prog 64 #[.pointer (some ⟨cb, 0, none⟩), .pointer (some ⟨rb, 0, none⟩), .agg #[.int .i64 d, .int .i64 i, .int .i64 a, .int .i64 v, .int .i64 u]] w (DNext w0 cb rb (n + 1)) := by
  have h0 := h
  obtain ⟨h2, hn1, hn2⟩ := h
  have n1 := Lib.hid hn1
  have n2 := Lib.hid hn2
  have hn : Hid (∀ x ∈ l2, 0 ≤ x) := fun x hx => (hn2 x hx).1
  have n3 : Hid (∀ x ∈ l2, 0 ≤ x ∧ x ≤ ((n + 1 : Nat) : Int)) := fun x hx => by have := hn2 x hx; omega
  have hn8' : Hid (n < 80) := hn8
  clear hn1 hn2 hn8
  have hx : Blk (w.alloc (.cells #[.int .i64 d, .int .i64 i, .int .i64 a, .int .i64 v, .int .i64 u] 29)) w.heap.size 29 (act5 d i a v u) := Blk.new _ _ _
  have hb := h2.box (.cells #[.int .i64 d, .int .i64 i, .int .i64 a, .int .i64 v, .int .i64 u] 29)
  have hd0 := hx.cell 0
  have hd1 := hx.cell 1
  have hd2 := hx.cell 2
  have hd3 := hx.cell 3
  have hd4 := hx.cell 4
  simp only [act5, List.getElem?_toArray, List.getElem?_cons_succ, List.getElem?_cons_zero] at hd0 hd1 hd2 hd3 hd4
  generalize hm : (IntKind.u64.wrap d).tmod 10 = m at *

  by_cases m0 : m = 0
  · go_enter Try.func64, Try.ntmps64
    go_wp2_with fail
    refine (hb.c (fun F hF hs => cLoad_any F _ cb _ _ _ i  hs)).mono ?_
    rintro e w1 ⟨rfl, hb1, hk1⟩
    have hx1 := hk1.blk hx rfl
    have hc0 := hx1.cell 0
    have hc1 := hx1.cell 1
    have hc2 := hx1.cell 2
    have hc3 := hx1.cell 3
    have hc4 := hx1.cell 4
    simp only [act5, List.getElem?_toArray, List.getElem?_cons_succ, List.getElem?_cons_zero] at hc0 hc1 hc2 hc3 hc4
    clear hd0 hd1 hd2 hd3 hd4
    go_wp2_with fail
    refine (hb1.r (fun F hF hs => rLoad_any F _ rb _ _ _ i  hs)).mono ?_
    rintro e w2 ⟨rfl, hb2, hk2⟩
    clear hc0 hc1 hc2 hc3 hc4
    go_wp2
    go_ret
    exact ⟨rfl, l0, l1, l2, hb2.weak (fun k hk => hk.elim), n1.out, n3.out⟩
  by_cases m1 : m = 1
  · go_enter Try.func64, Try.ntmps64
    go_wp2_with fail
    refine (hb.c (fun F hF hs => cAdd_any F _ cb _ _ _ i v hs)).mono ?_
    rintro e w1 ⟨rfl, hb1, hk1⟩
    have hx1 := hk1.blk hx rfl
    have hc0 := hx1.cell 0
    have hc1 := hx1.cell 1
    have hc2 := hx1.cell 2
    have hc3 := hx1.cell 3
    have hc4 := hx1.cell 4
    simp only [act5, List.getElem?_toArray, List.getElem?_cons_succ, List.getElem?_cons_zero] at hc0 hc1 hc2 hc3 hc4
    clear hd0 hd1 hd2 hd3 hd4
    go_wp2_with fail
    refine (hb1.r (fun F hF hs => rAdd_any F _ rb _ _ _ i v hs)).mono ?_
    rintro e w2 ⟨rfl, hb2, hk2⟩
    clear hc0 hc1 hc2 hc3 hc4
    go_wp2
    go_ret
    exact ⟨rfl, (stv l0 i (adv l0 i v)), l1, l2, hb2.weak (fun k hk => hk.elim), n1.out, n3.out⟩
  by_cases m2 : m = 2
  · go_enter Try.func64, Try.ntmps64
    go_wp2_with fail
    refine (hb.c (fun F hF hs => cSwap_any F _ cb _ _ _ i v u hs)).mono ?_
    rintro e w1 ⟨rfl, hb1, hk1⟩
    have hx1 := hk1.blk hx rfl
    have hc0 := hx1.cell 0
    have hc1 := hx1.cell 1
    have hc2 := hx1.cell 2
    have hc3 := hx1.cell 3
    have hc4 := hx1.cell 4
    simp only [act5, List.getElem?_toArray, List.getElem?_cons_succ, List.getElem?_cons_zero] at hc0 hc1 hc2 hc3 hc4
    clear hd0 hd1 hd2 hd3 hd4
    go_wp2_with fail
    refine (hb1.r (fun F hF hs => rSwap_any F _ rb _ _ _ i v u hs)).mono ?_
    rintro e w2 ⟨rfl, hb2, hk2⟩
    clear hc0 hc1 hc2 hc3 hc4
    go_wp2
    go_ret
    exact ⟨rfl, (swv l0 i v u), l1, l2, hb2.weak (fun k hk => hk.elim), n1.out, n3.out⟩
  by_cases m3 : m = 3
  · go_enter Try.func64, Try.ntmps64
    go_wp2_with fail
    refine (hb.c (fun F hF hs => cBegin_any F _ cb _ _ _ i  hs)).mono ?_
    rintro e w1 ⟨rfl, hb1, hk1⟩
    have hx1 := hk1.blk hx rfl
    have hc0 := hx1.cell 0
    have hc1 := hx1.cell 1
    have hc2 := hx1.cell 2
    have hc3 := hx1.cell 3
    have hc4 := hx1.cell 4
    simp only [act5, List.getElem?_toArray, List.getElem?_cons_succ, List.getElem?_cons_zero] at hc0 hc1 hc2 hc3 hc4
    clear hd0 hd1 hd2 hd3 hd4
    go_wp2_with fail
    refine (hb1.r (fun F hF hs => rBegin_any F _ rb _ _ _ i  hn.out hs)).mono ?_
    rintro e w2 ⟨rfl, hb2, hk2⟩
    clear hc0 hc1 hc2 hc3 hc4
    go_wp2
    go_ret
    exact ⟨rfl, l0, l1, l2, hb2.weak (fun k hk => hk.elim), n1.out, n3.out⟩
  · go_enter Try.func64, Try.ntmps64
    go_wp2_with fail
    refine (hb.c (fun F hF hs => cEnd_any F _ cb _ _ _ i v hs)).mono ?_
    rintro e w1 ⟨rfl, hb1, hk1⟩
    have hx1 := hk1.blk hx rfl
    have hc0 := hx1.cell 0
    have hc1 := hx1.cell 1
    have hc2 := hx1.cell 2
    have hc3 := hx1.cell 3
    have hc4 := hx1.cell 4
    simp only [act5, List.getElem?_toArray, List.getElem?_cons_succ, List.getElem?_cons_zero] at hc0 hc1 hc2 hc3 hc4
    clear hd0 hd1 hd2 hd3 hd4
    go_wp2_with fail
    refine (hb1.r (fun F hF hs => rEnd_any F _ rb _ _ _ i v hs)).mono ?_
    rintro e w2 ⟨rfl, hb2, hk2⟩
    clear hc0 hc1 hc2 hc3 hc4
    go_wp2
    go_ret
    exact ⟨rfl, l0, l1, l2, hb2.weak (fun k hk => hk.elim), n1.out, n3.out⟩

set_option maxRecDepth 100000 in
set_option maxHeartbeats 6400000 in
theorem did_any (w0 : World) (cb rb n : Nat) (hn8 : n < 80) (l0 l1 l2 : List Int) (w : World) (d i a v u : Int) (h : DSt w0 cb rb n l0 l1 l2 w) :
    Calls Try.prog 31 #[.pointer (some ⟨cb, 0, none⟩), .pointer (some ⟨rb, 0, none⟩), .agg #[.int .i64 d, .int .i64 i, .int .i64 a, .int .i64 v, .int .i64 u]] w (DNext w0 cb rb (n + 1)) := by
  have h0 := h
  obtain ⟨h2, hn1, hn2⟩ := h
  have n1 := Lib.hid hn1
  have n2 := Lib.hid hn2
  have hn : Hid (∀ x ∈ l2, 0 ≤ x) := fun x hx => (hn2 x hx).1
  have n3 : Hid (∀ x ∈ l2, 0 ≤ x ∧ x ≤ ((n + 1 : Nat) : Int)) := fun x hx => by have := hn2 x hx; omega
  have hn8' : Hid (n < 80) := hn8
  clear hn1 hn2 hn8
  have hx : Blk (w.alloc (.cells #[.int .i64 d, .int .i64 i, .int .i64 a, .int .i64 v, .int .i64 u] 29)) w.heap.size 29 (act5 d i a v u) := Blk.new _ _ _
  have hb := h2.box (.cells #[.int .i64 d, .int .i64 i, .int .i64 a, .int .i64 v, .int .i64 u] 29)
  have hd0 := hx.cell 0
  have hd1 := hx.cell 1
  have hd2 := hx.cell 2
  have hd3 := hx.cell 3
  have hd4 := hx.cell 4
  simp only [act5, List.getElem?_toArray, List.getElem?_cons_succ, List.getElem?_cons_zero] at hd0 hd1 hd2 hd3 hd4
  generalize hm : (IntKind.u64.wrap d).tmod 10 = m at *

  by_cases m0 : m = 5
  · go_enter Try.func31, Try.ntmps31
    go_wp2_with fail
    go_region_held3 (fun w' => w'.cell? ⟨w.heap.size, 1, none⟩ = some (.int .i64 i) ∧ w'.cell? ⟨w.heap.size, 2, none⟩ = some (.int .i64 a) ∧ w'.cell? ⟨w.heap.size, 3, none⟩ = some (.int .i64 v))
      (first | exact box_s (by assumption) | exact box_s (Blk.drew (by assumption)) | go_keep)
      (first
        | (go_at_call 22; refine (D2.c (by first | assumption | exact D2.drew (by assumption)) (fun F hF hs => cStore_any F _ cb _ _ _ i v hs)).mono ?_; rintro e w1 ⟨rfl, hb1, hk1⟩; have hx1 := hk1.blk (by first | assumption | exact Blk.drew (by assumption)) rfl)
        | (go_at_call 59; refine (D2.r (by first | assumption | exact D2.drew (by assumption)) (fun F hF hs => rStore_any F _ rb _ _ _ i v hs)).mono ?_; rintro e w1 ⟨rfl, hb1, hk1⟩; have hx1 := hk1.blk (by first | assumption | exact Blk.drew (by assumption)) rfl))
    all_goals
      go_wp2
      go_ret
      exact ⟨rfl, (stv l0 i v), l1, l2, D2.weak (by assumption) (fun k hk => hk.elim), n1.out, n3.out⟩
  by_cases m1 : m = 6
  · go_enter Try.func31, Try.ntmps31
    go_wp2_with fail
    go_region_held3 (fun w' => w'.cell? ⟨w.heap.size, 1, none⟩ = some (.int .i64 i) ∧ w'.cell? ⟨w.heap.size, 2, none⟩ = some (.int .i64 a) ∧ w'.cell? ⟨w.heap.size, 3, none⟩ = some (.int .i64 v))
      (first | exact box_s (by assumption) | exact box_s (Blk.drew (by assumption)) | go_keep)
      (first
        | (go_at_call 20; refine (D2.c (by first | assumption | exact D2.drew (by assumption)) (fun F hF hs => cLock_any F _ cb _ _ _ i a hs)).mono ?_; rintro e w1 ⟨rfl, hb1, hk1⟩; have hx1 := hk1.blk (by first | assumption | exact Blk.drew (by assumption)) rfl)
        | (go_at_call 60; refine (D2.r (by first | assumption | exact D2.drew (by assumption)) (fun F hF hs => rLock_any F _ rb _ _ _ i a hs)).mono ?_; rintro e w1 ⟨rfl, hb1, hk1⟩; have hx1 := hk1.blk (by first | assumption | exact Blk.drew (by assumption)) rfl))
    all_goals
      go_wp2
      go_ret
      exact ⟨rfl, l0, (tuv l1 i a 0 (wrap64 (a + 1))), l2, D2.weak (by assumption) (fun k hk => hk.elim), (tuv_small n1.out i a).1, n3.out⟩
  by_cases m2 : m = 7
  · go_enter Try.func31, Try.ntmps31
    go_wp2_with fail
    go_region_held3 (fun w' => w'.cell? ⟨w.heap.size, 1, none⟩ = some (.int .i64 i) ∧ w'.cell? ⟨w.heap.size, 2, none⟩ = some (.int .i64 a) ∧ w'.cell? ⟨w.heap.size, 3, none⟩ = some (.int .i64 v))
      (first | exact box_s (by assumption) | exact box_s (Blk.drew (by assumption)) | go_keep)
      (first
        | (go_at_call 19; refine (D2.c (by first | assumption | exact D2.drew (by assumption)) (fun F hF hs => cUnlock_any F _ cb _ _ _ i a hs)).mono ?_; rintro e w1 ⟨rfl, hb1, hk1⟩; have hx1 := hk1.blk (by first | assumption | exact Blk.drew (by assumption)) rfl)
        | (go_at_call 61; refine (D2.r (by first | assumption | exact D2.drew (by assumption)) (fun F hF hs => rUnlock_any F _ rb _ _ _ i a hs)).mono ?_; rintro e w1 ⟨rfl, hb1, hk1⟩; have hx1 := hk1.blk (by first | assumption | exact Blk.drew (by assumption)) rfl))
    all_goals
      go_wp2
      go_ret
      exact ⟨rfl, l0, (tuv l1 i a (wrap64 (a + 1)) 0), l2, D2.weak (by assumption) (fun k hk => hk.elim), (tuv_small n1.out i a).2, n3.out⟩
  by_cases m3 : m = 8
  · go_enter Try.func31, Try.ntmps31
    go_wp2_with fail
    go_region_held3 (fun w' => w'.cell? ⟨w.heap.size, 1, none⟩ = some (.int .i64 i) ∧ w'.cell? ⟨w.heap.size, 2, none⟩ = some (.int .i64 a) ∧ w'.cell? ⟨w.heap.size, 3, none⟩ = some (.int .i64 v))
      (first | exact box_s (by assumption) | exact box_s (Blk.drew (by assumption)) | go_keep)
      (first
        | (go_at_call 26; refine (D2.c (by first | assumption | exact D2.drew (by assumption)) (fun F hF hs => cChange_any F _ cb _ _ _ i hs)).mono ?_; rintro e w1 ⟨rfl, hb1, hk1⟩; have hx1 := hk1.blk (by first | assumption | exact Blk.drew (by assumption)) rfl)
        | (go_at_call 62; refine (D2.r (by first | assumption | exact D2.drew (by assumption)) (fun F hF hs => rChange_any F _ rb _ _ _ i  hn.out hs)).mono ?_; rintro e w1 ⟨rfl, hb1, hk1⟩; have hx1 := hk1.blk (by first | assumption | exact Blk.drew (by assumption)) rfl))
    all_goals
      go_wp2
      go_ret
      exact ⟨rfl, l0, l1, (spv l2 i 0), D2.weak (by assumption) (fun k hk => hk.elim), n1.out, spv_small (Nat.le_of_lt hn8'.out) n2.out i 0⟩
  by_cases m4 : m = 9
  · go_enter Try.func31, Try.ntmps31
    go_wp2_with fail
    go_region_held3 (fun w' => w'.cell? ⟨w.heap.size, 1, none⟩ = some (.int .i64 i) ∧ w'.cell? ⟨w.heap.size, 2, none⟩ = some (.int .i64 a) ∧ w'.cell? ⟨w.heap.size, 3, none⟩ = some (.int .i64 v))
      (first | exact box_s (by assumption) | exact box_s (Blk.drew (by assumption)) | go_keep)
      (first
        | (go_at_call 28; refine (D2.c (by first | assumption | exact D2.drew (by assumption)) (fun F hF hs => cSettle_any F _ cb _ _ _ i hs)).mono ?_; rintro e w1 ⟨rfl, hb1, hk1⟩; have hx1 := hk1.blk (by first | assumption | exact Blk.drew (by assumption)) rfl)
        | (go_at_call 63; refine (D2.r (by first | assumption | exact D2.drew (by assumption)) (fun F hF hs => rSettle_any F _ rb _ _ _ i  hn.out hs)).mono ?_; rintro e w1 ⟨rfl, hb1, hk1⟩; have hx1 := hk1.blk (by first | assumption | exact Blk.drew (by assumption)) rfl))
    all_goals
      go_wp2
      go_ret
      exact ⟨rfl, l0, l1, (spv l2 i 1), D2.weak (by assumption) (fun k hk => hk.elim), n1.out, spv_small (Nat.le_of_lt hn8'.out) n2.out i 1⟩
  · go_enter Try.func31, Try.ntmps31
    go_wp2_with fail
    refine (numbered_any w0 cb rb n hn8'.out l0 l1 l2 _ d i a v u ⟨hb.weak (fun k hk => hk.elim), n1.out, n2.out⟩).mono ?_
    rintro e w1 ⟨rfl, hq⟩
    go_wp2
    go_ret
    exact ⟨rfl, hq⟩
end Go.Proofs.Ytkilibdalgnghaa
