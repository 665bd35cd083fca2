/-
  A range over a function, at the wide fence: the statement, a round, the function's way out. Whatever program, loop and iterator; no defer in a round.
-/
import Derived.Test.YtkilibdalgnghaaLib
import Derived.RangeFuncRecord
import Derived.RangeFuncIn
import Derived.RangeFuncLeaves
import Derived.RangeFuncSeq
import Derived.Shelf.Abstract
import Derived.OwnWalkIn
import Derived.TacticsInMore
import Derived.LoopNIn
import Derived.LoopIn
import Derived.RangeFuncCalls
namespace Go.Proofs.Ytkilibdalgnghaa
set_option linter.unusedVariables false
set_option linter.unusedSimpArgs false
open Go.RowKit Go.Shelf

abbrev FW : Fence := Fence.wide
theorem fw_fn (k : Nat) : FW.fn k := trivial
theorem fw_depth : FW.depth = none := rfl
/-- A loop's record. -/
def LRec (B fn : Nat) (tmps : Array Value) (ps : Array Tmp) (assign body : Code) (st : LoopState) (pe : Option Code) : Obj :=
  .loop { state := st, pending := pe, fn, tmps, params := ps, assign, body, defers := B }
/-- A loop's two blocks: the one for deferred calls at B, the record behind it. -/
structure Book (L : LoopState → Option Code → Obj) (B : Nat) (st : LoopState) (pe : Option Code) (W : World) : Prop where
  record : W.heap[B + 1]? = some (L st pe)
  calls : W.heap[B]? = some (.deferred (some []))

section
variable {L : LoopState → Option Code → Obj} {B : Nat} {st : LoopState} {pe : Option Code} {W W' : World} {F : Nat → Prop}
theorem Book.lt (h : Book L B st pe W) : B + 1 < W.heap.size := (Array.getElem?_eq_some_iff.1 h.record).1
theorem Book.frame (h : Book L B st pe W) (hf : Fr F W W') (h0 : ¬ F B) (h1 : ¬ F (B + 1)) : Book L B st pe W' := ⟨hf.heap h.record h1, hf.heap h.calls h0⟩
theorem Book.set (h : Book L B st pe W) {p : Addr} (h0 : p.block ≠ B) (h1 : p.block ≠ B + 1) (u : Value) : Book L B st pe (W.setCell p u) :=
  h.frame ((Fr.refl (fun k => k = p.block) W).setCell (p := p) (.inl rfl) u) (Ne.symm h0) (Ne.symm h1)
theorem Book.put (h : Book L B st pe W) (st' : LoopState) (pe' : Option Code) : Book L B st' pe' (W.putObj (B + 1) (L st' pe')) :=
  ⟨World.putObj_heap_same h.lt, (World.putObj_heap_other (by omega)).trans h.calls⟩
theorem Fr.putObj {w : World} (h : Fr F w W) {k : Nat} (hk : F k ∨ w.heap.size ≤ k) (o : Obj) : Fr F w (W.putObj k o) :=
  ⟨h.os, h.tape, h.output, by simpa using h.size, fun j hj hF => (World.putObj_heap_other (k := j) (r := k) (fun e => hk.elim (fun hk => hF (by rw [e]; exact hk)) (fun hk => by omega))).trans (h.block j hj hF)⟩
theorem Fr.putObj0 {w : World} (h : Fr F w W) {k : Nat} (hk : F k ∨ w.heap.size ≤ k) (o : Obj) : Fr F w (W.putObj k o) :=
  ⟨h.os, h.tape, h.output, by simpa using h.size, fun j hj hF => (World.putObj_heap_other (k := j) (r := k) (fun e => hk.elim (fun hk => hF (by rw [e]; exact hk)) (fun hk => by omega))).trans (h.block j hj hF)⟩
theorem Blk.putObj {g : Nat} {t : TypeId} {cs : Array Value} (h : Blk W g t cs) {k : Nat} (hk : g ≠ k) (o : Obj) : Blk (W.putObj k o) g t cs := (World.putObj_heap_other hk).trans h
theorem FN.putObj (F : Nat → Prop) (w w1 : World) (k : Nat) (o : Obj) : FN F w (w1.putObj k o) = FN F w w1 := by funext j; simp [FN]
end

theorem calls_of_wp_marks {P : Program} {f : FuncId} {fn : Func} {c : Code} {args : Array Value} {w : World} {R : Ending → World → Prop}
    (hf : P.funcs[f]? = some fn) (hb : fn.body = some c)
    (h : c.wp P (bodyPostM FW 0 P fn R) { tmps := args ++ Array.replicate (fn.ntmps - args.size) undef, defers := [] } w) : Calls P f args w R :=
  (callsIn_wide (n := 0)).1 (callsIn_of_wp_marks hf hb trivial (wpIn_wide.2 h))

/-- From W to W' the record's block alone has turned. -/
structure Turn (B : Nat) (W W' : World) : Prop where
  fr : Fr (fun k => k = B + 1) W W'
  size : W'.heap.size = W.heap.size
theorem Turn.put (B : Nat) (W : World) (o : Obj) : Turn B W (W.putObj (B + 1) o) := ⟨Fr.putObj (Fr.refl (fun k => k = B + 1) W) (k := B + 1) (.inl rfl) o, by simp⟩
theorem Turn.blk {B : Nat} {W W' : World} (h : Turn B W W') {g : Nat} {t : TypeId} {cs : Array Value} (hb : Blk W g t cs) (hg : g ≠ B + 1) : Blk W' g t cs := h.fr.blk hb hg

/-- A turn of the record, seen from any world before the loop was laid. -/
theorem Turn.of {B : Nat} {W W' w : World} {F : Nat → Prop} (h : Turn B W W') (hf : Fr F w W) (hB : w.heap.size ≤ B + 1) (hlt : B + 1 < W.heap.size) : Fr F w W' :=
  hf.trans (h.fr.mono fun _ hj => .inr ⟨by omega, by omega⟩)

/-- What a round's body comes to, by the way in which it is left. -/
def roundR (L : LoopState → Option Code → Obj) (B : Nat) (R : Bool → World → Prop) : Exit → Act → World → Prop
  | .normal, _, W => Book L B .busy none W ∧ ∀ W', Turn B W W' → Book L B .ready none W' → R true W'
  | .ret, _, W => Book L B .busy none W ∧ ∀ W', Turn B W W' → Book L B .done (some .ret) W' → R false W'
  | .exit id, _, W => Book L B .busy none W ∧ ∀ W', Turn B W W' → Book L B .done (some (.exit id)) W' → R false W'
  | _, _, _ => False

/-- A call of yield: some R at true | false behind it. -/
def Yields (P : Program) (B : Nat) (args : Array Value) (W : World) (R : Bool → World → Prop) : Prop :=
  YieldAt FW 0 P (B + 1) args W fun e W' => ∃ r, e = .returned (.bool r) ∧ R r W'

/-- A round. -/
theorem yield_at {P : Program} {B fn : Nat} {tmps : Array Value} {ps : Array Tmp} {assign body : Code} {args : Array Value} {W : World} {R : Bool → World → Prop}
    (hb : Book (LRec B fn tmps ps assign body) B .ready none W) (hs : args.size = ps.size)
    (h : assign.wpIn (FW.inRound (B + 1)) 0 P (Exit.then (fun a1 W1 => Book (LRec B fn tmps ps assign body) B .ready none W1 ∧ ∀ W2, Turn B W1 W2 → Book (LRec B fn tmps ps assign body) B .busy none W2 →
        body.wpIn (FW.inRound (B + 1)) 0 P (roundR (LRec B fn tmps ps assign body) B R) a1 W2) (fun _ _ _ => False))
      { tmps := (ps.zip args).foldl (fun t (p, v) => t.setIfInBounds p v) tmps, defers := [] } W) :
    Yields P B args W R := by
  refine ⟨fn, _, assign, body, run_yield (P := P) hb.record hs, roundIn_of_wpIn trivial ?_⟩
  refine wpIn_mono h ?_
  rintro e a1 W1 hq
  cases e with
  | normal =>
    obtain ⟨hb1, hq⟩ := hq
    refine ⟨_, run_beginRound hb1.record rfl, wpIn_mono (hq _ (Turn.put B W1 _) (hb1.put _ _)) ?_⟩
    rintro e a3 W3 h3
    cases e with
    | normal => exact ⟨_, _, run_endRound none h3.1.record, true, rfl, h3.2 _ (Turn.put B W3 _) (h3.1.put _ _)⟩
    | ret => exact ⟨_, _, run_endRound (some .ret) h3.1.record, false, rfl, h3.2 _ (Turn.put B W3 _) (h3.1.put _ _)⟩
    | exit id => exact ⟨_, _, run_endRound (some (.exit id)) h3.1.record, false, rfl, h3.2 _ (Turn.put B W3 _) (h3.1.put _ _)⟩
    | goto t => exact h3.elim
    | panic ch => exact h3.elim
    | outgrown => exact h3.elim
  | ret => exact hq.elim
  | exit id => exact hq.elim
  | goto t => exact hq.elim
  | panic ch => exact hq.elim
  | outgrown => exact hq.elim

/-- The statement. -/
theorem wp_range {P : Program} {g : Operand} {ps : Array Tmp} {assign body : Code} {Q : Exit → Act → World → Prop} {a : Act} {w : World} {gf : Nat} {lb : Array Value}
    (hg : a.eval g = .func (.func gf) #[] lb) (eg : Enters P gf)
    (h : ∀ (B : Nat) (L : LoopState → Option Code → Obj) (W1 : World), B = w.heap.size → Fr no w W1 → W1.heap.size = B + 2 → Book L B .ready none W1 →
      (∀ (args : Array Value) (W : World) (R : Bool → World → Prop), args.size = ps.size → Book L B .ready none W →
        assign.wpIn (FW.inRound (B + 1)) 0 P (Exit.then (fun a1 W1 => Book L B .ready none W1 ∧ ∀ W2, Turn B W1 W2 → Book L B .busy none W2 → body.wpIn (FW.inRound (B + 1)) 0 P (roundR L B R) a1 W2) (fun _ _ _ => False))
          { tmps := (ps.zip args).foldl (fun t (p, v) => t.setIfInBounds p v) a.tmps, defers := [] } W → Yields P B args W R) →
      CallsIn FW 0 P gf (#[.func (.yield (B + 1)) #[] #[]] ++ lb) W1 fun e W2 => (∃ v, e = .returned v) ∧
        ((Book L B .ready none W2 ∧ ∀ W3, Turn B W2 W3 → W3.heap[B]? = some (.deferred (some [])) → Q .normal { a with defers := { target := .collected B, args := #[] } :: a.defers } W3) ∨
         (∃ c, Book L B .done (some c) W2 ∧ ∀ W3, Turn B W2 W3 → W3.heap[B]? = some (.deferred (some [])) → c.wp P Q { a with defers := { target := .collected B, args := #[] } :: a.defers } W3))) :
    (Code.rangeFunc g ps assign body).wp P Q a w := by
  refine (wpIn_wide (n := 0)).1 (wpIn_rangeFunc ?_)
  intro fn _
  obtain ⟨W1, hW1⟩ : ∃ W1, (w.alloc (.deferred (some []))).alloc (LRec w.heap.size fn a.tmps ps assign body .ready none) = W1 := ⟨_, rfl⟩
  have hbk : Book (LRec w.heap.size fn a.tmps ps assign body) w.heap.size .ready none W1 := by
    subst hW1
    refine ⟨?_, (Below.heap_alloc _ _ _ (by simp)).trans (World.alloc_heap_new w _)⟩
    have := World.alloc_heap_new (w.alloc (.deferred (some []))) (LRec w.heap.size fn a.tmps ps assign body .ready none)
    rwa [World.size_alloc] at this
  have hfr : Fr no w W1 := by subst hW1; exact ((Fr.refl no w).alloc _).alloc _
  have hsz : W1.heap.size = w.heap.size + 2 := by subst hW1; simp
  refine ⟨w.heap.size + 1, [{ target := .collected w.heap.size, args := #[] }], W1, { target := .fn (.func gf) lb, args := #[.func (.yield (w.heap.size + 1)) #[] #[]] }, W1, gf,
    #[.func (.yield (w.heap.size + 1)) #[] #[]] ++ lb, W1, ?_, ?_, fun _ _ => trivial, ?_, by simp [Fence.wide], ?_⟩
  · rw [← hW1]; exact run_enterLoop_outer _ _ _ _ _
  · simp only [resolve, hg]
    simp [go_sem]
  · simp [invoke, go_sem, eg _ _]
  · refine (h w.heap.size (LRec w.heap.size fn a.tmps ps assign body) W1 rfl hfr hsz hbk (fun args W R hs hb hh => yield_at hb hs hh)).mono ?_
    rintro e W2 ⟨⟨v, rfl⟩, ⟨hb, hq⟩ | ⟨c, hb, hq⟩⟩
    · exact ⟨none, _, run_endLoop (P := P) hb.record (by simp), hq _ (Turn.put _ W2 _) (hb.put .exhausted none).calls⟩
    · exact ⟨some c, _, run_endLoop (P := P) hb.record (by simp), wpIn_wide.2 (hq _ (Turn.put _ W2 _) (hb.put .exhausted (some c)).calls)⟩

/-- A function's way out behind one such loop; behind none. -/
theorem leave_mark {P : Program} {fn : Func} {tmps : Array Value} {R : Ending → World → Prop} {w : World} {B : Nat} {v : Value} (hK : w.heap[B]? = some (.deferred (some [])))
    (hr : (results fn tmps).run P (w.putObj B (.deferred none)) = .ok v (w.putObj B (.deferred none))) (hR : R (.returned v) (w.putObj B (.deferred none))) :
    LeavesInM FW 0 P fn tmps R [{ target := .collected B, args := #[] }] .returning w :=
  ⟨by simp, .inl ⟨B, _, rfl, run_takeDeferred hK, _, hr, hR⟩⟩
theorem leave_none {P : Program} {fn : Func} {tmps : Array Value} {R : Ending → World → Prop} {w : World} {v : Value}
    (hr : (results fn tmps).run P w = .ok v w) (hR : R (.returned v) w) : LeavesInM FW 0 P fn tmps R [] .returning w := ⟨_, hr, hR⟩

end Go.Proofs.Ytkilibdalgnghaa
