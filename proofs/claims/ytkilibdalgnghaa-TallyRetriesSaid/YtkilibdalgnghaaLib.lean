/-
  Words on memory for all walks of this seat: blocks known whole, what a step may have turned, and what was new behind it. No condition.
-/
import Derived.WalkKit
import Derived.WalkSpells
import Derived.WalkLawsBesides
import Derived.Lib.Hide
import Derived.KernelRfl
import Derived.Deep.Draws
import Derived.Deep.RegionHeld3
import Derived.Deep.QuietTactic
import Derived.BigQuiet
namespace Go.Proofs.Ytkilibdalgnghaa
set_option linter.unusedVariables false
set_option linter.unusedSimpArgs false
open Go.RowKit

/-- Block g holds just the cells cs of element type t, none frozen. -/
def Blk (w : World) (g : Nat) (t : TypeId) (cs : Array Value) : Prop := w.heap[g]? = some (.cells cs t (0, 0))

section
variable {w w' w1 w2 : World} {g : Nat} {t : TypeId} {cs : Array Value} {F G : Nat → Prop}
theorem Blk.lt (h : Blk w g t cs) : g < w.heap.size := by
  rcases Nat.lt_or_ge g w.heap.size with hlt | hge
  · exact hlt
  · unfold Blk at h; rw [Array.getElem?_eq_none hge] at h; cases h
theorem Blk.cell (h : Blk w g t cs) (i : Nat) : w.cell? ⟨g, i, none⟩ = cs[i]? := cell_of_row w g i cs t (0, 0) h
theorem Blk.frozen (h : Blk w g t cs) (i : Nat) : w.frozen? ⟨g, i, none⟩ = false := by
  unfold Blk at h
  simp [World.frozen?, h]
theorem Blk.new (w : World) (t : TypeId) (cs : Array Value) : Blk (w.alloc (.cells cs t)) w.heap.size t cs := heap_alloc_new w _
theorem Blk.new' {n : Nat} (hn : n = w.heap.size) : Blk (w.alloc (.cells cs t)) n t cs := hn ▸ Blk.new w t cs
theorem Blk.drew (h : Blk w g t cs) : Blk w.drew g t cs := h
theorem Blk.drewN (h : Blk w g t cs) (n : Nat) : Blk (w.drewN n) g t cs := h
theorem Blk.alloc (h : Blk w g t cs) (o : Obj) : Blk (w.alloc o) g t cs := (Below.heap_alloc w o g h.lt).trans h
theorem Blk.set_ (h : Blk w g t cs) (i : Nat) (u : Value) : Blk (w.setCell ⟨g, i, none⟩ u) g t (cs.setIfInBounds i u) := by
  unfold Blk at h ⊢
  simp [World.setCell, Array.getElem?_modify, h]
theorem Blk.far (h : Blk w g t cs) {p : Addr} (hp : g ≠ p.block) (u : Value) : Blk (w.setCell p u) g t cs := (Below.heap_setCell w p u g hp).trans h
theorem Blk.ne_ {g' : Nat} {t' : TypeId} {cs' : Array Value} (h : Blk w g t cs) (h' : Blk w g' t' cs') (hne : t ≠ t') : g ≠ g' := by
  rintro rfl
  unfold Blk at h h'
  rw [h] at h'
  injection h' with h'
  injection h' with _ ht
  exact hne ht

/-- What was F, and whatever is new from w to w'. -/
def FN (F : Nat → Prop) (w w' : World) : Nat → Prop := fun k => F k ∨ (w.heap.size ≤ k ∧ k < w'.heap.size)
/-- From w to w' no old block outside F has turned. -/
structure Fr (F : Nat → Prop) (w w' : World) : Prop where
  os : w'.os = w.os
  tape : w'.tape = w.tape
  output : w'.output = w.output
  size : w.heap.size ≤ w'.heap.size
  block : ∀ k, k < w.heap.size → ¬ F k → w'.heap[k]? = w.heap[k]?
theorem Fr.refl (F : Nat → Prop) (w : World) : Fr F w w := ⟨rfl, rfl, rfl, Nat.le_refl _, fun _ _ _ => rfl⟩
theorem Fr.mono (h : Fr F w w') (hFG : ∀ k, F k → G k) : Fr G w w' := ⟨h.os, h.tape, h.output, h.size, fun k hk hG => h.block k hk (fun hF => hG (hFG k hF))⟩
theorem Fr.trans (h : Fr F w w1) (h' : Fr (FN F w w1) w1 w2) : Fr F w w2 :=
  ⟨h'.os.trans h.os, h'.tape.trans h.tape, h'.output.trans h.output, Nat.le_trans h.size h'.size, fun k hk hF =>
    (h'.block k (Nat.lt_of_lt_of_le hk h.size) (fun hn => hn.elim hF (fun ⟨h1, _⟩ => by omega))).trans (h.block k hk hF)⟩
theorem Fr.trans' (h : Fr F w w1) (h' : Fr F w1 w2) : Fr F w w2 := h.trans (h'.mono fun _ hk => .inl hk)
theorem Fr.drew (h : Fr F w w') : Fr F w w'.drew := ⟨h.os, h.tape, h.output, h.size, h.block⟩
theorem Fr.drewN (h : Fr F w w') (n : Nat) : Fr F w (w'.drewN n) := ⟨h.os, h.tape, h.output, h.size, h.block⟩
theorem Fr.alloc (h : Fr F w w') (o : Obj) : Fr F w (w'.alloc o) :=
  ⟨h.os, h.tape, h.output, Nat.le_trans h.size (by simp), fun k hk hF => (Below.heap_alloc w' o k (Nat.lt_of_lt_of_le hk h.size)).trans (h.block k hk hF)⟩
theorem Fr.setCell (h : Fr F w w') {p : Addr} (hp : F p.block ∨ w.heap.size ≤ p.block) (u : Value) : Fr F w (w'.setCell p u) :=
  ⟨h.os, h.tape, h.output, Nat.le_trans h.size (by simp [World.setCell]), fun k hk hF =>
    (Below.heap_setCell w' p u k (fun e => hp.elim (fun hp => hF (e ▸ hp)) (fun hp => by omega))).trans (h.block k hk hF)⟩
theorem Fr.blk (h : Fr F w w') (hb : Blk w g t cs) (hF : ¬ F g) : Blk w' g t cs := (h.block g hb.lt hF).trans hb
theorem Fr.below (h : Fr F w w') {B : Nat} (hB : B ≤ w.heap.size) (hF : ∀ k, F k → B ≤ k) : Below B w w' :=
  ⟨h.os, h.tape, h.output, h.size, fun k hk => h.block k (by omega) (fun hf => by have := hF k hf; omega)⟩
theorem Fr.of_below (h : Below w.heap.size w w') : Fr F w w' := ⟨h.os, h.tape, h.output, h.size, fun k hk _ => h.block k hk⟩
theorem Fr.heap (h : Fr F w w') {o : Obj} (ho : w.heap[g]? = some o) (hF : ¬ F g) : w'.heap[g]? = some o :=
  (h.block g (Array.getElem?_eq_some_iff.1 ho).1 hF).trans ho
theorem FN.old (w w' : World) {k : Nat} (h : F k) : FN F w w' k := .inl h
theorem FN.not {k : Nat} (hk : k < w.heap.size) (h : ¬ F k) : ¬ FN F w w' k := fun hn => hn.elim h (fun ⟨h1, _⟩ => by omega)
theorem FN.lt (hF : ∀ k, F k → k < w.heap.size) (hs : w.heap.size ≤ w'.heap.size) : ∀ k, FN F w w' k → k < w'.heap.size :=
  fun k hk => hk.elim (fun h => Nat.lt_of_lt_of_le (hF k h) hs) (fun h => h.2)
theorem FN.trans (F : Nat → Prop) (h1 : w.heap.size ≤ w1.heap.size) (h2 : w1.heap.size ≤ w2.heap.size) : FN (FN F w w1) w1 w2 = FN F w w2 := by
  funext k
  apply propext
  constructor
  · rintro ((h | ⟨h, h'⟩) | ⟨h, h'⟩)
    · exact .inl h
    · exact .inr ⟨h, by omega⟩
    · exact .inr ⟨by omega, h'⟩
  · rintro (h | ⟨h, h'⟩)
    · exact .inl (.inl h)
    · by_cases hk : k < w1.heap.size
      · exact .inl (.inr ⟨h, hk⟩)
      · exact .inr ⟨by omega, h'⟩
theorem FN.mono {F G : Nat → Prop} (h : ∀ k, F k → G k) (w w' : World) : ∀ k, FN F w w' k → FN G w w' k := fun k hk => hk.elim (fun h' => .inl (h k h')) .inr
theorem FN.self (F : Nat → Prop) (w : World) : FN F w w = F := by
  funext k
  apply propext
  exact ⟨fun h => h.elim id (fun h => by omega), .inl⟩
end

theorem FN.later {F : Nat → Prop} {w w' w1 : World} (h : w.heap.size ≤ w'.heap.size) : ∀ k, FN F w' w1 k → FN F w w1 k := fun _ hk => hk.imp id (fun hk => ⟨by omega, hk.2⟩)
theorem FN.more {F : Nat → Prop} {w w1 w2 : World} (h : w1.heap.size ≤ w2.heap.size) : ∀ k, FN F w w1 k → FN F w w2 k := fun _ hk => hk.imp id (fun hk => ⟨hk.1, by omega⟩)
theorem FN.setCell (F : Nat → Prop) (w w1 : World) (a : Addr) (v : Value) : FN F w (w1.setCell a v) = FN F w w1 := by funext k; simp [FN, World.setCell]
theorem FN.drew (F : Nat → Prop) (w w1 : World) : FN F w w1.drew = FN F w w1 := rfl
theorem Fr.setCell' {F : Nat → Prop} {w w1 : World} (h : Fr F w w1) {p : Addr} (hp : FN F w w1 p.block) (u : Value) : Fr F w (w1.setCell p u) :=
  h.setCell (hp.imp id And.left) u
/-- No block. -/
def no : Nat → Prop := fun _ => False
theorem Fr.is_below {w w' : World} (h : Fr no w w') : Below w.heap.size w w' := h.below (Nat.le_refl _) (fun _ hk => hk.elim)
theorem no_not (k : Nat) : ¬ no k := fun h => h

/-! ### Two things that lie apart, all new since w0; beside them blocks K that neither has -/
/-- A thing in memory keeps its state where nothing of its own is turned. -/
def Stable (S : (Nat → Prop) → World → Prop) : Prop := ∀ F K w w', S F w → Fr K w w' → (∀ k, F k → ¬ K k) → S F w'
structure Two (w0 : World) (K : Nat → Prop) (S R : (Nat → Prop) → World → Prop) (w : World) : Prop where
  ex : ∃ F G : Nat → Prop, S F w ∧ R G w ∧ (∀ k, F k → ¬ G k) ∧ (∀ k, F k → w0.heap.size ≤ k ∧ k < w.heap.size) ∧ (∀ k, G k → w0.heap.size ≤ k ∧ k < w.heap.size) ∧ ∀ k, K k → ¬ F k ∧ ¬ G k ∧ k < w.heap.size
  fr : Fr no w0 w
/-- The blocks K lie as they lay. -/
def Kept (K : Nat → Prop) (w w' : World) : Prop := ∀ k, K k → w'.heap[k]? = w.heap[k]?
theorem Kept.blk {K : Nat → Prop} {w w' : World} (h : Kept K w w') {g : Nat} {t : TypeId} {cs : Array Value} (hb : Blk w g t cs) (hg : K g) : Blk w' g t cs := (h g hg).trans hb
theorem Fr.no_of {F : Nat → Prop} {w0 w w' : World} (h : Fr no w0 w) (hf : Fr F w w') (hF : ∀ k, F k → w0.heap.size ≤ k ∧ k < w.heap.size) : Fr no w0 w' :=
  h.trans (hf.mono fun k hk => .inr (hF k hk))
section
variable {P : Program} {w0 w w' : World} {K : Nat → Prop} {S S' R R' : (Nat → Prop) → World → Prop} {f : FuncId} {args : Array Value} {v : Value}
theorem Two.left_step (hR : Stable R) {F G : Nat → Prop} (hr : R G w) (hd : ∀ k, F k → ¬ G k) (hF : ∀ k, F k → w0.heap.size ≤ k ∧ k < w.heap.size) (hG : ∀ k, G k → w0.heap.size ≤ k ∧ k < w.heap.size)
    (hK : ∀ k, K k → ¬ F k ∧ ¬ G k ∧ k < w.heap.size) (hf : Fr no w0 w) (hs' : S' (FN F w w') w') (hfr : Fr F w w') : Two w0 K S' R w' ∧ Kept K w w' := by
  refine ⟨⟨⟨FN F w w', G, hs', hR G F w w' hr hfr (fun k hk hk' => hd k hk' hk), ?_, ?_, ?_, ?_⟩, hf.no_of hfr hF⟩, fun k hk => hfr.block k (hK k hk).2.2 (hK k hk).1⟩
  · rintro k (hk | ⟨hk, _⟩) hk'
    · exact hd k hk hk'
    · have := (hG k hk').2; omega
  · rintro k (hk | ⟨hk, hk'⟩)
    · exact ⟨(hF k hk).1, Nat.lt_of_lt_of_le (hF k hk).2 hfr.size⟩
    · exact ⟨Nat.le_trans hf.size hk, hk'⟩
  · exact fun k hk => ⟨(hG k hk).1, Nat.lt_of_lt_of_le (hG k hk).2 hfr.size⟩
  · exact fun k hk => ⟨FN.not (hK k hk).2.2 (hK k hk).1, (hK k hk).2.1, Nat.lt_of_lt_of_le (hK k hk).2.2 hfr.size⟩
theorem Two.swap (h : Two w0 K S R w) : Two w0 K R S w := by
  obtain ⟨⟨F, G, hs, hr, hd, hF, hG, hK⟩, hf⟩ := h
  exact ⟨⟨G, F, hr, hs, fun k hk hk' => hd k hk' hk, hG, hF, fun k hk => ⟨(hK k hk).2.1, (hK k hk).1, (hK k hk).2.2⟩⟩, hf⟩
theorem Two.left (h : Two w0 K S R w) (hR : Stable R)
    (hc : ∀ F, (∀ k, F k → k < w.heap.size) → S F w → Calls P f args w fun e w' => e = .returned v ∧ S' (FN F w w') w' ∧ Fr F w w') :
    Calls P f args w fun e w' => e = .returned v ∧ Two w0 K S' R w' ∧ Kept K w w' := by
  obtain ⟨⟨F, G, hs, hr, hd, hF, hG, hK⟩, hf⟩ := h
  refine (hc F (fun k hk => (hF k hk).2) hs).mono ?_
  rintro e w' ⟨rfl, hs', hfr⟩
  exact ⟨rfl, Two.left_step hR hr hd hF hG hK hf hs' hfr⟩
theorem Two.right (h : Two w0 K S R w) (hS : Stable S)
    (hc : ∀ F, (∀ k, F k → k < w.heap.size) → R F w → Calls P f args w fun e w' => e = .returned v ∧ R' (FN F w w') w' ∧ Fr F w w') :
    Calls P f args w fun e w' => e = .returned v ∧ Two w0 K S R' w' ∧ Kept K w w' :=
  (h.swap.left hS hc).mono fun e w' ⟨he, h1, h2⟩ => ⟨he, h1.swap, h2⟩
/-- The first thing is made, then the second one. -/
theorem Two.mk2 {w1 w2 : World} (hs : S (FN no w0 w1) w1) (hf : Fr no w0 w1) (hr : R (FN no w1 w2) w2) (hf2 : Fr no w1 w2) (hS : Stable S) : Two w0 no S R w2 :=
  ⟨⟨FN no w0 w1, FN no w1 w2, hS _ no w1 w2 hs hf2 (fun k _ => no_not k), hr, fun k hk hk' => by
      rcases hk with hk | ⟨_, hk⟩
      · exact hk
      · rcases hk' with hk' | ⟨hk', _⟩
        · exact hk'
        · omega,
    fun k hk => hk.elim (fun h => h.elim) (fun h => ⟨h.1, Nat.lt_of_lt_of_le h.2 hf2.size⟩), fun k hk => hk.elim (fun h => h.elim) (fun h => ⟨Nat.le_trans hf.size h.1, h.2⟩), fun k hk => hk.elim⟩, hf.trans' hf2⟩
/-- Whatever turns nothing old leaves both. -/
theorem Two.keep (h : Two w0 K S R w) (hS : Stable S) (hR : Stable R) (hf : Fr no w w') : Two w0 K S R w' := by
  obtain ⟨⟨F, G, hs, hr, hd, hF, hG, hK⟩, hf0⟩ := h
  exact ⟨⟨F, G, hS F no w w' hs hf (fun k _ => no_not k), hR G no w w' hr hf (fun k _ => no_not k), hd, fun k hk => ⟨(hF k hk).1, Nat.lt_of_lt_of_le (hF k hk).2 hf.size⟩, fun k hk => ⟨(hG k hk).1, Nat.lt_of_lt_of_le (hG k hk).2 hf.size⟩,
    fun k hk => ⟨(hK k hk).1, (hK k hk).2.1, Nat.lt_of_lt_of_le (hK k hk).2.2 hf.size⟩⟩, hf0.trans' hf⟩
/-- A new block beside both. -/
theorem Two.box (h : Two w0 K S R w) (hS : Stable S) (hR : Stable R) (o : Obj) : Two w0 (fun k => k = w.heap.size) S R (w.alloc o) := by
  have hf : Fr no w (w.alloc o) := (Fr.refl no w).alloc o
  have h2 := h.keep hS hR hf
  obtain ⟨⟨F, G, hs, hr, hd, hF, hG, hK⟩, hf0⟩ := h
  exact ⟨⟨F, G, hS F no w _ hs hf (fun k _ => no_not k), hR G no w _ hr hf (fun k _ => no_not k), hd, fun k hk => ⟨(hF k hk).1, Nat.lt_of_lt_of_le (hF k hk).2 hf.size⟩, fun k hk => ⟨(hG k hk).1, Nat.lt_of_lt_of_le (hG k hk).2 hf.size⟩,
    fun k hk => by subst hk; exact ⟨fun h => by have := (hF _ h).2; omega, fun h => by have := (hG _ h).2; omega, by simp⟩⟩, hf0.trans' hf⟩
theorem Two.weak {K' : Nat → Prop} (h : Two w0 K S R w) (hk : ∀ k, K' k → K k) : Two w0 K' S R w := by
  obtain ⟨⟨F, G, hs, hr, hd, hF, hG, hK⟩, hf0⟩ := h
  exact ⟨⟨F, G, hs, hr, hd, hF, hG, fun k h => hK k (hk k h)⟩, hf0⟩
theorem Two.drew (h : Two w0 K S R w) (hS : Stable S) (hR : Stable R) : Two w0 K S R w.drew := h.keep hS hR (Fr.refl no w).drew
end

end Go.Proofs.Ytkilibdalgnghaa
