/-
  Arguments opened: a slice of structs of whole numbers reads as rows of numbers. No condition.
-/
import Derived.Test.YtkilibdalgnghaaRow
import Derived.Deep.Slices
import Derived.Deep.Fields
import Derived.ChangeSame
import Derived.Lib.SmallJoins
namespace Go.Proofs.Ytkilibdalgnghaa
set_option linter.unusedVariables false
set_option linter.unusedSimpArgs false
open Go.RowKit Go.WideShapes Go.ChangeShapes Go.ChangeAt Go.Deep Go.Joins

section
variable {H : Type} {enc : TypeId × Value → H} {P : Program} {w : World} {base : Nat} {spare : Nat → Bool} {held : Bool}
theorem open_slice_fields {t e : TypeId} {fs : Array Field} {fuel : Nat} {cs : List Value} {x : DataW H × List MemPlace} (ht : P.underlying t = some (.slice e)) (he : P.underlying e = some (.struct fs))
    (hone : oneCellFields P fs = true) (hC : P.cellsOf e = fs.size) (h : DataW.trod enc P w base spare held fuel t cs = some x) :
    (cs = [.slice none 0 0] ∧ x = (.nil, [])) ∨
    ∃ (a : Addr) (len cap m : Nat) (D : Nat → DataW H) (Pl : Nat → List MemPlace), cs = [.slice (some a) len cap] ∧ base ≤ a.block ∧ len ≤ cap ∧ cap ≤ maxLen ∧ m = (if spare a.block then cap else len) ∧
      x = (.slice ((List.range len).map D) ((List.range (m - len)).map fun j => D (len + j)), MemPlace.row a (m * fs.size) ++ (List.range m).flatMap Pl) ∧
      ∀ i, i < m → ∃ (ys : List (DataW H × List MemPlace)) (n : Nat), D i = .agg (ys.map (·.1)) ∧ Pl i = ys.flatMap (·.2) ∧ ys.length = fs.size ∧
        ∀ (j : Nat) (f : Field), fs[j]? = some f → ∃ (v : Value) (y : DataW H × List MemPlace), w.cell? (a.add (i * fs.size + j)) = some v ∧ ys[j]? = some y ∧ DataW.trod enc P w base spare held n f.type [v] = some y := by
  rcases open_slice ht h with h0 | ⟨a, len, cap, m, n, D, Pl, hcs, hb, hl, hm, hmm, hx, hi⟩
  · exact .inl h0
  · refine .inr ⟨a, len, cap, m, D, Pl, hcs, hb, hl, hm, hmm, by rw [hC] at hx; exact hx, fun i him => ?_⟩
    obtain ⟨cs', hc, ht'⟩ := hi i him
    rw [hC] at hc
    obtain ⟨ys, n', hn', hy, hlen, hyl, hf⟩ := DataW.trod_struct he ht'
    obtain ⟨_, hcl, hat⟩ := World.cells?_some hc
    simp only [Prod.mk.injEq] at hy
    refine ⟨ys, n', hy.1, hy.2, hyl, fun j f hj => ?_⟩
    obtain ⟨ho, hk⟩ := hone_of hone j f hj
    have hjl : j < fs.size := (Array.getElem?_eq_some_iff.1 hj).1
    have hcell := hat j hjl
    have hv : cs'[j]? = some (cs'[j]'(by omega)) := List.getElem?_eq_getElem (by omega)
    have h1 := hf j f hj
    rw [ho, hk] at h1
    have hone' : (cs'.drop j).take 1 = [cs'[j]'(by omega)] := by
      rw [List.drop_eq_getElem_cons (by omega)]
      rfl
    rw [hone'] at h1
    have hys : ys[j]? = some (ys[j]'(by omega)) := List.getElem?_eq_getElem (by omega)
    refine ⟨_, _, ?_, hys, h1.trans hys⟩
    rw [← Go.Deep.add_add, hcell, hv]
end

/-- A slice whose elements are rows of size cells: the cell j of element i reads as X i j; n elements; all below block B. -/
structure RowsAt (w : World) (B size : Nat) (A : Option Addr) (n : Nat) (X : Nat → Nat → Value) : Prop where
  small : (n : Int) ≤ 9223372036854775807
  at_ : 0 < n → ∃ g o, A = some ⟨g, o, none⟩ ∧ g < B ∧ ∀ i j, i < n → j < size → w.cell? ⟨g, o + i * size + j, none⟩ = some (X i j)
theorem RowsAt.keep {w w' : World} {B size n : Nat} {A : Option Addr} {X : Nat → Nat → Value} (h : RowsAt w B size A n X) (hb : Below B w w') : RowsAt w' B size A n X :=
  ⟨h.small, fun hn => by
    obtain ⟨g, o, e, hg, hc⟩ := h.at_ hn
    exact ⟨g, o, e, hg, fun i j hi hj => (hb.cell (p := ⟨g, o + i * size + j, none⟩) hg).trans (hc i j hi hj)⟩⟩

/-- Elements of whole numbers of kind int64, five each. -/
def int5 (f : Nat → Nat → Int) : Nat → Nat → Value := fun i j => .int .i64 (f i j)

theorem addr_of_cell {w : World} {a : Addr} {v : Value} (h : w.cell? a = some v) : a = ⟨a.block, a.off, none⟩ ∧ a.block < w.heap.size := by
  unfold World.cell? at h
  cases ho : w.heap[a.block]? with
  | none => simp [ho] at h
  | some o =>
    have hlt : a.block < w.heap.size := (Array.getElem?_eq_some_iff.1 ho).1
    cases o <;> simp [ho] at h
    obtain ⟨b, off, spot⟩ := a
    simp at h
    exact ⟨by simp [h.1], hlt⟩

section
variable {H : Type} {enc : TypeId × Value → H} {P : Program} {w : World} {base : Nat} {spare : Nat → Bool} {held : Bool}
def isI64 (P : Program) (t : TypeId) : Bool := match P.underlying t with | some (.int .i64) => true | _ => false
theorem isI64_spec {t : TypeId} (h : isI64 P t = true) : P.underlying t = some (.int .i64) := by
  unfold isI64 at h
  split at h
  · assumption
  · cases h
/-- A slice of structs of int64 fields opens to rows of numbers. -/
theorem open_int_structs (size : Nat) {r : Reach} {b0 : Nat} {t e : TypeId} {fs : Array Field} {v : Value} {d : DataW H} {ps : List MemPlace} (ht : P.underlying t = some (.slice e)) (he : P.underlying e = some (.struct fs))
    (hone : oneCellFields P fs = true) (hC : P.cellsOf e = fs.size) (hsz : fs.size = size) (hz : 0 < size) (hkb : (fs.all fun f => isI64 P f.type) = true)
    (hok : Value.okWide P w r b0 t v) (h : DataW.Trod enc P w base spare held t v d ps) :
    ∃ (A : Option Addr) (n c : Nat) (f : Nat → Nat → Int), v = .slice A n c ∧ RowsAt w w.heap.size size A n (int5 f) ∧ ∀ i j, (Lit.int .i64 (f i j)).wf = true := by
  subst hsz
  have hk : ∀ (j : Nat) (f : Field), fs[j]? = some f → P.underlying f.type = some (.int .i64) := fun j f hj =>
    isI64_spec (Array.all_eq_true'.1 hkb f (Array.mem_of_getElem? hj))
  obtain ⟨a, len, cap, rfl⟩ := okWide_slice ht hok
  obtain ⟨fuel, hf⟩ := h
  simp only [Value.cells] at hf
  rcases open_slice_fields ht he hone hC hf with ⟨h0, _⟩ | ⟨a', len', cap', m, D, Pl, h0, hb, hl, hm, hmm, hx, hi⟩
  · obtain ⟨rfl, rfl, rfl⟩ : a = none ∧ len = 0 ∧ cap = 0 := by simpa using h0
    exact ⟨none, 0, 0, fun _ _ => 0, rfl, ⟨by omega, fun h => by omega⟩, fun _ _ => rfl⟩
  · obtain ⟨rfl, rfl, rfl⟩ : a = some a' ∧ len = len' ∧ cap = cap' := by simpa using h0
    have hlm : len ≤ m := by rw [hmm]; split <;> omega
    have cell : ∀ i j, i < len → j < fs.size → ∃ z : Int, w.cell? (a'.add (i * fs.size + j)) = some (.int .i64 z) ∧ (Lit.int .i64 z).wf = true := by
      intro i j hil hj
      obtain ⟨ys, n, _, _, _, hcell⟩ := hi i (by omega)
      obtain ⟨v, y, hc, _, ht⟩ := hcell j fs[j] (Array.getElem?_eq_getElem hj)
      obtain ⟨z, hz, _, hw⟩ := DataW.trod_int (hk j _ (Array.getElem?_eq_getElem hj)) ht
      have : v = .int .i64 z := by simpa using hz
      subst this
      exact ⟨z, hc, hw⟩
    obtain ⟨f, hf1, hf2⟩ : ∃ f : Nat → Nat → Int, (∀ i j, i < len → j < fs.size → w.cell? (a'.add (i * fs.size + j)) = some (.int .i64 (f i j))) ∧ ∀ i j, (Lit.int .i64 (f i j)).wf = true := by
      refine ⟨fun i j => if h : i < len ∧ j < fs.size then (cell i j h.1 h.2).choose else 0, fun i j hil hj => ?_, fun i j => ?_⟩
      · dsimp only
        rw [dif_pos ⟨hil, hj⟩]
        exact (cell i j hil hj).choose_spec.1
      · dsimp only
        split
        · rename_i h
          exact (cell i j h.1 h.2).choose_spec.2
        · rfl
    refine ⟨some a', len, cap, f, rfl, ⟨by unfold maxLen at hm; omega, fun hn => ?_⟩, hf2⟩
    obtain ⟨ab, ao, asp⟩ := a'
    have hz0 := hf1 0 0 hn hz
    rw [show (⟨ab, ao, asp⟩ : Addr).add (0 * fs.size + 0) = ⟨ab, ao, asp⟩ by simp [Addr.add]] at hz0
    obtain ⟨ha, hlt⟩ := addr_of_cell hz0
    obtain rfl : asp = none := by simpa using ha
    refine ⟨ab, ao, rfl, hlt, fun i j hil hj => ?_⟩
    have hadd : (⟨ab, ao, none⟩ : Addr).add (i * fs.size + j) = ⟨ab, ao + (i * fs.size + j), none⟩ := by
      unfold Addr.add
      split
      · rename_i h0
        rw [h0]
        rfl
      · rfl
    rw [show ao + i * fs.size + j = ao + (i * fs.size + j) by omega, ← hadd]
    exact hf1 i j hil hj
end
end Go.Proofs.Ytkilibdalgnghaa
