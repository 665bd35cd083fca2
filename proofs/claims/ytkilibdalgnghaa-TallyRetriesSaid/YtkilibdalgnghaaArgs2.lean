/-
  Arguments opened: structs, arrays and slices of these, whatever is nested, whose leaves are whole numbers. No condition.
-/
import Derived.Test.YtkilibdalgnghaaArgs
namespace Go.Proofs.Ytkilibdalgnghaa
set_option linter.unusedVariables false
set_option linter.unusedSimpArgs false
open Go.RowKit Go.WideShapes Go.ChangeShapes Go.ChangeAt Go.Deep Go.Joins

/-- The whole numbers in a type's cells: where, of which kind. -/
def leaves (P : Program) : Nat → TypeId → Nat → Option (List (Nat × IntKind))
  | 0, _, _ => none
  | n + 1, t, o => match P.underlying t with
    | some (.int k) => some [(o, k)]
    | some (.struct fs) => (fs.toList.mapM fun f => leaves P n f.type (o + f.offset)).map List.flatten
    | some (.array m e) => ((List.range m).mapM fun i => leaves P n e (o + i * P.cellsOf e)).map List.flatten
    | _ => none

theorem mapM_mem {α β : Type} {f : α → Option β} : ∀ {xs : List α} {ys : List β}, xs.mapM f = some ys → ∀ y ∈ ys, ∃ (i : Nat) (x : α), xs[i]? = some x ∧ f x = some y
  | [], ys, h => by simp at h; subst h; simp
  | a :: xs, ys, h => by
    simp only [List.mapM_cons, Option.bind_eq_bind, Option.bind_eq_some_iff, Option.pure_def, Option.some.injEq] at h
    obtain ⟨b, hb, bs, hbs, rfl⟩ := h
    intro y hy
    rcases List.mem_cons.1 hy with rfl | hy
    · exact ⟨0, a, rfl, hb⟩
    · obtain ⟨i, x, hi, hx⟩ := mapM_mem hbs y hy
      exact ⟨i + 1, x, hi, hx⟩

section
variable {H : Type} {enc : TypeId × Value → H} {P : Program} {w : World} {base : Nat} {spare : Nat → Bool} {held : Bool}
theorem sub_drop {CS cs : List Value} {o d k : Nat} (h : ∀ j v, cs[j]? = some v → CS[o + j]? = some v) : ∀ j v, ((cs.drop d).take k)[j]? = some v → CS[o + d + j]? = some v := by
  intro j v hj
  rw [List.getElem?_take] at hj
  split at hj
  · rw [List.getElem?_drop] at hj
    rw [Nat.add_assoc]
    exact h _ _ hj
  · cases hj
theorem trod_leaves (CS : List Value) : ∀ (n : Nat) (t : TypeId) (o : Nat) (L : List (Nat × IntKind)) (fuel : Nat) (cs : List Value) (x : DataW H × List MemPlace), leaves P n t o = some L →
    (∀ j v, cs[j]? = some v → CS[o + j]? = some v) → DataW.trod enc P w base spare held fuel t cs = some x → ∀ q ∈ L, ∃ z, CS[q.1]? = some (Value.int q.2 z) ∧ (Lit.int q.2 z).wf = true
  | 0, _, _, _, _, _, _, h, _, _ => by simp [leaves] at h
  | n + 1, t, o, L, fuel, cs, x, hL, hs, h => by
    unfold leaves at hL
    split at hL
    · rename_i k hk
      obtain ⟨z, hz, _, hw⟩ := DataW.trod_int hk h
      have : L = [(o, k)] := by simpa using hL.symm
      subst this
      intro q hq
      have : q = (o, k) := by simpa using hq
      subst this
      exact ⟨z, by simpa using hs 0 (.int k z) (by simp [hz]), hw⟩
    · rename_i fs hfs
      obtain ⟨ys, m, _, _, _, hyl, hg⟩ := DataW.trod_struct hfs h
      simp only [Option.map_eq_some_iff] at hL
      obtain ⟨LL, hLL, rfl⟩ := hL
      intro q hq
      obtain ⟨l, hl, hq⟩ := List.mem_flatten.1 hq
      obtain ⟨i, f, hi, hf⟩ := mapM_mem hLL l hl
      have hi' : fs[i]? = some f := by simpa using hi
      have hy : ys[i]? = some (ys[i]'(by have := (Array.getElem?_eq_some_iff.1 hi').1; omega)) := List.getElem?_eq_getElem _
      exact trod_leaves CS n f.type _ l m _ _ hf (sub_drop hs) ((hg i f hi').trans hy) q hq
    · rename_i m' e he
      obtain ⟨ys, m, _, _, _, hyl, hg⟩ := DataW.trod_array he h
      simp only [Option.map_eq_some_iff] at hL
      obtain ⟨LL, hLL, rfl⟩ := hL
      intro q hq
      obtain ⟨l, hl, hq⟩ := List.mem_flatten.1 hq
      obtain ⟨i, f, hi, hf⟩ := mapM_mem hLL l hl
      have him : i < m' ∧ f = i := by
        have h1 := List.getElem?_eq_some_iff.1 hi
        obtain ⟨h2, h3⟩ := h1
        simp at h2 h3
        exact ⟨h2, h3.symm⟩
      obtain ⟨him, rfl⟩ := him
      have hy : ys[f]? = some (ys[f]'(by omega)) := List.getElem?_eq_getElem _
      exact trod_leaves CS n e _ l m _ _ hf (sub_drop hs) ((hg f him).trans hy) q hq
    · cases hL

/-- Cells of whole numbers of these kinds. -/
def kcells (f : Nat → Int) : Nat → List IntKind → List Value
  | _, [] => []
  | i, k :: ks => .int k (f i) :: kcells f (i + 1) ks
theorem kcells_length (f : Nat → Int) : ∀ (i : Nat) (K : List IntKind), (kcells f i K).length = K.length
  | _, [] => rfl
  | i, _ :: ks => by simp [kcells, kcells_length f (i + 1) ks]
theorem kcells_get (f : Nat → Int) : ∀ (i : Nat) (K : List IntKind) (j : Nat), (kcells f i K)[j]? = K[j]?.map fun k => .int k (f (i + j))
  | _, [], j => by simp [kcells]
  | i, k :: ks, 0 => by simp [kcells]
  | i, k :: ks, j + 1 => by simp [kcells, kcells_get f (i + 1) ks j, Nat.add_assoc, Nat.add_comm 1 j]
def kplaces : Nat → List IntKind → List (Nat × IntKind)
  | _, [] => []
  | i, k :: ks => (i, k) :: kplaces (i + 1) ks
theorem kplaces_mem : ∀ (i : Nat) (K : List IntKind) (j : Nat) (k : IntKind), K[j]? = some k → (i + j, k) ∈ kplaces i K
  | _, [], j, k, h => by simp at h
  | i, k' :: ks, 0, k, h => by simp at h; simp [kplaces, h]
  | i, k' :: ks, j + 1, k, h => by
    have := kplaces_mem (i + 1) ks j k (by simpa using h)
    simp only [kplaces, List.mem_cons]
    right
    rwa [show i + (j + 1) = i + 1 + j by omega]

/-- A value of these leaves. -/
theorem cells_leaves {K : List IntKind} {t : TypeId} {n fuel : Nat} {cs : List Value} {x : DataW H × List MemPlace} (hL : leaves P n t 0 = some (kplaces 0 K)) (hl : cs.length = K.length) (h : DataW.trod enc P w base spare held fuel t cs = some x) :
    ∃ f : Nat → Int, cs = kcells f 0 K ∧ ∀ i k, K[i]? = some k → (Lit.int k (f i)).wf = true := by
  have H0 := trod_leaves cs n t 0 _ fuel cs x hL (fun j v hj => by rwa [Nat.zero_add]) h
  have H1 : ∀ i k, K[i]? = some k → ∃ z, cs[i]? = some (Value.int k z) ∧ (Lit.int k z).wf = true := fun i k hk => by
    have := H0 _ (kplaces_mem 0 K i k hk)
    simpa using this
  refine ⟨fun i => match cs[i]? with | some (.int _ z) => z | _ => 0, ?_, ?_⟩
  · refine List.ext_getElem? fun j => ?_
    rw [kcells_get]
    cases hk : K[j]? with
    | none => simp only [Option.map_none]; rw [List.getElem?_eq_none_iff] at hk ⊢; omega
    | some k =>
      obtain ⟨z, hz, _⟩ := H1 j k hk
      simp [hz]
  · intro i k hk
    obtain ⟨z, hz, hw⟩ := H1 i k hk
    simp only [hz]
    exact hw

theorem okWide_array {r : Reach} {b0 m : Nat} {t e : TypeId} {v : Value} (ht : P.underlying t = some (.array m e)) (h : Value.okWide P w r b0 t v) : ∃ cs, v = .agg cs ∧ cs.size = P.cellsOf t := by
  simp only [Value.okWide, ht] at h
  obtain ⟨cs, h1, h2, _⟩ := h
  exact ⟨cs, h1, h2⟩

def isAgg (P : Program) (t : TypeId) : Bool := match P.underlying t with | some (.struct _) => true | some (.array ..) => true | _ => false
/-- A struct or an array of whole numbers. -/
theorem open_flat (K : List IntKind) (n : Nat) {r : Reach} {b0 : Nat} {t : TypeId} {v : Value} {d : DataW H} {ps : List MemPlace} (ha : isAgg P t = true) (hL : leaves P n t 0 = some (kplaces 0 K)) (hC : P.cellsOf t = K.length)
    (hok : Value.okWide P w r b0 t v) (h : DataW.Trod enc P w base spare held t v d ps) : ∃ f : Nat → Int, v = .agg ⟨kcells f 0 K⟩ ∧ ∀ i k, K[i]? = some k → (Lit.int k (f i)).wf = true := by
  have : ∃ cs, v = .agg cs ∧ cs.size = P.cellsOf t := by
    unfold isAgg at ha
    split at ha
    · rename_i hs; exact okWide_struct hs hok
    · rename_i hs; exact okWide_array hs hok
    · cases ha
  obtain ⟨⟨cs⟩, rfl, hsz⟩ := this
  obtain ⟨fuel, hf⟩ := h
  obtain ⟨f, hf1, hf2⟩ := cells_leaves hL (by rw [← hC]; exact hsz) hf
  have hcs : cs = kcells f 0 K := hf1
  exact ⟨f, by rw [hcs], hf2⟩

/-- Rows of whole numbers of these kinds. -/
def krow (K : List IntKind) (f : Nat → Nat → Int) : Nat → Nat → Value := fun i j => .int (K.getD j .i64) (f i j)
/-- A slice of structs or arrays of whole numbers opens to rows. -/
theorem open_flats (K : List IntKind) (n : Nat) {r : Reach} {b0 : Nat} {t e : TypeId} {v : Value} {d : DataW H} {ps : List MemPlace} (ht : P.underlying t = some (.slice e)) (hL : leaves P n e 0 = some (kplaces 0 K)) (hC : P.cellsOf e = K.length) (hz : 0 < K.length)
    (hok : Value.okWide P w r b0 t v) (h : DataW.Trod enc P w base spare held t v d ps) :
    ∃ (A : Option Addr) (n c : Nat) (f : Nat → Nat → Int), v = .slice A n c ∧ RowsAt w w.heap.size K.length A n (krow K f) ∧ ∀ i j k, K[j]? = some k → (Lit.int k (f i j)).wf = true := by
  obtain ⟨a, len, cap, rfl⟩ := okWide_slice ht hok
  obtain ⟨fuel, hf⟩ := h
  simp only [Value.cells] at hf
  rcases open_slice ht hf with ⟨h0, _⟩ | ⟨a', len', cap', m, n', D, Pl, h0, hb, hl, hm, hmm, hx, hi⟩
  · obtain ⟨rfl, rfl, rfl⟩ : a = none ∧ len = 0 ∧ cap = 0 := by simpa using h0
    exact ⟨none, 0, 0, fun _ _ => 0, rfl, ⟨by omega, fun h => by omega⟩, fun _ _ k _ => by cases k <;> rfl⟩
  · obtain ⟨rfl, rfl, rfl⟩ : a = some a' ∧ len = len' ∧ cap = cap' := by simpa using h0
    have hlm : len ≤ m := by rw [hmm]; split <;> omega
    have row : ∀ i, i < len → ∃ f : Nat → Int, (∀ j k, K[j]? = some k → w.cell? (a'.add (i * K.length + j)) = some (.int k (f j))) ∧ ∀ j k, K[j]? = some k → (Lit.int k (f j)).wf = true := by
      intro i hil
      obtain ⟨cs', hc, htr⟩ := hi i (by omega)
      rw [hC] at hc
      obtain ⟨_, hcl, hat⟩ := World.cells?_some hc
      obtain ⟨f, hf1, hf2⟩ := cells_leaves hL hcl htr
      refine ⟨f, fun j k hk => ?_, hf2⟩
      have hjl : j < K.length := (List.getElem?_eq_some_iff.1 hk).1
      have := hat j hjl
      rw [← Go.Deep.add_add, this, hf1, kcells_get, hk]
      simp
    obtain ⟨f, hf1, hf2⟩ : ∃ f : Nat → Nat → Int, (∀ i j k, i < len → K[j]? = some k → w.cell? (a'.add (i * K.length + j)) = some (.int k (f i j))) ∧ ∀ i j k, K[j]? = some k → (Lit.int k (f i j)).wf = true := by
      refine ⟨fun i j => if h : i < len then (row i h).choose j else 0, fun i j k hil hk => ?_, fun i j k hk => ?_⟩
      · dsimp only
        rw [dif_pos hil]
        exact (row i hil).choose_spec.1 j k hk
      · dsimp only
        split
        · rename_i h
          exact (row i h).choose_spec.2 j k hk
        · cases k <;> rfl
    refine ⟨some a', len, cap, f, rfl, ⟨by unfold maxLen at hm; omega, fun hn => ?_⟩, hf2⟩
    obtain ⟨ab, ao, asp⟩ := a'
    have hz0 := hf1 0 0 _ hn (List.getElem?_eq_getElem hz)
    rw [show (⟨ab, ao, asp⟩ : Addr).add (0 * K.length + 0) = ⟨ab, ao, asp⟩ by simp [Addr.add]] at hz0
    obtain ⟨ha, hlt⟩ := addr_of_cell hz0
    obtain rfl : asp = none := by simpa using ha
    refine ⟨ab, ao, rfl, hlt, fun i j hil hj => ?_⟩
    have hadd : (⟨ab, ao, none⟩ : Addr).add (i * K.length + j) = ⟨ab, ao + (i * K.length + j), none⟩ := by
      unfold Addr.add
      split
      · rename_i h0
        rw [h0]
        rfl
      · rfl
    have hk : K[j]? = some (K.getD j .i64) := by simp [List.getD, List.getElem?_eq_getElem hj]
    rw [show ao + i * K.length + j = ao + (i * K.length + j) by omega, ← hadd]
    exact hf1 i j _ hil hk
end
end Go.Proofs.Ytkilibdalgnghaa
