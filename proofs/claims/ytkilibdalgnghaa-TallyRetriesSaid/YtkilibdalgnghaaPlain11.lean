/-
  Plain facts on the numbers of cells: a change of one place is none of another one. No program.
-/
import Derived.Test.YtkilibdalgnghaaCells4
namespace Go.Proofs.Ytkilibdalgnghaa
set_option linter.unusedVariables false
set_option linter.unusedSimpArgs false

theorem inB_set {l : List Int} {i k v : Int} : inB (l.set i.toNat v) k = inB l k := by simp [inB]
theorem ldv_set_ne {l : List Int} {i k v : Int} (h : i.toNat ≠ k.toNat) : ldv (l.set i.toNat v) k = ldv l k := by
  simp [ldv, inB_set, List.getD, List.getElem?_set_ne h]
theorem ldv_set_eq {l : List Int} {i v : Int} (h : inB l i = true) : ldv (l.set i.toNat v) i = v := by
  have h1 := inB_true.1 h
  simp only [ldv, inB_set, h, if_true]
  rw [List.getD, List.getElem?_set_self (by omega)]
  rfl
theorem inB_rep0 {n : Nat} {i : Int} (h0 : 0 ≤ i) (h1 : i < n) : inB (rep0 n) i = true := inB_true.2 ⟨h0, by rw [rep0_length]; exact h1⟩
theorem ldv_rep0 (n : Nat) (i : Int) : ldv (rep0 n) i = 0 := by
  unfold ldv
  split
  · rename_i h
    have := inB_true.1 h
    rw [rep0_length] at this
    rw [List.getD, rep0_get n i.toNat (by omega)]
    rfl
  · rfl
theorem ldv_stv_ne {l : List Int} {i k v : Int} (h : i.toNat ≠ k.toNat) : ldv (stv l i v) k = ldv l k := by
  unfold stv
  split
  · exact ldv_set_ne h
  · rfl
theorem inB_stv {l : List Int} {i k v : Int} : inB (stv l i v) k = inB l k := by
  unfold stv
  split
  · exact inB_set
  · rfl
theorem ldv_tuv_ne {l : List Int} {i k a o u : Int} (h : i.toNat ≠ k.toNat) : ldv (tuv l i a o u) k = ldv l k := by
  unfold tuv
  split
  · exact ldv_set_ne h
  · rfl
theorem inB_tuv {l : List Int} {i k a o u : Int} : inB (tuv l i a o u) k = inB l k := by
  unfold tuv
  split
  · exact inB_set
  · rfl
theorem ldv_spv_ne {l : List Int} {i k o : Int} (h : i.toNat ≠ k.toNat) : ldv (spv l i o) k = ldv l k := by
  unfold spv
  split
  · exact ldv_set_ne h
  · rfl
theorem inB_spv {l : List Int} {i k o : Int} : inB (spv l i o) k = inB l k := by
  unfold spv
  split
  · exact inB_set
  · rfl
end Go.Proofs.Ytkilibdalgnghaa
