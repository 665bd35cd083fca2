/-
  Plain facts on the tally's numbers. No program.
-/
import Derived.Test.YtkilibdalgnghaaLaw12
namespace Go.Proofs.Ytkilibdalgnghaa
set_option linter.unusedVariables false
set_option linter.unusedSimpArgs false
open Go.RowKit

theorem ldv_stv {l : List Int} {i p v : Int} (hi : inB l i = true) : ldv (stv l i v) p = if p = i then v else ldv l p := by
  have h1 := inB_true.1 hi
  by_cases hp : p = i
  · subst hp
    rw [if_pos rfl, stv, if_pos hi, ldv_set_eq hi]
  · rw [if_neg hp]
    by_cases h0 : p < 0
    · have e : ∀ l : List Int, inB l p = false := fun l => by simp [inB]; omega
      simp [ldv, e]
    · exact ldv_stv_ne (by omega)
theorem ldv_addK {L : List Int} {i : Int} {c : Nat → Int} (h0 : 0 ≤ i) (k : Nat) (hk : i * 6 + k ≤ L.length) : ∀ p : Int,
    ldv (addK L i c k) p = if i * 6 ≤ p ∧ p < i * 6 + k then wrap64 (ldv L p + wrap64 (c (p - i * 6).toNat)) else ldv L p := by
  induction k with
  | zero => intro p; rw [if_neg (by omega)]; rfl
  | succ k ih =>
    have ih := ih (by omega)
    intro p
    have hi : inB (addK L i c k) (i * 6 + k) = true := inB_true.2 ⟨by omega, by rw [addK_length]; omega⟩
    rw [addK, ldv_stv hi]
    by_cases hp : p = i * 6 + k
    · subst hp
      rw [if_pos rfl, if_pos ⟨by omega, by omega⟩, adv, if_pos hi, ih, if_neg (by omega), show (i * 6 + (k : Int) - i * 6).toNat = k by omega]
    · rw [if_neg hp, ih]
      by_cases hc : i * 6 ≤ p ∧ p < i * 6 + k
      · rw [if_pos hc, if_pos ⟨hc.1, by omega⟩]
      · rw [if_neg hc, if_neg (by omega)]

/-- 64-bit wraps of sums. -/
theorem uw (x : Int) : IntKind.u64.wrap x = x % 18446744073709551616 := by simp [IntKind.wrap, IntKind.signed, IntKind.bits]
theorem wm (x : Int) : wrap64 x % 18446744073709551616 = x % 18446744073709551616 := by unfold wrap64; omega
/-- A queue's count when one was noted. -/
theorem rowC_add {L : List Int} {i j : Int} {c : Nat → Int} {k : Nat} (h0 : 0 ≤ i) (hl : i * 6 + 6 ≤ L.length) (hk : k < 6) : rowC (addK L i c 6) j k = if j = i then (rowC L i k + c k) % 18446744073709551616 else rowC L j k := by
  unfold rowC
  rw [ldv_addK h0 6 (by omega)]
  by_cases hj : j = i
  · subst hj
    rw [if_pos ⟨by omega, by omega⟩, if_pos rfl, uw, uw, wm, show (j * 6 + (k : Int) - j * 6).toNat = k by omega]
    have := wm (c k)
    omega
  · rw [if_neg (by omega), if_neg hj]
end Go.Proofs.Ytkilibdalgnghaa
