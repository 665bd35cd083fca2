/-
  The tally: isOpen, Shut, Add.
-/
import Derived.Test.YtkilibdalgnghaaTally
namespace Go.Proofs.Ytkilibdalgnghaa
set_option linter.unusedVariables false
set_option linter.unusedSimpArgs false
open Go.RowKit Go.Shelf

section
variable (F : Nat → Prop) (w : World) (tb cb q : Nat) (L0 L2 : List Int) (i : Int)
/-- Is the count odd? -/
def oddB (l : List Int) (i : Int) : Bool := ldv l i % 2 == 1
theorem tIsOpen_in (h : TAt F w tb cb q L0 L2) (hi : inB L2 i = true) : Calls Try.prog 79 #[.pointer (some ⟨tb, 0, none⟩), .int .i64 i] w (TPost F w tb cb q (.bool (oddB L2 i)) L0 L2) := by
  have d0 := h.blk.cell 0
  simp only [List.getElem?_toArray, List.getElem?_cons_succ, List.getElem?_cons_zero] at d0
  have HG := Lib.hid (h.go (v := .tuple #[.int .i64 (bgv L2 i), .int .i64 (bgE L2 i)]) (L0' := L0) (L2' := L2) (fun F w _ hc => cBegin_any F w cb _ _ _ i hc) rfl rfl)
  have e1 : bgE L2 i = if oddB L2 i then 111 else 0 := by simp [bgE, hi, oddB]
  clear h hi
  cases ho : oddB L2 i with
  | true =>
    rw [ho] at e1
    simp only [if_true] at e1
    go_enter Try.func79, Try.ntmps79
    go_wp2_with fail
    refine HG.out.mono ?_
    rintro e w1 ⟨rfl, hq⟩
    go_wp2
    go_ret
    exact ⟨rfl, hq⟩
  | false =>
    rw [ho] at e1
    simp only [Bool.false_eq_true, if_false] at e1
    go_enter Try.func79, Try.ntmps79
    go_wp2_with fail
    refine HG.out.mono ?_
    rintro e w1 ⟨rfl, hq⟩
    go_wp2
    go_ret
    exact ⟨rfl, hq⟩

/-- What Shut tells. -/
def shE (l : List Int) (i : Int) : Int := if inB l i then (if oddB l i then 0 else 120) else 2
theorem spE_one {l : List Int} {i : Int} (hi : inB l i = true) : spE l i 1 = if oddB l i then 0 else 111 := by simp [spE, hi, oddB]
set_option maxHeartbeats 800000 in
theorem tShut_any (h : TAt F w tb cb q L0 L2) : Calls Try.prog 41 #[.pointer (some ⟨tb, 0, none⟩), .int .i64 i] w (TPost F w tb cb q (.int .i64 (shE L2 i)) L0 (spv L2 i 1)) := by
  have d0 := h.blk.cell 0
  simp only [List.getElem?_toArray, List.getElem?_cons_succ, List.getElem?_cons_zero] at d0
  have hC := tCheck_any F w tb cb q L0 L2 i h
  cases hi : inB L2 i with
  | false =>
    rw [(spE_out hi).2]
    have e1 : shE L2 i = 2 := by simp [shE, hi]
    rw [e1]
    simp only [er, hi] at hC
    clear hi d0 e1
    go_enter Try.func41, Try.ntmps41
    go_wp2_with (go_at_call 67; refine hC.mono ?_; rintro e w1 ⟨rfl, rfl⟩)
    go_ret
    exact TPost.self h
  | true =>
    simp only [er, hi, if_true] at hC
    have HG := Lib.hid (h.go (v := .int .i64 (spE L2 i 1)) (L0' := L0) (L2' := spv L2 i 1) (fun F w _ hc => cSettle_any F w cb _ _ _ i hc) rfl (by unfold spv; split <;> simp))
    have e2 := spE_one hi
    have e1 : shE L2 i = if oddB L2 i then 0 else 120 := by simp [shE, hi]
    rw [e1]
    clear h hi e1
    cases ho : oddB L2 i with
    | true =>
      rw [ho] at e2
      simp only [if_true] at e2
      simp only [if_true]
      go_enter Try.func41, Try.ntmps41
      go_wp2_with (go_at_call 67; refine hC.mono ?_; rintro e w1 ⟨rfl, rfl⟩)
      refine HG.out.mono ?_
      rintro e w1 ⟨rfl, hq⟩
      go_wp2
      go_ret
      exact ⟨rfl, hq⟩
    | false =>
      rw [ho] at e2
      simp only [Bool.false_eq_true, if_false] at e2
      simp only [Bool.false_eq_true, if_false]
      go_enter Try.func41, Try.ntmps41
      go_wp2_with (go_at_call 67; refine hC.mono ?_; rintro e w1 ⟨rfl, rfl⟩)
      refine HG.out.mono ?_
      rintro e w1 ⟨rfl, hq⟩
      go_wp2
      go_ret
      exact ⟨rfl, hq⟩

/-- Is a count added to? What Add tells, and leaves. -/
def adOk (l : List Int) (i j : Int) : Bool := inB l i && (decide (0 ≤ j) && decide (j < 6)) && oddB l i
def adE (l : List Int) (i j : Int) : Int := if inB l i && (decide (0 ≤ j) && decide (j < 6)) then (if oddB l i then 0 else 120) else 2
def adL (L0 L2 : List Int) (i j u : Int) : List Int := if adOk L2 i j then stv L0 (i * 6 + j) (adv L0 (i * 6 + j) u) else L0
theorem stv_length (l : List Int) (i u : Int) : (stv l i u).length = l.length := by unfold stv; split <;> simp
set_option maxHeartbeats 1600000 in
theorem tAdd_any (j u : Int) (hu : 0 ≤ u ∧ u < 4294967296) (h : TAt F w tb cb q L0 L2) :
    Calls Try.prog 47 #[.pointer (some ⟨tb, 0, none⟩), .int .i64 i, .int .i64 j, .int .u32 u] w (TPost F w tb cb q (.int .i64 (adE L2 i j)) (adL L0 L2 i j u) L2) := by
  have d0 := h.blk.cell 0
  simp only [List.getElem?_toArray, List.getElem?_cons_succ, List.getElem?_cons_zero] at d0
  have hC := tCheck_any F w tb cb q L0 L2 i h
  have hq := h.q64
  have hl := h.len2
  cases hi : inB L2 i with
  | false =>
    have e1 : adE L2 i j = 2 ∧ adL L0 L2 i j u = L0 := by simp [adE, adL, adOk, hi]
    rw [e1.1, e1.2]
    simp only [er, hi] at hC
    clear hi d0 e1
    go_enter Try.func47, Try.ntmps47
    go_wp2_with (go_at_call 67; refine hC.mono ?_; rintro e w1 ⟨rfl, rfl⟩)
    go_ret
    exact TPost.self h
  | true =>
    simp only [er, hi, if_true] at hC
    obtain ⟨i0, i1⟩ := inB_true.1 hi
    by_cases j0 : j < 0
    · have e1 : adE L2 i j = 2 ∧ adL L0 L2 i j u = L0 := by
        have : decide (0 ≤ j) = false := by simp; omega
        simp [adE, adL, adOk, this]
      rw [e1.1, e1.2]
      clear hi d0 e1
      go_enter Try.func47, Try.ntmps47
      go_wp2_with (go_at_call 67; refine hC.mono ?_; rintro e w1 ⟨rfl, rfl⟩)
      go_ret
      exact TPost.self h
    by_cases j1 : 6 ≤ j
    · have e1 : adE L2 i j = 2 ∧ adL L0 L2 i j u = L0 := by
        have : decide (j < 6) = false := by simp; omega
        simp [adE, adL, adOk, this]
      rw [e1.1, e1.2]
      clear hi d0 e1
      go_enter Try.func47, Try.ntmps47
      go_wp2_with (go_at_call 67; refine hC.mono ?_; rintro e w1 ⟨rfl, rfl⟩)
      go_ret
      exact TPost.self h
    have HO := Lib.hid (tIsOpen_in F w tb cb q L0 L2 i h hi)
    have hj : (decide (0 ≤ j) && decide (j < 6)) = true := by simp; omega
    have e1 : adE L2 i j = (if oddB L2 i then 0 else 120) ∧ adL L0 L2 i j u = if oddB L2 i then stv L0 (i * 6 + j) (adv L0 (i * 6 + j) u) else L0 := by
      simp [adE, adL, adOk, hi, hj]
    rw [e1.1, e1.2]
    have hx : i < 64 := by omega
    clear hi e1 hj hl i1
    cases ho : oddB L2 i with
    | false =>
      rw [ho] at HO
      simp only [Bool.false_eq_true, if_false]
      clear d0
      go_enter Try.func47, Try.ntmps47
      go_wp2_with (first | (go_at_call 67; refine hC.mono ?_; rintro e w1 ⟨rfl, rfl⟩) | (go_at_call 79; refine HO.out.mono ?_; rintro e w1 ⟨rfl, hq1⟩))
      go_ret
      exact ⟨rfl, hq1⟩
    | true =>
      rw [ho] at HO
      simp only [if_true]
      have HB := Lib.hid h
      clear d0 h
      go_enter Try.func47, Try.ntmps47
      go_wp2_with (go_at_call 67; refine hC.mono ?_; rintro e w1 ⟨rfl, rfl⟩)
      refine HO.out.mono ?_
      rintro e w1 ⟨rfl, ha, hf⟩
      have d1 := ha.blk.cell 0
      simp only [List.getElem?_toArray, List.getElem?_cons_succ, List.getElem?_cons_zero] at d1
      have HG := Lib.hid (ha.go (v := .tuple #[.int .i64 (adv L0 (i * 6 + j) u), .int .i64 (er L0 (i * 6 + j))]) (L0' := stv L0 (i * 6 + j) (adv L0 (i * 6 + j) u)) (L2' := L2) (fun F w _ hc => cAdd_any F w cb _ _ _ (i * 6 + j) u hc) (stv_length _ _ _) rfl)
      have hbd := ha.bd
      clear ha
      go_wp2_with fail
      refine HG.out.mono ?_
      rintro e w2 ⟨rfl, hb, hf2⟩
      go_wp2
      go_ret
      rw [FN.trans F hf.size hf2.size] at hb
      exact ⟨rfl, hb, hf.trans hf2⟩
end
end Go.Proofs.Ytkilibdalgnghaa
