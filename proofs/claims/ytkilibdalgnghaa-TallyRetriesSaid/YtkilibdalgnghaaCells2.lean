/-
  The contracts of the methods of package cells: what each hands back, and what cells, locks and counts are behind it. The counts' numbers are of int64; else no condition.
-/
import Derived.Test.YtkilibdalgnghaaCells
namespace Go.Proofs.Ytkilibdalgnghaa
set_option linter.unusedVariables false
set_option linter.unusedSimpArgs false
open Go.RowKit Go.Shelf

/-! ### What the methods do, in plain numbers -/
def inB (l : List Int) (i : Int) : Bool := decide (0 ≤ i) && decide (i < l.length)
def ldv (l : List Int) (i : Int) : Int := if inB l i then l.getD i.toNat 0 else 0
def er (l : List Int) (i : Int) : Int := if inB l i then 0 else 2
def stv (l : List Int) (i : Int) (v : Int) : List Int := if inB l i then l.set i.toNat v else l

section
variable {l : List Int} {i v : Int}
theorem inB_true : inB l i = true ↔ 0 ≤ i ∧ i < l.length := by simp [inB]
theorem ldv_in (h : inB l i = true) (hv : l[i.toNat]? = some v) : ldv l i = v := by simp [ldv, h, List.getD, hv]
theorem er_in (h : inB l i = true) : er l i = 0 := by simp [er, h]
theorem er_out (h : inB l i = false) : er l i = 2 := by simp [er, h]
theorem ldv_out (h : inB l i = false) : ldv l i = 0 := by simp [ldv, h]
theorem stv_in (h : inB l i = true) : stv l i v = l.set i.toNat v := by simp [stv, h]
theorem stv_out (h : inB l i = false) : stv l i v = l := by simp [stv, h]
theorem at_inB (h : inB l i = true) : ∃ v, l[i.toNat]? = some v := by
  have := inB_true.1 h
  exact ⟨l[i.toNat]'(by omega), List.getElem?_eq_getElem (by omega)⟩
theorem ret2_eq {a b c d : Value} (h : a = c) (h' : b = d) : Ending.returned (.tuple #[a, b]) = .returned (.tuple #[c, d]) := by rw [h, h']
theorem ret1_eq {a c : Value} (h : a = c) : Ending.returned a = .returned c := by rw [h]
theorem out_of (h : inB l i = false) : i < 0 ∨ (l.length : Int) ≤ i := by
  have : ¬ (0 ≤ i ∧ i < l.length) := fun hh => by rw [inB_true.2 hh] at h; cases h
  omega
end

/-! ### number, holder, count -/
def PlaceIn (which : Nat) (F : Nat → Prop) (w : World) (b : Nat) (l0 l1 l2 : List Int) (i : Int) (e : Ending) (w' : World) : Prop :=
  ∃ g0 g1 g2, e = .returned (.tuple #[.pointer (some ⟨if which = 0 then g0 else if which = 1 then g1 else g2, i.toNat, none⟩), .int .i64 0]) ∧ CellsM (FN F w w') w' b g0 g1 g2 l0 l1 l2 ∧ Fr F w w'
def PlaceOut (F : Nat → Prop) (w : World) (b : Nat) (l0 l1 l2 : List Int) (e : Ending) (w' : World) : Prop :=
  e = .returned (.tuple #[.pointer none, .int .i64 2]) ∧ CellsAt (FN F w w') w' b l0 l1 l2 ∧ Fr F w w'

section
variable (F : Nat → Prop) (w : World) (b : Nat) (l0 l1 l2 : List Int) (i : Int)
set_option maxHeartbeats 400000 in
theorem number_in (h : CellsAt F w b l0 l1 l2) (hi : inB l0 i = true) : Calls Try.prog 52 #[.pointer (some ⟨b, 0, none⟩), .int .i64 i] w (PlaceIn 0 F w b l0 l1 l2 i) := by
  obtain ⟨h0, h1⟩ := inB_true.1 hi
  have HE := Lib.hid (ensure_any F w b l0 l1 l2 h)
  clear h hi
  go_enter Try.func52, Try.ntmps52
  go_wp2_with (first | (go_at_call 80; refine HE.out.mono ?_; rintro e w1 ⟨rfl, g0, g1, g2, hm, hf⟩; obtain ⟨sm, hb⟩ := hm.blk; have hl := hm.m0; have hcell := hb.cell 6) | (go_at_call 82; refine (at_in g0 l0.length i _ h0 h1 hl).mono ?_; rintro e w2 ⟨rfl, rfl⟩))
  go_ret2
  exact ⟨g0, g1, g2, rfl, hm, hf⟩
set_option maxHeartbeats 400000 in
theorem number_out (h : CellsAt F w b l0 l1 l2) (hi : inB l0 i = false) : Calls Try.prog 52 #[.pointer (some ⟨b, 0, none⟩), .int .i64 i] w (PlaceOut F w b l0 l1 l2) := by
  have ho := Lib.hid (out_of hi)
  have HE := Lib.hid (ensure_any F w b l0 l1 l2 h)
  clear h hi
  go_enter Try.func52, Try.ntmps52
  go_wp2_with (first | (go_at_call 80; refine HE.out.mono ?_; rintro e w1 ⟨rfl, g0, g1, g2, hm, hf⟩; obtain ⟨sm, hb⟩ := hm.blk; have hcell := hb.cell 6) | (go_at_call 82; refine (at_out g0 l0.length i _ ho.out).mono ?_; rintro e w2 ⟨rfl, rfl⟩))
  go_ret2
  exact ⟨rfl, .inr ⟨g0, g1, g2, hm⟩, hf⟩
theorem number_nil : Calls Try.prog 52 #[.pointer none, .int .i64 i] w fun e w' => e = .returned (.tuple #[.pointer none, .int .i64 1]) ∧ w = w' := by
  go_enter Try.func52, Try.ntmps52
  go_wp2
  go_ret2
  exact ⟨rfl, rfl⟩
set_option maxHeartbeats 400000 in
theorem holder_in (h : CellsAt F w b l0 l1 l2) (hi : inB l1 i = true) : Calls Try.prog 50 #[.pointer (some ⟨b, 0, none⟩), .int .i64 i] w (PlaceIn 1 F w b l0 l1 l2 i) := by
  obtain ⟨h0, h1⟩ := inB_true.1 hi
  have HE := Lib.hid (ensure_any F w b l0 l1 l2 h)
  clear h hi
  go_enter Try.func50, Try.ntmps50
  go_wp2_with (first | (go_at_call 80; refine HE.out.mono ?_; rintro e w1 ⟨rfl, g0, g1, g2, hm, hf⟩; obtain ⟨sm, hb⟩ := hm.blk; have hl := hm.m1; have hcell := hb.cell 7) | (go_at_call 82; refine (at_in g1 l1.length i _ h0 h1 hl).mono ?_; rintro e w2 ⟨rfl, rfl⟩))
  go_ret2
  exact ⟨g0, g1, g2, rfl, hm, hf⟩
set_option maxHeartbeats 400000 in
theorem holder_out (h : CellsAt F w b l0 l1 l2) (hi : inB l1 i = false) : Calls Try.prog 50 #[.pointer (some ⟨b, 0, none⟩), .int .i64 i] w (PlaceOut F w b l0 l1 l2) := by
  have ho := Lib.hid (out_of hi)
  have HE := Lib.hid (ensure_any F w b l0 l1 l2 h)
  clear h hi
  go_enter Try.func50, Try.ntmps50
  go_wp2_with (first | (go_at_call 80; refine HE.out.mono ?_; rintro e w1 ⟨rfl, g0, g1, g2, hm, hf⟩; obtain ⟨sm, hb⟩ := hm.blk; have hcell := hb.cell 7) | (go_at_call 82; refine (at_out g1 l1.length i _ ho.out).mono ?_; rintro e w2 ⟨rfl, rfl⟩))
  go_ret2
  exact ⟨rfl, .inr ⟨g0, g1, g2, hm⟩, hf⟩
theorem holder_nil : Calls Try.prog 50 #[.pointer none, .int .i64 i] w fun e w' => e = .returned (.tuple #[.pointer none, .int .i64 1]) ∧ w = w' := by
  go_enter Try.func50, Try.ntmps50
  go_wp2
  go_ret2
  exact ⟨rfl, rfl⟩
set_option maxHeartbeats 400000 in
theorem count_in (h : CellsAt F w b l0 l1 l2) (hi : inB l2 i = true) : Calls Try.prog 58 #[.pointer (some ⟨b, 0, none⟩), .int .i64 i] w (PlaceIn 2 F w b l0 l1 l2 i) := by
  obtain ⟨h0, h1⟩ := inB_true.1 hi
  have HE := Lib.hid (ensure_any F w b l0 l1 l2 h)
  clear h hi
  go_enter Try.func58, Try.ntmps58
  go_wp2_with (first | (go_at_call 80; refine HE.out.mono ?_; rintro e w1 ⟨rfl, g0, g1, g2, hm, hf⟩; obtain ⟨sm, hb⟩ := hm.blk; have hl := hm.m2; have hcell := hb.cell 8) | (go_at_call 82; refine (at_in g2 l2.length i _ h0 h1 hl).mono ?_; rintro e w2 ⟨rfl, rfl⟩))
  go_ret2
  exact ⟨g0, g1, g2, rfl, hm, hf⟩
set_option maxHeartbeats 400000 in
theorem count_out (h : CellsAt F w b l0 l1 l2) (hi : inB l2 i = false) : Calls Try.prog 58 #[.pointer (some ⟨b, 0, none⟩), .int .i64 i] w (PlaceOut F w b l0 l1 l2) := by
  have ho := Lib.hid (out_of hi)
  have HE := Lib.hid (ensure_any F w b l0 l1 l2 h)
  clear h hi
  go_enter Try.func58, Try.ntmps58
  go_wp2_with (first | (go_at_call 80; refine HE.out.mono ?_; rintro e w1 ⟨rfl, g0, g1, g2, hm, hf⟩; obtain ⟨sm, hb⟩ := hm.blk; have hcell := hb.cell 8) | (go_at_call 82; refine (at_out g2 l2.length i _ ho.out).mono ?_; rintro e w2 ⟨rfl, rfl⟩))
  go_ret2
  exact ⟨rfl, .inr ⟨g0, g1, g2, hm⟩, hf⟩
theorem count_nil : Calls Try.prog 58 #[.pointer none, .int .i64 i] w fun e w' => e = .returned (.tuple #[.pointer none, .int .i64 1]) ∧ w = w' := by
  go_enter Try.func58, Try.ntmps58
  go_wp2
  go_ret2
  exact ⟨rfl, rfl⟩
end

/-! ### Load, Store, Add, Swap -/
section
variable (F : Nat → Prop) (w : World) (b : Nat) (l0 l1 l2 : List Int) (i : Int)
/-- What a call comes to that hands back one number, and leaves other cells. -/
def Post1 (F : Nat → Prop) (w : World) (b : Nat) (v : Value) (l0 l1 l2 : List Int) (e : Ending) (w' : World) : Prop :=
  e = .returned v ∧ CellsAt (FN F w w') w' b l0 l1 l2 ∧ Fr F w w'

set_option maxHeartbeats 400000 in
theorem cLoad_any (h : CellsAt F w b l0 l1 l2) : Calls Try.prog 24 #[.pointer (some ⟨b, 0, none⟩), .int .i64 i] w
    (Post1 F w b (.tuple #[.int .i64 (ldv l0 i), .int .i64 (er l0 i)]) l0 l1 l2) := by
  cases hi : inB l0 i with
  | true =>
    obtain ⟨v, hv⟩ := at_inB hi
    rw [ldv_in hi hv, er_in hi]
    have HN := Lib.hid (number_in F w b l0 l1 l2 i h hi)
    have HV := Lib.hid hv
    clear h hi hv
    go_enter Try.func24, Try.ntmps24
    go_wp2_with (first | (go_at_call 52; refine HN.out.mono ?_; rintro e w1 ⟨g0, g1, g2, rfl, hm, hf⟩; have hcell := hm.b0.ints _ _ HV.out) | (go_at_call 55; refine (int64_load _ _ _ hcell).mono ?_; rintro e w2 ⟨rfl, rfl⟩))
    go_ret2
    exact ⟨rfl, .inr ⟨g0, g1, g2, hm⟩, hf⟩
  | false =>
    rw [ldv_out hi, er_out hi]
    have HN := Lib.hid (number_out F w b l0 l1 l2 i h hi)
    clear h hi
    go_enter Try.func24, Try.ntmps24
    go_wp2_with (go_at_call 52; refine HN.out.mono ?_; rintro e w1 ⟨rfl, hm, hf⟩)
    go_ret2
    exact ⟨rfl, hm, hf⟩
theorem cLoad_nil : Calls Try.prog 24 #[.pointer none, .int .i64 i] w fun e w' => e = .returned (.tuple #[.int .i64 0, .int .i64 1]) ∧ w = w' := by
  go_enter Try.func24, Try.ntmps24
  go_wp2_with (go_at_call 52; refine (number_nil _ _).mono ?_; rintro e w1 ⟨rfl, rfl⟩)
  go_ret2
  exact ⟨rfl, rfl⟩

set_option maxHeartbeats 400000 in
theorem cStore_any (u : Int) (h : CellsAt F w b l0 l1 l2) : Calls Try.prog 22 #[.pointer (some ⟨b, 0, none⟩), .int .i64 i, .int .i64 u] w
    (Post1 F w b (.int .i64 (er l0 i)) (stv l0 i u) l1 l2) := by
  cases hi : inB l0 i with
  | true =>
    obtain ⟨v, hv⟩ := at_inB hi
    rw [stv_in hi, er_in hi]
    have HN := Lib.hid (number_in F w b l0 l1 l2 i h hi)
    have HV := Lib.hid hv
    clear h hi hv
    go_enter Try.func22, Try.ntmps22
    go_wp2_with (first | (go_at_call 52; refine HN.out.mono ?_; rintro e w1 ⟨g0, g1, g2, rfl, hm, hf⟩; have hcell := hm.b0.ints _ _ HV.out; have hz := hm.b0.frozen i.toNat) | (go_at_call 53; refine (int64_store _ _ _ _ hcell hz).mono ?_; rintro e w2 ⟨rfl, rfl⟩))
    go_ret
    exact ⟨rfl, .inr ⟨g0, g1, g2, by rw [FN.setCell]; exact hm.fr0 _ _⟩, hf.setCell' (by exact hm.f0) _⟩
  | false =>
    rw [stv_out hi, er_out hi]
    have HN := Lib.hid (number_out F w b l0 l1 l2 i h hi)
    clear h hi
    go_enter Try.func22, Try.ntmps22
    go_wp2_with (go_at_call 52; refine HN.out.mono ?_; rintro e w1 ⟨rfl, hm, hf⟩)
    go_ret
    exact ⟨rfl, hm, hf⟩
theorem cStore_nil (u : Int) : Calls Try.prog 22 #[.pointer none, .int .i64 i, .int .i64 u] w fun e w' => e = .returned (.int .i64 1) ∧ w = w' := by
  go_enter Try.func22, Try.ntmps22
  go_wp2_with (go_at_call 52; refine (number_nil _ _).mono ?_; rintro e w1 ⟨rfl, rfl⟩)
  go_ret
  exact ⟨rfl, rfl⟩

def adv (l : List Int) (i u : Int) : Int := if inB l i then wrap64 (ldv l i + u) else 0
theorem adv_in {l : List Int} {i u v : Int} (hi : inB l i = true) (hv : l[i.toNat]? = some v) : adv l i u = wrap64 (v + u) := by simp [adv, hi, ldv_in hi hv]
theorem adv_out {l : List Int} {i u : Int} (hi : inB l i = false) : adv l i u = 0 := by simp [adv, hi]
set_option maxHeartbeats 400000 in
theorem cAdd_any (u : Int) (h : CellsAt F w b l0 l1 l2) : Calls Try.prog 25 #[.pointer (some ⟨b, 0, none⟩), .int .i64 i, .int .i64 u] w
    (Post1 F w b (.tuple #[.int .i64 (adv l0 i u), .int .i64 (er l0 i)]) (stv l0 i (adv l0 i u)) l1 l2) := by
  cases hi : inB l0 i with
  | true =>
    obtain ⟨v, hv⟩ := at_inB hi
    rw [stv_in hi, er_in hi, adv_in hi hv]
    have HN := Lib.hid (number_in F w b l0 l1 l2 i h hi)
    have HV := Lib.hid hv
    clear h hi hv
    go_enter Try.func25, Try.ntmps25
    go_wp2_with (first | (go_at_call 52; refine HN.out.mono ?_; rintro e w1 ⟨g0, g1, g2, rfl, hm, hf⟩; have hcell := hm.b0.ints _ _ HV.out; have hz := hm.b0.frozen i.toNat) | (go_at_call 56; refine (int64_add _ _ _ _ hcell hz).mono ?_; rintro e w2 ⟨rfl, rfl⟩))
    go_ret2
    exact ⟨rfl, .inr ⟨g0, g1, g2, by rw [FN.setCell]; exact hm.fr0 _ _⟩, hf.setCell' (by exact hm.f0) _⟩
  | false =>
    rw [stv_out hi, er_out hi, adv_out hi]
    have HN := Lib.hid (number_out F w b l0 l1 l2 i h hi)
    clear h hi
    go_enter Try.func25, Try.ntmps25
    go_wp2_with (go_at_call 52; refine HN.out.mono ?_; rintro e w1 ⟨rfl, hm, hf⟩)
    go_ret2
    exact ⟨rfl, hm, hf⟩
theorem cAdd_nil (u : Int) : Calls Try.prog 25 #[.pointer none, .int .i64 i, .int .i64 u] w fun e w' => e = .returned (.tuple #[.int .i64 0, .int .i64 1]) ∧ w = w' := by
  go_enter Try.func25, Try.ntmps25
  go_wp2_with (go_at_call 52; refine (number_nil _ _).mono ?_; rintro e w1 ⟨rfl, rfl⟩)
  go_ret2
  exact ⟨rfl, rfl⟩

def swB (l : List Int) (i o : Int) : Bool := inB l i && (ldv l i == o)
def swv (l : List Int) (i o u : Int) : List Int := if swB l i o then l.set i.toNat u else l
set_option maxHeartbeats 800000 in
theorem cSwap_any (o u : Int) (h : CellsAt F w b l0 l1 l2) : Calls Try.prog 23 #[.pointer (some ⟨b, 0, none⟩), .int .i64 i, .int .i64 o, .int .i64 u] w
    (Post1 F w b (.tuple #[.bool (swB l0 i o), .int .i64 (er l0 i)]) (swv l0 i o u) l1 l2) := by
  cases hi : inB l0 i with
  | true =>
    obtain ⟨v, hv⟩ := at_inB hi
    have HN := Lib.hid (number_in F w b l0 l1 l2 i h hi)
    have HV := Lib.hid hv
    by_cases ho : v = o
    · subst ho
      have e1 : swB l0 i v = true := by simp [swB, hi, ldv_in hi hv]
      rw [er_in hi, swv, e1, if_pos rfl]
      clear h hi hv e1
      go_enter Try.func23, Try.ntmps23
      go_wp2_with (first | (go_at_call 52; refine HN.out.mono ?_; rintro e w1 ⟨g0, g1, g2, rfl, hm, hf⟩; have hcell := hm.b0.ints _ _ HV.out; have hz := hm.b0.frozen i.toNat) | (go_at_call 54; refine (int64_cas_hit _ _ _ _ hcell hz).mono ?_; rintro e w2 ⟨rfl, rfl⟩))
      go_ret2
      exact ⟨rfl, .inr ⟨g0, g1, g2, by rw [FN.setCell]; exact hm.fr0 _ _⟩, hf.setCell' (by exact hm.f0) _⟩
    · have e1 : swB l0 i o = false := by simp [swB, hi, ldv_in hi hv, ho]
      rw [er_in hi, swv, e1, if_neg (by simp)]
      clear h hi hv e1
      go_enter Try.func23, Try.ntmps23
      go_wp2_with (first | (go_at_call 52; refine HN.out.mono ?_; rintro e w1 ⟨g0, g1, g2, rfl, hm, hf⟩; have hcell := hm.b0.ints _ _ HV.out; have hz := hm.b0.frozen i.toNat) | (go_at_call 54; refine (int64_cas_miss _ _ _ _ _ hcell hz ho).mono ?_; rintro e w2 ⟨rfl, rfl⟩))
      go_ret2
      exact ⟨rfl, .inr ⟨g0, g1, g2, hm⟩, hf⟩
  | false =>
    have e1 : swB l0 i o = false := by simp [swB, hi]
    rw [er_out hi, swv, e1, if_neg (by simp)]
    have HN := Lib.hid (number_out F w b l0 l1 l2 i h hi)
    clear h hi e1
    go_enter Try.func23, Try.ntmps23
    go_wp2_with (go_at_call 52; refine HN.out.mono ?_; rintro e w1 ⟨rfl, hm, hf⟩)
    go_ret2
    exact ⟨rfl, hm, hf⟩
theorem cSwap_nil (o u : Int) : Calls Try.prog 23 #[.pointer none, .int .i64 i, .int .i64 o, .int .i64 u] w fun e w' => e = .returned (.tuple #[.bool false, .int .i64 1]) ∧ w = w' := by
  go_enter Try.func23, Try.ntmps23
  go_wp2_with (go_at_call 52; refine (number_nil _ _).mono ?_; rintro e w1 ⟨rfl, rfl⟩)
  go_ret2
  exact ⟨rfl, rfl⟩
end

end Go.Proofs.Ytkilibdalgnghaa
