/-
  The tally's reader: begin, load, end.
-/
import Derived.Test.YtkilibdalgnghaaTally3
import Derived.Deep.RegionHeld3
import Derived.IntWalk
namespace Go.Proofs.Ytkilibdalgnghaa
set_option linter.unusedVariables false
set_option linter.unusedSimpArgs false
open Go.RowKit Go.Shelf

structure RdAt (F : Nat → Prop) (w : World) (rb tb cb q : Nat) (L0 L2 : List Int) (i nx at_ : Int) (l : Nat → Int) : Prop where
  t : TAt F w tb cb q L0 L2
  rd : Blk w rb 126 (rdCells tb i nx at_ l)
  out : ¬ F rb
def RdPost (F : Nat → Prop) (w : World) (rb tb cb q : Nat) (L0 L2 : List Int) (i : Int) (v : Value) (nx at_ : Int) (l : Nat → Int) (e : Ending) (w' : World) : Prop :=
  e = .returned v ∧ RdAt (FN F w w') w' rb tb cb q L0 L2 i nx at_ l ∧ Fr (fun k => F k ∨ k = rb) w w'
section
variable {F : Nat → Prop} {w w1 w' : World} {rb tb cb q : Nat} {L0 L2 : List Int} {i nx at_ : Int} {l : Nat → Int}
theorem RdAt.ne (h : RdAt F w rb tb cb q L0 L2 i nx at_ l) : rb ≠ tb := h.rd.ne_ h.t.blk (by decide)
theorem RdAt.set_ (h : RdAt F w rb tb cb q L0 L2 i nx at_ l) (j : Nat) (v : Value) {nx' at' : Int} {l' : Nat → Int} (e : (rdCells tb i nx at_ l).setIfInBounds j v = rdCells tb i nx' at' l') :
    RdAt F (w.setCell ⟨rb, j, none⟩ v) rb tb cb q L0 L2 i nx' at' l' :=
  ⟨h.t.frame ((Fr.refl (fun k => k = rb) w).setCell (.inl rfl) v) (fun k hk he => h.out (he ▸ hk)) (fun he => h.ne he.symm), e ▸ h.rd.set_ j v, h.out⟩
theorem RdAt.drew (h : RdAt F w rb tb cb q L0 L2 i nx at_ l) : RdAt F w.drew rb tb cb q L0 L2 i nx at_ l := ⟨h.t.keep (Fr.refl no w).drew, h.rd, h.out⟩
theorem RdAt.after (h : RdAt F w rb tb cb q L0 L2 i nx at_ l) (ht : TAt (FN F w w1) w1 tb cb q L0 L2) (hf : Fr F w w1) : RdAt (FN F w w1) w1 rb tb cb q L0 L2 i nx at_ l :=
  ⟨ht, hf.blk h.rd h.out, FN.not h.rd.lt h.out⟩
theorem RdAt.loads (h : RdAt F w rb tb cb q L0 L2 i nx at_ l) : w.cell? ⟨rb, 0, none⟩ = some (.pointer (some ⟨tb, 0, none⟩)) ∧ w.cell? ⟨rb, 1, none⟩ = some (.int .i64 i) ∧ w.cell? ⟨rb, 2, none⟩ = some (.int .i64 nx) ∧ w.cell? ⟨rb, 3, none⟩ = some (.int .i64 at_) ∧
    w.cell? ⟨tb, 0, none⟩ = some (.pointer (some ⟨cb, 0, none⟩)) := ⟨h.rd.cell 0, h.rd.cell 1, h.rd.cell 2, h.rd.cell 3, h.t.blk.cell 0⟩
theorem RdAt.frz (h : RdAt F w rb tb cb q L0 L2 i nx at_ l) (j : Nat) : w.frozen? ⟨rb, j, none⟩ = false := h.rd.frozen j
/-- A call on the cells while a reader reads. -/
theorem RdAt.go {f : FuncId} {args : Array Value} {v : Value} (h : RdAt F w rb tb cb q L0 L2 i nx at_ l) (hc : ∀ F w, (∀ k, F k → k < w.heap.size) → CellsAt F w cb L0 [] L2 → Calls Try.prog f args w (Post1 F w cb v L0 [] L2)) :
    Calls Try.prog f args w fun e w' => e = .returned v ∧ RdAt (FN F w w') w' rb tb cb q L0 L2 i nx at_ l ∧ Fr F w w' :=
  (h.t.go hc rfl rfl).mono fun e w' ⟨he, h1, hf⟩ => ⟨he, h.after h1 hf, hf⟩
end

theorem Fr.of_drew {F : Nat → Prop} {w w1 : World} (h : Fr F w.drew w1) : Fr F w w1 := ⟨h.os, h.tape, h.output, h.size, h.block⟩
theorem RdPost.mk_ {F : Nat → Prop} {w w1 : World} {rb tb cb q : Nat} {L0 L2 : List Int} {i nx at_ : Int} {l : Nat → Int} {v : Value} (h : RdAt (FN F w w1) w1 rb tb cb q L0 L2 i nx at_ l) (hf : Fr (fun k => F k ∨ k = rb) w w1) :
    RdPost F w rb tb cb q L0 L2 i v nx at_ l (.returned v) w1 := ⟨rfl, h, hf⟩
theorem Fr.rb {F : Nat → Prop} {w w1 : World} {rb : Nat} (h : Fr F w w1) : Fr (fun k => F k ∨ k = rb) w w1 := h.mono fun _ hk => Or.inl hk

section
variable (F : Nat → Prop) (w : World) (rb tb cb q : Nat) (L0 L2 : List Int) (i nx at_ : Int) (l : Nat → Int)
set_option maxHeartbeats 1600000 in
theorem rdBegin_any (hi : inB L2 i = true) (h : RdAt F w rb tb cb q L0 L2 i nx at_ l) :
    Calls Try.prog 68 #[.pointer (some ⟨rb, 0, none⟩)] w (RdPost F w rb tb cb q L0 L2 i (.tuple #[.bool false, .int .i64 (bgE L2 i)]) (if oddB L2 i then nx else 1) (if oddB L2 i then at_ else ldv L2 i) l) := by
  obtain ⟨d0, d1, d2, d3, d4⟩ := h.loads
  have e1 : bgE L2 i = if oddB L2 i then 111 else 0 := by simp [bgE, hi, oddB]
  have e2 : bgv L2 i = if oddB L2 i then 0 else ldv L2 i := by simp [bgv, hi, oddB]
  have H0 := Lib.hid h
  clear h hi
  cases ho : oddB L2 i with
  | true =>
    rw [ho] at e1 e2
    simp only [if_true] at e1 e2
    simp only [if_true]
    rw [e1]
    go_enter Try.func68, Try.ntmps68
    go_wp2_with fail
    go_region_held3 (fun w' => w'.cell? ⟨rb, 0, none⟩ = some (.pointer (some ⟨tb, 0, none⟩)) ∧ w'.cell? ⟨rb, 1, none⟩ = some (.int .i64 i) ∧ w'.cell? ⟨tb, 0, none⟩ = some (.pointer (some ⟨cb, 0, none⟩)))
      (first | (obtain ⟨h0, h1, h2, h3, h4⟩ := RdAt.loads (by assumption); exact ⟨h0, h1, h4⟩) | go_keep)
      (first
        | (go_at_call 27; refine (RdAt.go H0.out.drew (fun F w _ hc => cBegin_any F w cb _ _ _ i hc)).mono ?_; rintro e w1 ⟨rfl, hr1, hf1⟩))
    go_wp2
    go_ret2
    exact RdPost.mk_ hr1 (Fr.rb (Fr.of_drew hf1))
  | false =>
    rw [ho] at e1 e2
    simp only [Bool.false_eq_true, if_false] at e1 e2
    simp only [Bool.false_eq_true, if_false]
    rw [e1]
    go_enter Try.func68, Try.ntmps68
    go_wp2_with fail
    go_region_held3 (fun w' => w'.cell? ⟨rb, 0, none⟩ = some (.pointer (some ⟨tb, 0, none⟩)) ∧ w'.cell? ⟨rb, 1, none⟩ = some (.int .i64 i) ∧ w'.cell? ⟨tb, 0, none⟩ = some (.pointer (some ⟨cb, 0, none⟩)))
      (first | (obtain ⟨h0, h1, h2, h3, h4⟩ := RdAt.loads (by assumption); exact ⟨h0, h1, h4⟩) | go_keep)
      (first
        | (go_at_call 27; refine (RdAt.go H0.out.drew (fun F w _ hc => cBegin_any F w cb _ _ _ i hc)).mono ?_; rintro e w1 ⟨rfl, hr1, hf1⟩))
    have z3 := hr1.frz 3
    have z2 := hr1.frz 2
    obtain ⟨-, -, c2, c3, -⟩ := hr1.loads
    go_wp2
    go_ret2
    refine RdPost.mk_ ?_ (((Fr.rb (Fr.of_drew hf1)).setCell (p := ⟨rb, 3, none⟩) (.inl (.inr rfl)) _).setCell (p := ⟨rb, 2, none⟩) (.inl (.inr rfl)) _)
    rw [FN.setCell, FN.setCell]
    exact (hr1.set_ (nx' := nx) (at' := ldv L2 i) (l' := l) 3 _ rfl).set_ 2 _ rfl

/-- l with its k-th number. -/
def upd (l : Nat → Int) (k : Nat) (x : Int) : Nat → Int := fun j => if j = k then x else l j
set_option maxHeartbeats 1600000 in
theorem rdLoad_0 (i0 : 0 ≤ i) (i1 : i < q) (h : RdAt F w rb tb cb q L0 L2 i 1 at_ l) :
    Calls Try.prog 69 #[.pointer (some ⟨rb, 0, none⟩)] w (RdPost F w rb tb cb q L0 L2 i (.tuple #[.bool false, .int .i64 0]) 2 at_ (upd l 0 (IntKind.u64.wrap (ldv L0 (i * 6))))) := by
  have hq := h.t.q64
  have e1 : er L0 (i * 6) = 0 := by
    have : inB L0 (i * 6) = true := inB_true.2 ⟨by omega, by rw [h.t.len0]; omega⟩
    simp [er, this]
  have hi : i < 64 := by omega
  obtain ⟨d0, d1, d2, d3, d4⟩ := h.loads
  have H0 := Lib.hid h
  clear h i1
  have s0 : IntKind.i64.wrap (i * 6) = i * 6 := IntWalk.i64_in _ (by omega)
  have s1 : IntKind.i64.wrap (i * 6 + 1) = i * 6 + 1 := IntWalk.i64_in _ (by omega)
  have s2 : IntKind.i64.wrap (i * 6 + 1 - 1) = i * 6 := (IntWalk.i64_in _ (by omega)).trans (by omega)
  go_enter Try.func69, Try.ntmps69
  go_wp2_with fail
  go_region_held3 (fun w' => w'.cell? ⟨rb, 0, none⟩ = some (.pointer (some ⟨tb, 0, none⟩)) ∧ w'.cell? ⟨rb, 1, none⟩ = some (.int .i64 i) ∧ w'.cell? ⟨rb, 2, none⟩ = some (.int .i64 1) ∧ w'.cell? ⟨tb, 0, none⟩ = some (.pointer (some ⟨cb, 0, none⟩)))
    (first | (obtain ⟨h0, h1, h2, h3, h4⟩ := RdAt.loads (by assumption); exact ⟨h0, h1, h2, h4⟩) | go_keep)
    (first
      | (go_at_call 24; refine (RdAt.go H0.out.drew (fun F w _ hc => cLoad_any F w cb _ _ _ (i * 6) hc)).mono ?_; rintro e w1 ⟨rfl, hr1, hf1⟩))
  clear s0 s1 s2 d0 d1 d2 d3 d4
  obtain ⟨c0, c1, c2, c3, c4⟩ := hr1.loads
  have z2 := hr1.frz 2
  have z4 := hr1.frz 4
  have b0 : w1.cell? ⟨rb, 4, none⟩ = some (.int .u64 (l 0)) := hr1.rd.cell 4
  go_wp2_with fail
  go_region
  all_goals
    go_wp2
    go_ret2
    refine RdPost.mk_ ?_ (((Fr.rb (Fr.of_drew hf1)).setCell (p := ⟨rb, 4, none⟩) (.inl (.inr rfl)) _).setCell (p := ⟨rb, 2, none⟩) (.inl (.inr rfl)) _).drew
    rw [FN.drew, FN.setCell, FN.setCell]
    exact ((hr1.set_ (nx' := 1) (at' := at_) (l' := upd l 0 (IntKind.u64.wrap (ldv L0 (i * 6)))) 4 (.int .u64 (IntKind.u64.wrap (ldv L0 (i * 6)))) rfl).set_ (nx' := 2) (at' := at_) (l' := upd l 0 (IntKind.u64.wrap (ldv L0 (i * 6)))) 2 _ rfl).drew
set_option maxHeartbeats 1600000 in
theorem rdLoad_1 (i0 : 0 ≤ i) (i1 : i < q) (h : RdAt F w rb tb cb q L0 L2 i 2 at_ l) :
    Calls Try.prog 69 #[.pointer (some ⟨rb, 0, none⟩)] w (RdPost F w rb tb cb q L0 L2 i (.tuple #[.bool false, .int .i64 0]) 3 at_ (upd l 1 (IntKind.u64.wrap (ldv L0 (i * 6 + 1))))) := by
  have hq := h.t.q64
  have e1 : er L0 (i * 6 + 1) = 0 := by
    have : inB L0 (i * 6 + 1) = true := inB_true.2 ⟨by omega, by rw [h.t.len0]; omega⟩
    simp [er, this]
  have hi : i < 64 := by omega
  obtain ⟨d0, d1, d2, d3, d4⟩ := h.loads
  have H0 := Lib.hid h
  clear h i1
  have s0 : IntKind.i64.wrap (i * 6) = i * 6 := IntWalk.i64_in _ (by omega)
  have s1 : IntKind.i64.wrap (i * 6 + 2) = i * 6 + 2 := IntWalk.i64_in _ (by omega)
  have s2 : IntKind.i64.wrap (i * 6 + 2 - 1) = i * 6 + 1 := (IntWalk.i64_in _ (by omega)).trans (by omega)
  go_enter Try.func69, Try.ntmps69
  go_wp2_with fail
  go_region_held3 (fun w' => w'.cell? ⟨rb, 0, none⟩ = some (.pointer (some ⟨tb, 0, none⟩)) ∧ w'.cell? ⟨rb, 1, none⟩ = some (.int .i64 i) ∧ w'.cell? ⟨rb, 2, none⟩ = some (.int .i64 2) ∧ w'.cell? ⟨tb, 0, none⟩ = some (.pointer (some ⟨cb, 0, none⟩)))
    (first | (obtain ⟨h0, h1, h2, h3, h4⟩ := RdAt.loads (by assumption); exact ⟨h0, h1, h2, h4⟩) | go_keep)
    (first
      | (go_at_call 24; refine (RdAt.go H0.out.drew (fun F w _ hc => cLoad_any F w cb _ _ _ (i * 6 + 1) hc)).mono ?_; rintro e w1 ⟨rfl, hr1, hf1⟩))
  clear s0 s1 s2 d0 d1 d2 d3 d4
  obtain ⟨c0, c1, c2, c3, c4⟩ := hr1.loads
  have z2 := hr1.frz 2
  have z4 := hr1.frz 5
  have b1 : w1.cell? ⟨rb, 5, none⟩ = some (.int .u64 (l 1)) := hr1.rd.cell 5
  go_wp2_with fail
  go_region
  all_goals
    go_wp2
    go_ret2
    refine RdPost.mk_ ?_ (((Fr.rb (Fr.of_drew hf1)).setCell (p := ⟨rb, 5, none⟩) (.inl (.inr rfl)) _).setCell (p := ⟨rb, 2, none⟩) (.inl (.inr rfl)) _).drew
    rw [FN.drew, FN.setCell, FN.setCell]
    exact ((hr1.set_ (nx' := 2) (at' := at_) (l' := upd l 1 (IntKind.u64.wrap (ldv L0 (i * 6 + 1)))) 5 (.int .u64 (IntKind.u64.wrap (ldv L0 (i * 6 + 1)))) rfl).set_ (nx' := 3) (at' := at_) (l' := upd l 1 (IntKind.u64.wrap (ldv L0 (i * 6 + 1)))) 2 _ rfl).drew
set_option maxHeartbeats 1600000 in
theorem rdLoad_2 (i0 : 0 ≤ i) (i1 : i < q) (h : RdAt F w rb tb cb q L0 L2 i 3 at_ l) :
    Calls Try.prog 69 #[.pointer (some ⟨rb, 0, none⟩)] w (RdPost F w rb tb cb q L0 L2 i (.tuple #[.bool false, .int .i64 0]) 4 at_ (upd l 2 (IntKind.u64.wrap (ldv L0 (i * 6 + 2))))) := by
  have hq := h.t.q64
  have e1 : er L0 (i * 6 + 2) = 0 := by
    have : inB L0 (i * 6 + 2) = true := inB_true.2 ⟨by omega, by rw [h.t.len0]; omega⟩
    simp [er, this]
  have hi : i < 64 := by omega
  obtain ⟨d0, d1, d2, d3, d4⟩ := h.loads
  have H0 := Lib.hid h
  clear h i1
  have s0 : IntKind.i64.wrap (i * 6) = i * 6 := IntWalk.i64_in _ (by omega)
  have s1 : IntKind.i64.wrap (i * 6 + 3) = i * 6 + 3 := IntWalk.i64_in _ (by omega)
  have s2 : IntKind.i64.wrap (i * 6 + 3 - 1) = i * 6 + 2 := (IntWalk.i64_in _ (by omega)).trans (by omega)
  go_enter Try.func69, Try.ntmps69
  go_wp2_with fail
  go_region_held3 (fun w' => w'.cell? ⟨rb, 0, none⟩ = some (.pointer (some ⟨tb, 0, none⟩)) ∧ w'.cell? ⟨rb, 1, none⟩ = some (.int .i64 i) ∧ w'.cell? ⟨rb, 2, none⟩ = some (.int .i64 3) ∧ w'.cell? ⟨tb, 0, none⟩ = some (.pointer (some ⟨cb, 0, none⟩)))
    (first | (obtain ⟨h0, h1, h2, h3, h4⟩ := RdAt.loads (by assumption); exact ⟨h0, h1, h2, h4⟩) | go_keep)
    (first
      | (go_at_call 24; refine (RdAt.go H0.out.drew (fun F w _ hc => cLoad_any F w cb _ _ _ (i * 6 + 2) hc)).mono ?_; rintro e w1 ⟨rfl, hr1, hf1⟩))
  clear s0 s1 s2 d0 d1 d2 d3 d4
  obtain ⟨c0, c1, c2, c3, c4⟩ := hr1.loads
  have z2 := hr1.frz 2
  have z4 := hr1.frz 6
  have b2 : w1.cell? ⟨rb, 6, none⟩ = some (.int .u64 (l 2)) := hr1.rd.cell 6
  go_wp2_with fail
  go_region
  all_goals
    go_wp2
    go_ret2
    refine RdPost.mk_ ?_ (((Fr.rb (Fr.of_drew hf1)).setCell (p := ⟨rb, 6, none⟩) (.inl (.inr rfl)) _).setCell (p := ⟨rb, 2, none⟩) (.inl (.inr rfl)) _).drew
    rw [FN.drew, FN.setCell, FN.setCell]
    exact ((hr1.set_ (nx' := 3) (at' := at_) (l' := upd l 2 (IntKind.u64.wrap (ldv L0 (i * 6 + 2)))) 6 (.int .u64 (IntKind.u64.wrap (ldv L0 (i * 6 + 2)))) rfl).set_ (nx' := 4) (at' := at_) (l' := upd l 2 (IntKind.u64.wrap (ldv L0 (i * 6 + 2)))) 2 _ rfl).drew
set_option maxHeartbeats 1600000 in
theorem rdLoad_3 (i0 : 0 ≤ i) (i1 : i < q) (h : RdAt F w rb tb cb q L0 L2 i 4 at_ l) :
    Calls Try.prog 69 #[.pointer (some ⟨rb, 0, none⟩)] w (RdPost F w rb tb cb q L0 L2 i (.tuple #[.bool false, .int .i64 0]) 5 at_ (upd l 3 (IntKind.u64.wrap (ldv L0 (i * 6 + 3))))) := by
  have hq := h.t.q64
  have e1 : er L0 (i * 6 + 3) = 0 := by
    have : inB L0 (i * 6 + 3) = true := inB_true.2 ⟨by omega, by rw [h.t.len0]; omega⟩
    simp [er, this]
  have hi : i < 64 := by omega
  obtain ⟨d0, d1, d2, d3, d4⟩ := h.loads
  have H0 := Lib.hid h
  clear h i1
  have s0 : IntKind.i64.wrap (i * 6) = i * 6 := IntWalk.i64_in _ (by omega)
  have s1 : IntKind.i64.wrap (i * 6 + 4) = i * 6 + 4 := IntWalk.i64_in _ (by omega)
  have s2 : IntKind.i64.wrap (i * 6 + 4 - 1) = i * 6 + 3 := (IntWalk.i64_in _ (by omega)).trans (by omega)
  go_enter Try.func69, Try.ntmps69
  go_wp2_with fail
  go_region_held3 (fun w' => w'.cell? ⟨rb, 0, none⟩ = some (.pointer (some ⟨tb, 0, none⟩)) ∧ w'.cell? ⟨rb, 1, none⟩ = some (.int .i64 i) ∧ w'.cell? ⟨rb, 2, none⟩ = some (.int .i64 4) ∧ w'.cell? ⟨tb, 0, none⟩ = some (.pointer (some ⟨cb, 0, none⟩)))
    (first | (obtain ⟨h0, h1, h2, h3, h4⟩ := RdAt.loads (by assumption); exact ⟨h0, h1, h2, h4⟩) | go_keep)
    (first
      | (go_at_call 24; refine (RdAt.go H0.out.drew (fun F w _ hc => cLoad_any F w cb _ _ _ (i * 6 + 3) hc)).mono ?_; rintro e w1 ⟨rfl, hr1, hf1⟩))
  clear s0 s1 s2 d0 d1 d2 d3 d4
  obtain ⟨c0, c1, c2, c3, c4⟩ := hr1.loads
  have z2 := hr1.frz 2
  have z4 := hr1.frz 7
  have b3 : w1.cell? ⟨rb, 7, none⟩ = some (.int .u64 (l 3)) := hr1.rd.cell 7
  go_wp2_with fail
  go_region
  all_goals
    go_wp2
    go_ret2
    refine RdPost.mk_ ?_ (((Fr.rb (Fr.of_drew hf1)).setCell (p := ⟨rb, 7, none⟩) (.inl (.inr rfl)) _).setCell (p := ⟨rb, 2, none⟩) (.inl (.inr rfl)) _).drew
    rw [FN.drew, FN.setCell, FN.setCell]
    exact ((hr1.set_ (nx' := 4) (at' := at_) (l' := upd l 3 (IntKind.u64.wrap (ldv L0 (i * 6 + 3)))) 7 (.int .u64 (IntKind.u64.wrap (ldv L0 (i * 6 + 3)))) rfl).set_ (nx' := 5) (at' := at_) (l' := upd l 3 (IntKind.u64.wrap (ldv L0 (i * 6 + 3)))) 2 _ rfl).drew
set_option maxHeartbeats 1600000 in
theorem rdLoad_4 (i0 : 0 ≤ i) (i1 : i < q) (h : RdAt F w rb tb cb q L0 L2 i 5 at_ l) :
    Calls Try.prog 69 #[.pointer (some ⟨rb, 0, none⟩)] w (RdPost F w rb tb cb q L0 L2 i (.tuple #[.bool false, .int .i64 0]) 6 at_ (upd l 4 (IntKind.u64.wrap (ldv L0 (i * 6 + 4))))) := by
  have hq := h.t.q64
  have e1 : er L0 (i * 6 + 4) = 0 := by
    have : inB L0 (i * 6 + 4) = true := inB_true.2 ⟨by omega, by rw [h.t.len0]; omega⟩
    simp [er, this]
  have hi : i < 64 := by omega
  obtain ⟨d0, d1, d2, d3, d4⟩ := h.loads
  have H0 := Lib.hid h
  clear h i1
  have s0 : IntKind.i64.wrap (i * 6) = i * 6 := IntWalk.i64_in _ (by omega)
  have s1 : IntKind.i64.wrap (i * 6 + 5) = i * 6 + 5 := IntWalk.i64_in _ (by omega)
  have s2 : IntKind.i64.wrap (i * 6 + 5 - 1) = i * 6 + 4 := (IntWalk.i64_in _ (by omega)).trans (by omega)
  go_enter Try.func69, Try.ntmps69
  go_wp2_with fail
  go_region_held3 (fun w' => w'.cell? ⟨rb, 0, none⟩ = some (.pointer (some ⟨tb, 0, none⟩)) ∧ w'.cell? ⟨rb, 1, none⟩ = some (.int .i64 i) ∧ w'.cell? ⟨rb, 2, none⟩ = some (.int .i64 5) ∧ w'.cell? ⟨tb, 0, none⟩ = some (.pointer (some ⟨cb, 0, none⟩)))
    (first | (obtain ⟨h0, h1, h2, h3, h4⟩ := RdAt.loads (by assumption); exact ⟨h0, h1, h2, h4⟩) | go_keep)
    (first
      | (go_at_call 24; refine (RdAt.go H0.out.drew (fun F w _ hc => cLoad_any F w cb _ _ _ (i * 6 + 4) hc)).mono ?_; rintro e w1 ⟨rfl, hr1, hf1⟩))
  clear s0 s1 s2 d0 d1 d2 d3 d4
  obtain ⟨c0, c1, c2, c3, c4⟩ := hr1.loads
  have z2 := hr1.frz 2
  have z4 := hr1.frz 8
  have b4 : w1.cell? ⟨rb, 8, none⟩ = some (.int .u64 (l 4)) := hr1.rd.cell 8
  go_wp2_with fail
  go_region
  all_goals
    go_wp2
    go_ret2
    refine RdPost.mk_ ?_ (((Fr.rb (Fr.of_drew hf1)).setCell (p := ⟨rb, 8, none⟩) (.inl (.inr rfl)) _).setCell (p := ⟨rb, 2, none⟩) (.inl (.inr rfl)) _).drew
    rw [FN.drew, FN.setCell, FN.setCell]
    exact ((hr1.set_ (nx' := 5) (at' := at_) (l' := upd l 4 (IntKind.u64.wrap (ldv L0 (i * 6 + 4)))) 8 (.int .u64 (IntKind.u64.wrap (ldv L0 (i * 6 + 4)))) rfl).set_ (nx' := 6) (at' := at_) (l' := upd l 4 (IntKind.u64.wrap (ldv L0 (i * 6 + 4)))) 2 _ rfl).drew
set_option maxHeartbeats 1600000 in
theorem rdLoad_5 (i0 : 0 ≤ i) (i1 : i < q) (h : RdAt F w rb tb cb q L0 L2 i 6 at_ l) :
    Calls Try.prog 69 #[.pointer (some ⟨rb, 0, none⟩)] w (RdPost F w rb tb cb q L0 L2 i (.tuple #[.bool false, .int .i64 0]) 7 at_ (upd l 5 (IntKind.u64.wrap (ldv L0 (i * 6 + 5))))) := by
  have hq := h.t.q64
  have e1 : er L0 (i * 6 + 5) = 0 := by
    have : inB L0 (i * 6 + 5) = true := inB_true.2 ⟨by omega, by rw [h.t.len0]; omega⟩
    simp [er, this]
  have hi : i < 64 := by omega
  obtain ⟨d0, d1, d2, d3, d4⟩ := h.loads
  have H0 := Lib.hid h
  clear h i1
  have s0 : IntKind.i64.wrap (i * 6) = i * 6 := IntWalk.i64_in _ (by omega)
  have s1 : IntKind.i64.wrap (i * 6 + 6) = i * 6 + 6 := IntWalk.i64_in _ (by omega)
  have s2 : IntKind.i64.wrap (i * 6 + 6 - 1) = i * 6 + 5 := (IntWalk.i64_in _ (by omega)).trans (by omega)
  go_enter Try.func69, Try.ntmps69
  go_wp2_with fail
  go_region_held3 (fun w' => w'.cell? ⟨rb, 0, none⟩ = some (.pointer (some ⟨tb, 0, none⟩)) ∧ w'.cell? ⟨rb, 1, none⟩ = some (.int .i64 i) ∧ w'.cell? ⟨rb, 2, none⟩ = some (.int .i64 6) ∧ w'.cell? ⟨tb, 0, none⟩ = some (.pointer (some ⟨cb, 0, none⟩)))
    (first | (obtain ⟨h0, h1, h2, h3, h4⟩ := RdAt.loads (by assumption); exact ⟨h0, h1, h2, h4⟩) | go_keep)
    (first
      | (go_at_call 24; refine (RdAt.go H0.out.drew (fun F w _ hc => cLoad_any F w cb _ _ _ (i * 6 + 5) hc)).mono ?_; rintro e w1 ⟨rfl, hr1, hf1⟩))
  clear s0 s1 s2 d0 d1 d2 d3 d4
  obtain ⟨c0, c1, c2, c3, c4⟩ := hr1.loads
  have z2 := hr1.frz 2
  have z4 := hr1.frz 9
  have b5 : w1.cell? ⟨rb, 9, none⟩ = some (.int .u64 (l 5)) := hr1.rd.cell 9
  go_wp2_with fail
  go_region
  all_goals
    go_wp2
    go_ret2
    refine RdPost.mk_ ?_ (((Fr.rb (Fr.of_drew hf1)).setCell (p := ⟨rb, 9, none⟩) (.inl (.inr rfl)) _).setCell (p := ⟨rb, 2, none⟩) (.inl (.inr rfl)) _).drew
    rw [FN.drew, FN.setCell, FN.setCell]
    exact ((hr1.set_ (nx' := 6) (at' := at_) (l' := upd l 5 (IntKind.u64.wrap (ldv L0 (i * 6 + 5)))) 9 (.int .u64 (IntKind.u64.wrap (ldv L0 (i * 6 + 5)))) rfl).set_ (nx' := 7) (at' := at_) (l' := upd l 5 (IntKind.u64.wrap (ldv L0 (i * 6 + 5)))) 2 _ rfl).drew
theorem FN.setCell_left (F : Nat → Prop) (w w1 : World) (a : Addr) (v : Value) : FN F (w.setCell a v) w1 = FN F w w1 := by funext k; simp [FN, World.setCell]
theorem Fr.after_set {F : Nat → Prop} {w w1 : World} {j : Nat} {v : Value} {rb : Nat} (h : Fr F (w.setCell ⟨rb, j, none⟩ v) w1) : Fr (fun k => F k ∨ k = rb) w w1 :=
  ((Fr.refl (fun k => F k ∨ k = rb) w).setCell (p := ⟨rb, j, none⟩) (.inl (.inr rfl)) v).trans' (Fr.rb h)
set_option maxHeartbeats 1600000 in
theorem rdEnd_any (hi : inB L2 i = true) (h : RdAt F w rb tb cb q L0 L2 i nx at_ l) :
    Calls Try.prog 70 #[.pointer (some ⟨rb, 0, none⟩)] w (RdPost F w rb tb cb q L0 L2 i (.tuple #[.bool (enB L2 i at_), .int .i64 (if enB L2 i at_ then 0 else 111)]) 0 at_ l) := by
  have z2 := h.frz 2
  have c2 := h.loads.2.2.1
  have h1 := h.set_ (nx' := 0) (at' := at_) (l' := l) 2 (.int .i64 0) rfl
  obtain ⟨d0, d1, d2, d3, d4⟩ := h1.loads
  have e1 : er L2 i = 0 := by simp [er, hi]
  have H0 := Lib.hid h1
  clear h h1 hi
  cases ho : enB L2 i at_ with
  | true =>
    simp only [if_true]
    go_enter Try.func70, Try.ntmps70
    go_wp2_with fail
    go_region_held3 (fun w' => w'.cell? ⟨rb, 0, none⟩ = some (.pointer (some ⟨tb, 0, none⟩)) ∧ w'.cell? ⟨rb, 1, none⟩ = some (.int .i64 i) ∧ w'.cell? ⟨rb, 3, none⟩ = some (.int .i64 at_) ∧ w'.cell? ⟨tb, 0, none⟩ = some (.pointer (some ⟨cb, 0, none⟩)))
      (first | (obtain ⟨h0, h1, h2, h3, h4⟩ := RdAt.loads (by assumption); exact ⟨h0, h1, h3, h4⟩) | exact ⟨d0, d1, d3, d4⟩ | go_keep)
      (first
        | (go_at_call 29; refine (RdAt.go H0.out.drew (fun F w _ hc => cEnd_any F w cb _ _ _ i at_ hc)).mono ?_; rintro e w1 ⟨rfl, hr1, hf1⟩))
    go_wp2
    go_ret2
    refine RdPost.mk_ ?_ (Fr.after_set (Fr.of_drew hf1))
    rw [show FN F ((w.setCell ⟨rb, 2, none⟩ (.int .i64 0)).drew) w1 = FN F w w1 from FN.setCell_left F w w1 _ _] at hr1
    exact hr1
  | false =>
    simp only [Bool.false_eq_true, if_false]
    go_enter Try.func70, Try.ntmps70
    go_wp2_with fail
    go_region_held3 (fun w' => w'.cell? ⟨rb, 0, none⟩ = some (.pointer (some ⟨tb, 0, none⟩)) ∧ w'.cell? ⟨rb, 1, none⟩ = some (.int .i64 i) ∧ w'.cell? ⟨rb, 3, none⟩ = some (.int .i64 at_) ∧ w'.cell? ⟨tb, 0, none⟩ = some (.pointer (some ⟨cb, 0, none⟩)))
      (first | (obtain ⟨h0, h1, h2, h3, h4⟩ := RdAt.loads (by assumption); exact ⟨h0, h1, h3, h4⟩) | exact ⟨d0, d1, d3, d4⟩ | go_keep)
      (first
        | (go_at_call 29; refine (RdAt.go H0.out.drew (fun F w _ hc => cEnd_any F w cb _ _ _ i at_ hc)).mono ?_; rintro e w1 ⟨rfl, hr1, hf1⟩))
    go_wp2
    go_ret2
    refine RdPost.mk_ ?_ (Fr.after_set (Fr.of_drew hf1))
    rw [show FN F ((w.setCell ⟨rb, 2, none⟩ (.int .i64 0)).drew) w1 = FN F w w1 from FN.setCell_left F w w1 _ _] at hr1
    exact hr1
end
end Go.Proofs.Ytkilibdalgnghaa
