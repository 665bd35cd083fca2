/-
  The program's cells, locks and counts (package cells) in memory, and the contracts of all its functions: whatever numbers, in whatever world in which such a thing lies.
-/
import Derived.Test.YtkilibdalgnghaaOnce
import Derived.Laws.MakeOwn
import Derived.Laws.OwnMore
import Derived.Shelf.Abstract
import Derived.LoopTactic
namespace Go.Proofs.Ytkilibdalgnghaa
set_option linter.unusedVariables false
set_option linter.unusedSimpArgs false
open Go.RowKit Go.Shelf

/-- Whole numbers as cells. -/
def ints (l : List Int) : Array Value := (l.map (Value.int .i64)).toArray
theorem ints_size (l : List Int) : (ints l).size = l.length := by simp [ints]
theorem ints_get (l : List Int) (i : Nat) : (ints l)[i]? = (l[i]?).map (Value.int .i64) := by simp [ints]
theorem ints_set (l : List Int) (i : Nat) (v : Int) : (ints l).setIfInBounds i (.int .i64 v) = ints (l.set i v) := by
  apply Array.ext_getElem?
  intro j
  simp only [ints, List.setIfInBounds_toArray, List.getElem?_toArray]
  rw [← List.map_set]

/-- 'make' of so many numbers of one cell each. -/
theorem run_make_ints {P : Program} (t e : TypeId) (i : TypeInfo) (z : Value) (ht : P.underlying t = some (.slice e)) (hi : P.info? e = some i) (hz : i.zero = some z) (hc : z.cells = #[.int .i64 0]) (h1 : i.size = 1) (h8 : i.bytes = 8)
    (kl kc : IntKind) (n : Nat) (hn : n ≤ 1000000) (w : World) :
    (Instr.makeSlice t (.int kl (n : Int)) (.int kc (n : Int))).run P w = .ok (.slice (some ⟨w.heap.size, 0, none⟩) n n) (w.alloc (.cells (ints (List.replicate n 0)) e)) := by
  have hr := run_make (P := P) w t e i z ht hi hz kl kc n n (by omega) (by omega) (by rw [h8]; omega) (by omega)
  simp only [Int.toNat_natCast] at hr
  rw [hr, h1, Nat.mul_one, hc]
  have hm : madeCells #[Value.int .i64 0] n = ints (List.replicate n 0) := by
    apply Array.ext'
    rw [toList_madeCells_one]
    simp [ints]
  rw [hm]

def rep0 (n : Nat) : List Int := List.replicate n 0
theorem rep0_length (n : Nat) : (rep0 n).length = n := by simp [rep0]
theorem rep0_get (n i : Nat) (h : i < n) : (rep0 n)[i]? = some 0 := by simp [rep0, List.getElem?_replicate, h]

/-- A number of int64. -/
def inI64 (x : Int) : Prop := -9223372036854775808 ≤ x ∧ x ≤ 9223372036854775807
theorem inI64_wrap (x : Int) : inI64 (wrap64 x) := by unfold inI64 wrap64; omega
theorem inI64_zero : inI64 0 := by unfold inI64; omega
/-- Cells that were made: the struct at block b, the numbers, holders, counts in blocks of their own; F: blocks that are theirs. -/
structure CellsM (F : Nat → Prop) (w : World) (b g0 g1 g2 : Nat) (l0 l1 l2 : List Int) : Prop where
  blk : ∃ sm : Int, Blk w b 102 #[.int .u32 1, .int .i32 0, .int .u32 sm, .int .i64 l0.length, .int .i64 l1.length, .int .i64 l2.length, .slice (some ⟨g0, 0, none⟩) l0.length l0.length, .slice (some ⟨g1, 0, none⟩) l1.length l1.length, .slice (some ⟨g2, 0, none⟩) l2.length l2.length]
  b0 : Blk w g0 139 (ints l0)
  b1 : Blk w g1 139 (ints l1)
  b2 : Blk w g2 139 (ints l2)
  n01 : g0 ≠ g1
  n02 : g0 ≠ g2
  n12 : g1 ≠ g2
  fb : F b
  f0 : F g0
  f1 : F g1
  f2 : F g2
  m0 : l0.length ≤ 1000
  m1 : l1.length ≤ 1000
  m2 : l2.length ≤ 1000
  r2 : ∀ x ∈ l2, inI64 x

/-- Cells that were not asked for yet. -/
structure CellsF (F : Nat → Prop) (w : World) (b : Nat) (n0 n1 n2 : Nat) : Prop where
  blk : ∃ sm : Int, Blk w b 102 #[.int .u32 0, .int .i32 0, .int .u32 sm, .int .i64 n0, .int .i64 n1, .int .i64 n2, .slice none 0 0, .slice none 0 0, .slice none 0 0]
  fb : F b
  m0 : n0 ≤ 1000
  m1 : n1 ≤ 1000
  m2 : n2 ≤ 1000

/-- Cells. -/
def CellsAt (F : Nat → Prop) (w : World) (b : Nat) (l0 l1 l2 : List Int) : Prop :=
  (∃ n0 n1 n2, CellsF F w b n0 n1 n2 ∧ l0 = rep0 n0 ∧ l1 = rep0 n1 ∧ l2 = rep0 n2) ∨ ∃ g0 g1 g2, CellsM F w b g0 g1 g2 l0 l1 l2

section
variable {F G : Nat → Prop} {w w' : World} {b g0 g1 g2 : Nat} {l0 l1 l2 : List Int}
theorem CellsM.frame (h : CellsM F w b g0 g1 g2 l0 l1 l2) (hf : Fr G w w') (hd : ∀ k, F k → ¬ G k) : CellsM F w' b g0 g1 g2 l0 l1 l2 := by
  obtain ⟨⟨sm, h0⟩, h1, h2, h3, a, b, c, d0, d1, d2, d3, e0, e1, e2, rr⟩ := h
  exact ⟨⟨sm, hf.blk h0 (hd _ d0)⟩, hf.blk h1 (hd _ d1), hf.blk h2 (hd _ d2), hf.blk h3 (hd _ d3), a, b, c, d0, d1, d2, d3, e0, e1, e2, rr⟩
theorem CellsF.frame {n0 n1 n2 : Nat} (h : CellsF F w b n0 n1 n2) (hf : Fr G w w') (hd : ∀ k, F k → ¬ G k) : CellsF F w' b n0 n1 n2 := by
  obtain ⟨⟨sm, h0⟩, d0, e1, e2, e3⟩ := h
  exact ⟨⟨sm, hf.blk h0 (hd _ d0)⟩, d0, e1, e2, e3⟩
theorem CellsAt.frame (h : CellsAt F w b l0 l1 l2) (hf : Fr G w w') (hd : ∀ k, F k → ¬ G k) : CellsAt F w' b l0 l1 l2 := by
  rcases h with ⟨n0, n1, n2, h, e⟩ | ⟨g0, g1, g2, h⟩
  · exact .inl ⟨n0, n1, n2, h.frame hf hd, e⟩
  · exact .inr ⟨g0, g1, g2, h.frame hf hd⟩
theorem CellsM.mono (h : CellsM F w b g0 g1 g2 l0 l1 l2) (hd : ∀ k, F k → G k) : CellsM G w b g0 g1 g2 l0 l1 l2 := by
  obtain ⟨h0, h1, h2, h3, a, b, c, d0, d1, d2, d3, e0, e1, e2, rr⟩ := h
  exact ⟨h0, h1, h2, h3, a, b, c, hd _ d0, hd _ d1, hd _ d2, hd _ d3, e0, e1, e2, rr⟩
theorem CellsAt.mono (h : CellsAt F w b l0 l1 l2) (hd : ∀ k, F k → G k) : CellsAt G w b l0 l1 l2 := by
  rcases h with ⟨n0, n1, n2, h, e⟩ | ⟨g0, g1, g2, h⟩
  · exact .inl ⟨n0, n1, n2, ⟨h.blk, hd _ h.fb, h.m0, h.m1, h.m2⟩, e⟩
  · exact .inr ⟨g0, g1, g2, h.mono hd⟩
theorem CellsM.fr0 (h : CellsM F w b g0 g1 g2 l0 l1 l2) (i : Nat) (v : Int) : CellsM F (w.setCell ⟨g0, i, none⟩ (.int .i64 v)) b g0 g1 g2 (l0.set i v) l1 l2 := by
  obtain ⟨⟨sm, h0⟩, h1, h2, h3, a, b, c, d0, d1, d2, d3, e0, e1, e2, rr⟩ := h
  refine ⟨⟨sm, ?_⟩, ?_, h2.far (Ne.symm a) _, h3.far (Ne.symm b) _, a, b, c, d0, d1, d2, d3, by simpa using e0, e1, e2, rr⟩
  · rw [List.length_set]
    exact h0.far (h0.ne_ h1 (by decide)) _
  · rw [← ints_set]
    exact h1.set_ i _
theorem CellsM.fr1 (h : CellsM F w b g0 g1 g2 l0 l1 l2) (i : Nat) (v : Int) : CellsM F (w.setCell ⟨g1, i, none⟩ (.int .i64 v)) b g0 g1 g2 l0 (l1.set i v) l2 := by
  obtain ⟨⟨sm, h0⟩, h1, h2, h3, a, b, c, d0, d1, d2, d3, e0, e1, e2, rr⟩ := h
  refine ⟨⟨sm, ?_⟩, h1.far a _, ?_, h3.far (Ne.symm c) _, a, b, c, d0, d1, d2, d3, e0, by simpa using e1, e2, rr⟩
  · rw [List.length_set]
    exact h0.far (h0.ne_ h2 (by decide)) _
  · rw [← ints_set]
    exact h2.set_ i _
theorem CellsM.fr2 (h : CellsM F w b g0 g1 g2 l0 l1 l2) (i : Nat) (v : Int) (hv : inI64 v) : CellsM F (w.setCell ⟨g2, i, none⟩ (.int .i64 v)) b g0 g1 g2 l0 l1 (l2.set i v) := by
  obtain ⟨⟨sm, h0⟩, h1, h2, h3, a, b, c, d0, d1, d2, d3, e0, e1, e2, rr⟩ := h
  refine ⟨⟨sm, ?_⟩, h1.far b _, h2.far c _, ?_, a, b, c, d0, d1, d2, d3, e0, e1, by simpa using e2, fun x hx => (List.mem_or_eq_of_mem_set hx).elim (rr x) (fun e => e ▸ hv)⟩
  · rw [List.length_set]
    exact h0.far (h0.ne_ h3 (by decide)) _
  · rw [← ints_set]
    exact h3.set_ i _
end

theorem mk_ints (n : Nat) (hn : n ≤ 1000000) (w : World) : (Instr.makeSlice 100 (.int .i64 (n : Int)) (.int .i64 (n : Int))).run Try.prog w = .ok (.slice (some ⟨w.heap.size, 0, none⟩) n n) (w.alloc (.cells (ints (rep0 n)) 139)) := by
  have hI : (Try.prog.info? 139).map (fun i => (i.zero.map Value.cells, i.size, i.bytes)) = some (some #[.int .i64 0], 1, 8) := by kernel_rfl
  obtain ⟨i, hi, he⟩ := Option.map_eq_some_iff.1 hI
  obtain ⟨h1, h2, h3⟩ : i.zero.map Value.cells = some #[.int .i64 0] ∧ i.size = 1 ∧ i.bytes = 8 := by simpa using he
  obtain ⟨z, hz, hzc⟩ := Option.map_eq_some_iff.1 h1
  exact run_make_ints _ _ i z Try.underlying100 hi hz hzc h2 h3 _ _ n hn w

set_option maxHeartbeats 800000 in
/-- make: three rows of zeros, laid behind all that there is. -/
theorem make_any (b : Nat) (d m s : Value) (n0 n1 n2 : Nat) (x y z : Value) (w : World) (hn0 : n0 ≤ 1000) (hn1 : n1 ≤ 1000) (hn2 : n2 ≤ 1000)
    (hb : Blk w b 102 #[d, m, s, .int .i64 n0, .int .i64 n1, .int .i64 n2, x, y, z]) :
    Calls Try.prog 81 #[.pointer (some ⟨b, 0, none⟩)] w fun e w' => e = .returned (.tuple #[]) ∧
      (Blk w' b 102 #[d, m, s, .int .i64 n0, .int .i64 n1, .int .i64 n2, .slice (some ⟨w.heap.size, 0, none⟩) n0 n0, .slice (some ⟨w.heap.size + 1, 0, none⟩) n1 n1, .slice (some ⟨w.heap.size + 2, 0, none⟩) n2 n2] ∧
      Blk w' w.heap.size 139 (ints (rep0 n0)) ∧ Blk w' (w.heap.size + 1) 139 (ints (rep0 n1)) ∧ Blk w' (w.heap.size + 2) 139 (ints (rep0 n2)) ∧ Fr (· = b) w w' ∧ w'.heap.size = w.heap.size + 3) := by
  have hlt := hb.lt
  have hlt1 : b < w.heap.size + 1 := by omega
  have hlt2 : b < w.heap.size + 1 + 1 := by omega
  have c3 : w.cell? ⟨b, 3, none⟩ = some (.int .i64 n0) := hb.cell 3
  have c4 : w.cell? ⟨b, 4, none⟩ = some (.int .i64 n1) := hb.cell 4
  have c5 : w.cell? ⟨b, 5, none⟩ = some (.int .i64 n2) := hb.cell 5
  have c6 : w.cell? ⟨b, 6, none⟩ = some x := hb.cell 6
  have c7 : w.cell? ⟨b, 7, none⟩ = some y := hb.cell 7
  have c8 : w.cell? ⟨b, 8, none⟩ = some z := hb.cell 8
  have z6 : w.frozen? ⟨b, 6, none⟩ = false := hb.frozen 6
  have z7 : w.frozen? ⟨b, 7, none⟩ = false := hb.frozen 7
  have z8 : w.frozen? ⟨b, 8, none⟩ = false := hb.frozen 8
  have k0 := mk_ints n0 (by omega)
  have k1 := mk_ints n1 (by omega)
  have k2 := mk_ints n2 (by omega)
  go_enter Try.func81, Try.ntmps81
  go_wp2
  go_end0
  exact ⟨rfl, (((((hb.set_ 6 _).set_ 7 _).set_ 8 _).alloc _).alloc _).alloc _, ((Blk.new' (by simp)).alloc _).alloc _, (Blk.new' (by simp)).alloc _, Blk.new' (by simp),
    ((((((Fr.refl (· = b) w).setCell (p := ⟨b, 6, none⟩) (.inl rfl) _).setCell (p := ⟨b, 7, none⟩) (.inl rfl) _).setCell (p := ⟨b, 8, none⟩) (.inl rfl) _).alloc _).alloc _).alloc _, by simp⟩

/-- What the cells come to when they are asked for: they are made. -/
def Ensured (F : Nat → Prop) (w : World) (b : Nat) (l0 l1 l2 : List Int) (w' : World) : Prop :=
  ∃ g0 g1 g2, CellsM (FN F w w') w' b g0 g1 g2 l0 l1 l2 ∧ Fr F w w'

theorem cMake_enters (args : Array Value) (w : World) : (callFunc 81 args).run Try.prog w = .ok (.enter 81 args) w := enters_of Try.func81 (by kernel_rfl) rfl args w

/-- c.made.Do(c.make), whichever call it is. -/
theorem ensure_any (F : Nat → Prop) (w : World) (b : Nat) (l0 l1 l2 : List Int) (h : CellsAt F w b l0 l1 l2) :
    Calls Try.prog 80 #[.pointer (some ⟨b, 0, none⟩), .func (.func 81) #[.pointer (some ⟨b, 0, none⟩)] #[]] w fun e w' => e = .returned (.tuple #[]) ∧ Ensured F w b l0 l1 l2 w' := by
  rcases h with ⟨n0, n1, n2, ⟨⟨sm, hb⟩, fb, m0, m1, m2⟩, rfl, rfl, rfl⟩ | ⟨g0, g1, g2, h⟩
  · have hb1 : Blk (w.setCell ⟨b, 1, none⟩ (.int .i32 1)) b _ _ := hb.set_ 1 _
    have hlt := hb.lt
    refine (do_first b 0 81 #[.pointer (some ⟨b, 0, none⟩)] #[] cMake_enters
      (fun w2 => Blk w2 b 102 #[.int .u32 0, .int .i32 1, .int .u32 sm, .int .i64 n0, .int .i64 n1, .int .i64 n2, .slice (some ⟨w.heap.size, 0, none⟩) n0 n0, .slice (some ⟨w.heap.size + 1, 0, none⟩) n1 n1, .slice (some ⟨w.heap.size + 2, 0, none⟩) n2 n2] ∧
        Blk w2 w.heap.size 139 (ints (rep0 n0)) ∧ Blk w2 (w.heap.size + 1) 139 (ints (rep0 n1)) ∧ Blk w2 (w.heap.size + 2) 139 (ints (rep0 n2)) ∧ Fr (· = b) w w2 ∧ w2.heap.size = w.heap.size + 3)
      w (hb.cell 0) (hb.cell 1) (hb.frozen 0) (hb.frozen 1) ?_).mono ?_
    · refine (make_any b _ _ _ n0 n1 n2 _ _ _ _ m0 m1 m2 hb1).mono ?_
      rintro e w2 ⟨rfl, h1, h2, h3, h4, h5, h6⟩
      have hs : (w.setCell ⟨b, 1, none⟩ (.int .i32 1)).heap.size = w.heap.size := by simp
      rw [hs] at h1 h2 h3 h4 h6
      exact ⟨rfl, ⟨h1, h2, h3, h4, ((Fr.refl (· = b) w).setCell (p := ⟨b, 1, none⟩) (.inl rfl) _).trans' h5, h6⟩, h1.cell 0, h1.cell 1, h1.frozen 0, h1.frozen 1⟩
    · rintro e w' ⟨rfl, w2, ⟨h1, h2, h3, h4, h5, h6⟩, rfl⟩
      have hb2 : Blk ((w2.drew.setCell ⟨b, 0, none⟩ (.int .u32 1)).setCell ⟨b, 0 + 1, none⟩ (.int .i32 0)) b _ _ := ((h1.drew).set_ 0 (.int .u32 1)).set_ 1 (.int .i32 0)
      have hsz : ((w2.drew.setCell ⟨b, 0, none⟩ (.int .u32 1)).setCell ⟨b, 0 + 1, none⟩ (.int .i32 0)).heap.size = w.heap.size + 3 := by simpa using h6
      refine ⟨rfl, w.heap.size, w.heap.size + 1, w.heap.size + 2, ⟨⟨sm, ?_⟩, ?_, ?_, ?_, by omega, by omega, by omega, .inl fb, .inr ⟨by omega, by omega⟩, .inr ⟨by omega, by omega⟩, .inr ⟨by omega, by omega⟩, ?_, ?_, ?_, fun x hx => by rw [List.eq_of_mem_replicate hx]; exact inI64_zero⟩, ?_⟩
      · simp only [rep0_length]; exact hb2
      · exact (h2.drew.far (p := ⟨b, 0, none⟩) (by simp; omega) _).far (p := ⟨b, 0 + 1, none⟩) (by simp; omega) _
      · exact (h3.drew.far (p := ⟨b, 0, none⟩) (by simp; omega) _).far (p := ⟨b, 0 + 1, none⟩) (by simp; omega) _
      · exact (h4.drew.far (p := ⟨b, 0, none⟩) (by simp; omega) _).far (p := ⟨b, 0 + 1, none⟩) (by simp; omega) _
      · simpa [rep0] using m0
      · simpa [rep0] using m1
      · simpa [rep0] using m2
      · exact (((h5.mono (G := F) (fun k hk => hk ▸ fb)).drew).setCell (p := ⟨b, 0, none⟩) (.inl fb) _).setCell (p := ⟨b, 0 + 1, none⟩) (.inl fb) _
  · obtain ⟨sm, hb⟩ := h.blk
    refine (do_done ⟨b, 0, none⟩ _ w (hb.cell 0)).mono ?_
    rintro e w' ⟨rfl, rfl⟩
    exact ⟨rfl, g0, g1, g2, by rw [FN.self]; exact h, Fr.refl _ _⟩


def rightB (l : List Int) : Bool := l.all fun n => decide (0 ≤ n) && decide (n ≤ 1000)

/-- areRight: whether all of the numbers are 0 to 1000. -/
theorem areRight_any (g c : Nat) (l : List Int) (w : World) (hl : l.length ≤ 1000) (hc : ∀ k v, l[k]? = some v → w.cell? ⟨g, k, none⟩ = some (.int .i64 v)) :
    Calls Try.prog 48 #[.slice (some ⟨g, 0, none⟩) l.length c] w fun e w' => e = .returned (.bool (rightB l)) ∧ w = w' := by
  have HC := Lib.hid hc
  clear hc
  go_enter Try.func48, Try.ntmps48
  go_wp2
  go_loop [7] (fun i => ∃ k : Nat, k ≤ l.length ∧ i = .int .i64 k ∧ rightB (l.take k) = true) (fun i => l.length - (intOf i).toNat)
  case atStart => exact ⟨0, Nat.zero_le _, rfl, rfl⟩
  case round =>
    obtain ⟨k, hk, rfl, hp⟩ := hrel
    have HP := Lib.hid hp
    clear hp
    by_cases hlt : k < l.length
    · have hcell : w.cell? ⟨g, k, none⟩ = some (.int .i64 l[k]) := HC.out k _ (List.getElem?_eq_getElem hlt)
      have HS : Hid (rightB (l.take (k + 1)) = (decide (0 ≤ l[k]) && decide (l[k] ≤ 1000))) := by
        show rightB (l.take (k + 1)) = _
        rw [List.take_succ_eq_append_getElem hlt]
        have := HP.out
        unfold rightB at this ⊢
        rw [List.all_append, this]
        simp
      have HT : Hid (rightB (l.take (k + 1)) = false → rightB l = false) := by
        show rightB (l.take (k + 1)) = false → rightB l = false
        intro h
        unfold rightB at h ⊢
        rw [← List.take_append_drop (k + 1) l, List.all_append, h]
        rfl
      generalize l[k] = v at *
      go_wp2
      all_goals first
        | (go_ret; exact ⟨(show Ending.returned (Value.bool false) = Ending.returned (Value.bool (rightB l)) by rw [HT.out (by rw [HS.out]; simp; omega)]), rfl⟩)
        | (refine ⟨⟨k + 1, by omega, by go_num, ?_⟩, by simp [intOf]; omega⟩; rw [HS.out]; simp; omega)
    · have hk' : k = l.length := by omega
      have HE := Lib.hid hk'
      clear hk'
      go_wp2
      go_ret
      refine ⟨?_, rfl⟩
      have := HP.out
      rw [HE.out, List.take_length] at this
      show Ending.returned (Value.bool true) = _
      rw [this]

theorem Blk.ints {w : World} {g : Nat} {t : TypeId} {l : List Int} (h : Blk w g t (ints l)) (k : Nat) (v : Int) (hk : l[k]? = some v) : w.cell? ⟨g, k, none⟩ = some (.int .i64 v) := by
  rw [h.cell k, ints_get, hk]
  rfl

set_option maxHeartbeats 400000 in
/-- New: which cells there may not be. -/
theorem cNew_bad (n m k : Int) (w : World) (h : rightB [n, m, k] = false) :
    Calls Try.prog 18 #[.int .i64 n, .int .i64 m, .int .i64 k] w fun e w' => e = .returned (.tuple #[.pointer none, .int .i64 2]) ∧ Fr no w w' := by
  have hc : ∀ (j : Nat) (v : Int), [n, m, k][j]? = some v → (w.alloc (.cells #[.int .i64 n, .int .i64 m, .int .i64 k] 3)).cell? ⟨w.heap.size, j, none⟩ = some (.int .i64 v) :=
    (Blk.new' (w := w) (t := 3) (cs := ints [n, m, k]) rfl).ints
  have HA := Lib.hid (areRight_any w.heap.size 3 [n, m, k] _ (by simp) hc)
  have HB := Lib.hid h
  clear h hc
  go_enter Try.func18, Try.ntmps18
  go_wp2_with (go_at_call 48; refine HA.out.mono ?_; rw [HB.out]; rintro e w' ⟨rfl, rfl⟩)
  go_ret2
  exact ⟨rfl, (Fr.refl no w).alloc _⟩

theorem rightB_three {n m k : Int} (h : rightB [n, m, k] = true) : (0 ≤ n ∧ n ≤ 1000) ∧ (0 ≤ m ∧ m ≤ 1000) ∧ (0 ≤ k ∧ k ≤ 1000) := by
  simpa [rightB] using h

/-- What New hands back. -/
def CNew (n m k : Nat) (w : World) (e : Ending) (w' : World) : Prop :=
  ∃ b, e = .returned (.tuple #[.pointer (some ⟨b, 0, none⟩), .int .i64 0]) ∧ CellsAt (FN no w w') w' b (rep0 n) (rep0 m) (rep0 k) ∧ Fr no w w'

set_option maxHeartbeats 400000 in
theorem cNew_ok (n m k : Nat) (w : World) (hn : n ≤ 1000) (hm : m ≤ 1000) (hk : k ≤ 1000) :
    Calls Try.prog 18 #[.int .i64 n, .int .i64 m, .int .i64 k] w (CNew n m k w) := by
  have hc : ∀ (j : Nat) (v : Int), [(n : Int), m, k][j]? = some v → (w.alloc (.cells #[.int .i64 n, .int .i64 m, .int .i64 k] 3)).cell? ⟨w.heap.size, j, none⟩ = some (.int .i64 v) :=
    (Blk.new' (w := w) (t := 3) (cs := ints [(n : Int), m, k]) rfl).ints
  have HA := Lib.hid (areRight_any w.heap.size 3 [(n : Int), m, k] _ (by simp) hc)
  have HB : Hid (rightB [(n : Int), m, k] = true) := by
    show rightB _ = true
    simp [rightB]
    omega
  clear hc
  go_enter Try.func18, Try.ntmps18
  go_wp2_with (go_at_call 48; refine HA.out.mono ?_; rw [HB.out]; rintro e w' ⟨rfl, rfl⟩)
  go_ret2
  refine ⟨w.heap.size + 1, rfl, .inl ⟨n, m, k, ⟨⟨0, ?_⟩, .inr ⟨by omega, by simp⟩, hn, hm, hk⟩, rfl, rfl, rfl⟩, ((Fr.refl no w).alloc _).alloc _⟩
  exact Blk.new' (by simp)

set_option maxHeartbeats 400000 in
/-- at: a place in a row. -/
theorem at_in (g : Nat) (n : Nat) (i : Int) (w : World) (h0 : 0 ≤ i) (h1 : i < n) (hn : n ≤ 1000) :
    Calls Try.prog 82 #[.slice (some ⟨g, 0, none⟩) n n, .int .i64 i] w fun e w' => e = .returned (.tuple #[.pointer (some ⟨g, i.toNat, none⟩), .int .i64 0]) ∧ w = w' := by
  have hd : decide (i < 0) = false := by simp; omega
  go_enter Try.func82, Try.ntmps82
  go_wp2
  go_ret2
  exact ⟨rfl, rfl⟩
set_option maxHeartbeats 400000 in
theorem at_out (g : Nat) (n : Nat) (i : Int) (w : World) (h : i < 0 ∨ (n : Int) ≤ i) :
    Calls Try.prog 82 #[.slice (some ⟨g, 0, none⟩) n n, .int .i64 i] w fun e w' => e = .returned (.tuple #[.pointer none, .int .i64 2]) ∧ w = w' := by
  rcases h with h | h
  · go_enter Try.func82, Try.ntmps82
    go_wp2
    go_ret2
    exact ⟨rfl, rfl⟩
  · by_cases h0 : i < 0
    · go_enter Try.func82, Try.ntmps82
      go_wp2
      go_ret2
      exact ⟨rfl, rfl⟩
    · go_enter Try.func82, Try.ntmps82
      go_wp2
      go_ret2
      exact ⟨rfl, rfl⟩

end Go.Proofs.Ytkilibdalgnghaa
