/-
  The document's cells (package waymasterref11) in memory, and the contracts of its functions: what they tell is told by the same plain numbers as the program's. The counts are not negative where they are stepped.
-/
import Derived.Test.YtkilibdalgnghaaPlain11
import Derived.BigRegion
namespace Go.Proofs.Ytkilibdalgnghaa
set_option linter.unusedVariables false
set_option linter.unusedSimpArgs false
open Go.RowKit Go.Shelf

/-- The document's cells. -/
structure RAt (G : Nat → Prop) (w : World) (b g0 g1 g2 : Nat) (l0 l1 l2 : List Int) : Prop where
  blk : Blk w b 117 #[.slice (some ⟨g0, 0, none⟩) l0.length l0.length, .slice (some ⟨g1, 0, none⟩) l1.length l1.length, .slice (some ⟨g2, 0, none⟩) l2.length l2.length]
  b0 : Blk w g0 2 (ints l0)
  b1 : Blk w g1 3 (ints l1)
  b2 : Blk w g2 2 (ints l2)
  n02 : g0 ≠ g2
  fb : G b
  f0 : G g0
  f1 : G g1
  f2 : G g2
  m0 : l0.length ≤ 1000
  m1 : l1.length ≤ 1000
  m2 : l2.length ≤ 1000
def RCells (b : Nat) (l0 l1 l2 : List Int) (G : Nat → Prop) (w : World) : Prop := ∃ g0 g1 g2, RAt G w b g0 g1 g2 l0 l1 l2
def PCells (b : Nat) (l0 l1 l2 : List Int) (F : Nat → Prop) (w : World) : Prop := CellsAt F w b l0 l1 l2
theorem pcells_stable (b : Nat) (l0 l1 l2 : List Int) : Stable (PCells b l0 l1 l2) := fun _ _ _ _ h hf hd => CellsAt.frame h hf hd
theorem rcells_stable (b : Nat) (l0 l1 l2 : List Int) : Stable (RCells b l0 l1 l2) := fun _ _ _ _ h hf hd => by
  obtain ⟨g0, g1, g2, h0, h1, h2, h3, n, a, b, c, d, m0, m1, m2⟩ := h
  exact ⟨g0, g1, g2, hf.blk h0 (hd _ a), hf.blk h1 (hd _ b), hf.blk h2 (hd _ c), hf.blk h3 (hd _ d), n, a, b, c, d, m0, m1, m2⟩

section
variable {G : Nat → Prop} {w : World} {b g0 g1 g2 : Nat} {l0 l1 l2 : List Int}
theorem RAt.fr0 (h : RAt G w b g0 g1 g2 l0 l1 l2) (i : Nat) (v : Int) : RAt G (w.setCell ⟨g0, i, none⟩ (.int .i64 v)) b g0 g1 g2 (l0.set i v) l1 l2 := by
  obtain ⟨h0, h1, h2, h3, n, a, b, c, d, m0, m1, m2⟩ := h
  refine ⟨?_, ?_, h2.far (p := ⟨g0, i, none⟩) (h2.ne_ h1 (by decide)) _, h3.far (p := ⟨g0, i, none⟩) (Ne.symm n) _, n, a, b, c, d, by simpa using m0, m1, m2⟩
  · rw [List.length_set]
    exact h0.far (p := ⟨g0, i, none⟩) (h0.ne_ h1 (by decide)) _
  · rw [← ints_set]
    exact h1.set_ i _
theorem RAt.fr1 (h : RAt G w b g0 g1 g2 l0 l1 l2) (i : Nat) (v : Int) : RAt G (w.setCell ⟨g1, i, none⟩ (.int .i64 v)) b g0 g1 g2 l0 (l1.set i v) l2 := by
  obtain ⟨h0, h1, h2, h3, n, a, b, c, d, m0, m1, m2⟩ := h
  refine ⟨?_, h1.far (p := ⟨g1, i, none⟩) (h1.ne_ h2 (by decide)) _, ?_, h3.far (p := ⟨g1, i, none⟩) (h3.ne_ h2 (by decide)) _, n, a, b, c, d, m0, by simpa using m1, m2⟩
  · rw [List.length_set]
    exact h0.far (p := ⟨g1, i, none⟩) (h0.ne_ h2 (by decide)) _
  · rw [← ints_set]
    exact h2.set_ i _
theorem RAt.fr2 (h : RAt G w b g0 g1 g2 l0 l1 l2) (i : Nat) (v : Int) : RAt G (w.setCell ⟨g2, i, none⟩ (.int .i64 v)) b g0 g1 g2 l0 l1 (l2.set i v) := by
  obtain ⟨h0, h1, h2, h3, n, a, b, c, d, m0, m1, m2⟩ := h
  refine ⟨?_, h1.far (p := ⟨g2, i, none⟩) n _, h2.far (p := ⟨g2, i, none⟩) (h2.ne_ h3 (by decide)) _, ?_, n, a, b, c, d, m0, m1, by simpa using m2⟩
  · rw [List.length_set]
    exact h0.far (p := ⟨g2, i, none⟩) (h0.ne_ h3 (by decide)) _
  · rw [← ints_set]
    exact h3.set_ i _
theorem RAt.mono {G' : Nat → Prop} (h : RAt G w b g0 g1 g2 l0 l1 l2) (hg : ∀ k, G k → G' k) : RAt G' w b g0 g1 g2 l0 l1 l2 := by
  obtain ⟨h0, h1, h2, h3, n, a, b, c, d, m0, m1, m2⟩ := h
  exact ⟨h0, h1, h2, h3, n, hg _ a, hg _ b, hg _ c, hg _ d, m0, m1, m2⟩
end

/-- What a call on the document's cells comes to. -/
def RPost (G : Nat → Prop) (w : World) (b : Nat) (v : Value) (l0 l1 l2 : List Int) (e : Ending) (w' : World) : Prop :=
  e = .returned v ∧ RCells b l0 l1 l2 (FN G w w') w' ∧ Fr G w w'

theorem mk_i64s (n : Nat) (hn : n ≤ 1000000) (w : World) : (Instr.makeSlice 114 (.int .i64 (n : Int)) (.int .i64 (n : Int))).run Try.prog w = .ok (.slice (some ⟨w.heap.size, 0, none⟩) n n) (w.alloc (.cells (ints (rep0 n)) 2)) := by
  have hI : (Try.prog.info? 2).map (fun i => (i.zero.map Value.cells, i.size, i.bytes)) = some (some #[.int .i64 0], 1, 8) := by kernel_rfl
  obtain ⟨i, hi, he⟩ := Option.map_eq_some_iff.1 hI
  obtain ⟨h1, h2, h3⟩ : i.zero.map Value.cells = some #[.int .i64 0] ∧ i.size = 1 ∧ i.bytes = 8 := by simpa using he
  obtain ⟨z, hz, hzc⟩ := Option.map_eq_some_iff.1 h1
  exact run_make_ints _ _ i z Try.underlying114 hi hz hzc h2 h3 _ _ n hn w
theorem mk_int_s (n : Nat) (hn : n ≤ 1000000) (w : World) : (Instr.makeSlice 115 (.int .i64 (n : Int)) (.int .i64 (n : Int))).run Try.prog w = .ok (.slice (some ⟨w.heap.size, 0, none⟩) n n) (w.alloc (.cells (ints (rep0 n)) 3)) := by
  have hI : (Try.prog.info? 3).map (fun i => (i.zero.map Value.cells, i.size, i.bytes)) = some (some #[.int .i64 0], 1, 8) := by kernel_rfl
  obtain ⟨i, hi, he⟩ := Option.map_eq_some_iff.1 hI
  obtain ⟨h1, h2, h3⟩ : i.zero.map Value.cells = some #[.int .i64 0] ∧ i.size = 1 ∧ i.bytes = 8 := by simpa using he
  obtain ⟨z, hz, hzc⟩ := Option.map_eq_some_iff.1 h1
  exact run_make_ints _ _ i z Try.underlying115 hi hz hzc h2 h3 _ _ n hn w

def RNew (n m k : Nat) (w : World) (e : Ending) (w' : World) : Prop :=
  ∃ b, e = .returned (.tuple #[.pointer (some ⟨b, 0, none⟩), .int .i64 0]) ∧ RCells b (rep0 n) (rep0 m) (rep0 k) (FN no w w') w' ∧ Fr no w w'
theorem RNew.mk_ {n m k b g0 g1 g2 : Nat} {w w' : World} (hb : Blk w' b 117 #[.slice (some ⟨g0, 0, none⟩) n n, .slice (some ⟨g1, 0, none⟩) m m, .slice (some ⟨g2, 0, none⟩) k k])
    (h0 : Blk w' g0 2 (ints (rep0 n))) (h1 : Blk w' g1 3 (ints (rep0 m))) (h2 : Blk w' g2 2 (ints (rep0 k))) (n02 : g0 ≠ g2) (eb : w.heap.size ≤ b) (e0 : w.heap.size ≤ g0) (e1 : w.heap.size ≤ g1) (e2 : w.heap.size ≤ g2)
    (hf : Fr no w w') (hn : n ≤ 1000) (hm : m ≤ 1000) (hk : k ≤ 1000) : RNew n m k w (.returned (.tuple #[.pointer (some ⟨b, 0, none⟩), .int .i64 0])) w' :=
  ⟨b, rfl, ⟨g0, g1, g2, by simp only [rep0_length]; exact hb, h0, h1, h2, n02, .inr ⟨eb, hb.lt⟩, .inr ⟨e0, h0.lt⟩, .inr ⟨e1, h1.lt⟩, .inr ⟨e2, h2.lt⟩, by simpa [rep0] using hn, by simpa [rep0] using hm, by simpa [rep0] using hk⟩, hf⟩
set_option maxHeartbeats 1600000 in
theorem rNew_ok (n m k : Nat) (w : World) (hn : n ≤ 1000) (hm : m ≤ 1000) (hk : k ≤ 1000) :
    Calls Try.prog 30 #[.int .i64 n, .int .i64 m, .int .i64 k] w (RNew n m k w) := by
  have k0 := mk_i64s n (by omega)
  have k1 := mk_int_s m (by omega)
  have k2 := mk_i64s k (by omega)
  go_enter Try.func30, Try.ntmps30
  go_wp2
  go_region
  all_goals
    go_wp2
    go_ret2
    refine RNew.mk_ (Blk.drew (Blk.new' (by simp))) ?_ ?_ ?_ (by omega) (by omega) (by omega) (by omega) (by omega) (((((Fr.refl no w).alloc _).alloc _).alloc _).alloc _).drew hn hm hk
    all_goals first
      | exact ((((Blk.new' (w := w) rfl).alloc _).alloc _).alloc _).drew
      | exact (((Blk.new' (by simp)).alloc _).alloc _).drew
      | exact ((Blk.new' (by simp)).alloc _).drew

set_option maxHeartbeats 400000 in
theorem rNew_bad (n m k : Int) (w : World) (h : rightB [n, m, k] = false) :
    Calls Try.prog 30 #[.int .i64 n, .int .i64 m, .int .i64 k] w fun e w' => e = .returned (.tuple #[.pointer none, .int .i64 2]) ∧ w = w' := by
  have h' : n < 0 ∨ 1000 < n ∨ m < 0 ∨ 1000 < m ∨ k < 0 ∨ 1000 < k := by
    have : ¬ (((0 ≤ n ∧ n ≤ 1000) ∧ (0 ≤ m ∧ m ≤ 1000) ∧ (0 ≤ k ∧ k ≤ 1000))) := fun hh => by
      have : rightB [n, m, k] = true := by simp [rightB]; omega
      rw [this] at h
      cases h
    omega
  clear h
  by_cases a1 : n < 0
  · go_enter Try.func30, Try.ntmps30
    go_wp2
    go_ret2
    exact ⟨rfl, rfl⟩
  by_cases a2 : 1000 < n
  · go_enter Try.func30, Try.ntmps30
    go_wp2
    go_ret2
    exact ⟨rfl, rfl⟩
  by_cases a3 : m < 0
  · go_enter Try.func30, Try.ntmps30
    go_wp2
    go_ret2
    exact ⟨rfl, rfl⟩
  by_cases a4 : 1000 < m
  · go_enter Try.func30, Try.ntmps30
    go_wp2
    go_ret2
    exact ⟨rfl, rfl⟩
  by_cases a5 : k < 0
  · go_enter Try.func30, Try.ntmps30
    go_wp2
    go_ret2
    exact ⟨rfl, rfl⟩
  have a6 : 1000 < k := by omega
  go_enter Try.func30, Try.ntmps30
  go_wp2
  go_ret2
  exact ⟨rfl, rfl⟩

/-! ### The methods -/
section
variable (G : Nat → Prop) (w : World) (b : Nat) (l0 l1 l2 : List Int) (i : Int)
theorem RPost.same {v : Value} (h : RCells b l0 l1 l2 G w) : RPost G w b v l0 l1 l2 (.returned v) w := ⟨rfl, by rw [FN.self]; exact h, Fr.refl _ _⟩
set_option maxHeartbeats 800000 in
theorem rLoad_any (h : RCells b l0 l1 l2 G w) : Calls Try.prog 32 #[.pointer (some ⟨b, 0, none⟩), .int .i64 i] w (RPost G w b (.tuple #[.int .i64 (ldv l0 i), .int .i64 (er l0 i)]) l0 l1 l2) := by
  obtain ⟨g0, g1, g2, hr⟩ := h
  have c0 : w.cell? ⟨b, 0, none⟩ = some (.slice (some ⟨g0, 0, none⟩) l0.length l0.length) := hr.blk.cell 0
  cases hi : inB l0 i with
  | true =>
    obtain ⟨v, hv⟩ := at_inB hi
    obtain ⟨h0, h1⟩ := inB_true.1 hi
    rw [ldv_in hi hv, er_in hi]
    have hcell := hr.b0.ints _ _ hv
    clear hi hv
    go_enter Try.func32, Try.ntmps32
    go_wp2
    go_ret2
    exact RPost.same G w b _ _ _ ⟨g0, g1, g2, hr⟩
  | false =>
    rw [ldv_out hi, er_out hi]
    have ho := out_of hi
    clear hi
    by_cases hneg : i < 0
    · go_enter Try.func32, Try.ntmps32
      go_wp2
      go_ret2
      exact RPost.same G w b _ _ _ ⟨g0, g1, g2, hr⟩
    · have hge : (l0.length : Int) ≤ i := by omega
      go_enter Try.func32, Try.ntmps32
      go_wp2
      go_ret2
      exact RPost.same G w b _ _ _ ⟨g0, g1, g2, hr⟩
end

end Go.Proofs.Ytkilibdalgnghaa
