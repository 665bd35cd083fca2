/-
  The tally: adds, Note, counts, New, Reader.
-/
import Derived.Test.YtkilibdalgnghaaTally2
namespace Go.Proofs.Ytkilibdalgnghaa
set_option linter.unusedVariables false
set_option linter.unusedSimpArgs false
open Go.RowKit Go.Shelf

/-- Six counts' cells. -/
def six (c : Nat → Int) : Array Value := #[.int .u64 (c 0), .int .u64 (c 1), .int .u64 (c 2), .int .u64 (c 3), .int .u64 (c 4), .int .u64 (c 5)]
theorem six_get (c : Nat → Int) {k : Nat} (h : k < 6) : (six c)[k]? = some (.int .u64 (c k)) := by
  obtain rfl | rfl | rfl | rfl | rfl | rfl : k = 0 ∨ k = 1 ∨ k = 2 ∨ k = 3 ∨ k = 4 ∨ k = 5 := by omega
  all_goals rfl
/-- A queue's counts when the first k of c are added. -/
def addK (L : List Int) (i : Int) (c : Nat → Int) : Nat → List Int
  | 0 => L
  | k + 1 => stv (addK L i c k) (i * 6 + k) (adv (addK L i c k) (i * 6 + k) (wrap64 (c k)))
theorem addK_length (L : List Int) (i : Int) (c : Nat → Int) (k : Nat) : (addK L i c k).length = L.length := by
  induction k with
  | zero => rfl
  | succ k ih => rw [addK, stv_length, ih]
section
variable {fn : Func} {p u v : Tmp} {ty t d : TypeId} {tmps : Array Value} {w : World} {g : Nat} {cs : Array Value} {fs : Array Field}
theorem res_load (hg : Blk w g t cs) (hu : Try.prog.underlying ty = some (.struct fs)) (hi : (Try.prog.info? ty).map (·.size) = some cs.size) : (loadVar ty ⟨g, 0, none⟩).run Try.prog w = .ok (.agg cs) w :=
  run_loadVar_row w g t ty cs (0, 0) _ hg hu rfl hi
theorem res_c (h : fn.results = #[.cell p ty]) (hp : tmps.getD p undef = .pointer (some ⟨g, 0, none⟩)) (hg : Blk w g t cs) (hu : Try.prog.underlying ty = some (.struct fs)) (hi : (Try.prog.info? ty).map (·.size) = some cs.size) :
    (results fn tmps).run Try.prog w = .ok (.agg cs) w := by
  have h1 := res_load hg hu hi
  have hp' : tmps[p]?.getD undef = .pointer (some ⟨g, 0, none⟩) := by simpa using hp
  simp [results, h, Sem.run_bind, hp', asAddr, h1]
theorem res_ct (h : fn.results = #[.cell p ty, .tmp u]) (hp : tmps.getD p undef = .pointer (some ⟨g, 0, none⟩)) (hg : Blk w g t cs) (hu : Try.prog.underlying ty = some (.struct fs)) (hi : (Try.prog.info? ty).map (·.size) = some cs.size) :
    (results fn tmps).run Try.prog w = .ok (.tuple #[.agg cs, tmps.getD u undef]) w := by
  have h1 := res_load hg hu hi
  have hp' : tmps[p]?.getD undef = .pointer (some ⟨g, 0, none⟩) := by simpa using hp
  simp [results, h, Sem.run_bind, hp', asAddr, h1]
theorem res_ctt (h : fn.results = #[.cell p ty, .tmp u, .tmp v]) (hp : tmps.getD p undef = .pointer (some ⟨g, 0, none⟩)) (hg : Blk w g t cs) (hu : Try.prog.underlying ty = some (.struct fs)) (hi : (Try.prog.info? ty).map (·.size) = some cs.size) :
    (results fn tmps).run Try.prog w = .ok (.tuple #[.agg cs, tmps.getD u undef, tmps.getD v undef]) w := by
  have h1 := res_load hg hu hi
  have hp' : tmps[p]?.getD undef = .pointer (some ⟨g, 0, none⟩) := by simpa using hp
  simp [results, h, Sem.run_bind, hp', asAddr, h1]
end
section
variable {F K : Nat → Prop} {w : World} {tb cb q : Nat} {L0 L2 : List Int}
theorem TSt.beside (h : TAt F w tb cb q L0 L2) (hK : ∀ k, K k → ¬ F k ∧ k < w.heap.size) : TSt F w K tb cb q L0 L2 w := ⟨⟨F, h, fun _ hk => .inl hk, hK⟩, Fr.refl _ _, h.blk.lt, h.out, h.bd⟩
theorem TSt.blk {w1 : World} (h : TSt F w K tb cb q L0 L2 w1) : Blk w1 tb 119 #[.pointer (some ⟨cb, 0, none⟩), .int .i64 q] := by
  obtain ⟨⟨G, ha, _⟩, _⟩ := h
  exact ha.blk
theorem TSt.q64 {w1 : World} (h : TSt F w K tb cb q L0 L2 w1) : q ≤ 64 ∧ L0.length = 6 * q ∧ L2.length = q := by
  obtain ⟨⟨G, ha, _⟩, _⟩ := h
  exact ⟨ha.q64, ha.len0, ha.len2⟩
end

section
variable (F : Nat → Prop) (w : World) (tb cb q : Nat) (L0 L2 : List Int) (i : Int)
set_option maxHeartbeats 1600000 in
theorem tAdds_any (c : Nat → Int) (g : Nat) (hg : Blk w g 54 (six c)) (hF : ¬ F g) (i0 : 0 ≤ i) (i1 : i < 64) (h : TAt F w tb cb q L0 L2) :
    Calls Try.prog 65 #[.pointer (some ⟨tb, 0, none⟩), .int .i64 i, .slice (some ⟨g, 0, none⟩) 6 6] w (TPost F w tb cb q (.tuple #[]) (addK L0 i c 6) L2) := by
  have hs := TSt.beside (K := fun k => k = g) h (fun k hk => hk ▸ ⟨hF, hg.lt⟩)
  clear h hF
  go_enter Try.func65, Try.ntmps65
  go_wp2
  go_loopw [10] (fun j wr => ∃ k : Nat, k ≤ 6 ∧ j = .int .i64 k ∧ TSt F w (fun k => k = g) tb cb q (addK L0 i c k) L2 wr ∧ Blk wr g 54 (six c)) (fun j _ => 6 - (intOf j).toNat)
  case atStart => exact ⟨0, by omega, rfl, hs, hg⟩
  case round =>
    obtain ⟨k, hk, rfl, hs1, hg1⟩ := hrel
    clear hs hg
    by_cases hlt : k < 6
    · have hc := hg1.cell k
      rw [six_get c hlt] at hc
      have d0 := hs1.blk.cell 0
      simp only [List.getElem?_toArray, List.getElem?_cons_succ, List.getElem?_cons_zero] at d0
      have HG := Lib.hid (hs1.go (v := .tuple #[.int .i64 (adv (addK L0 i c k) (i * 6 + k) (wrap64 (c k))), .int .i64 (er (addK L0 i c k) (i * 6 + k))]) (L0' := addK L0 i c (k + 1)) (L2' := L2)
        (fun F w ha => ha.go (fun F w _ hc => cAdd_any F w cb _ _ _ (i * 6 + k) (wrap64 (c k)) hc) (stv_length _ _ _) rfl))
      go_wp2_with fail
      refine HG.out.mono ?_
      rintro e w2 ⟨rfl, hs2, hk2⟩
      have hg2 := hk2.blk hg1 rfl
      go_wp2
      go_roundw
      case rel => exact ⟨k + 1, by omega, by go_num, hs2, hg2⟩
      case measure => simp [intOf]; omega
    · obtain rfl : k = 6 := by omega
      go_wp2
      go_end0
      exact hs1.post

/-- What Note leaves. -/
def noL0 (L0 L2 : List Int) (i : Int) (c : Nat → Int) : List Int := if spB L2 i 0 then addK L0 i c 6 else L0
def noL2 (L2 : List Int) (i : Int) : List Int := if spB L2 i 0 then spv (spv L2 i 0) i 1 else L2
theorem spv_in {l : List Int} {i o k : Int} : inB (spv l i o) k = inB l k := by unfold spv; split <;> simp [inB]
theorem sh_after {l : List Int} {i : Int} (h : spB l i 0 = true) : shE (spv l i 0) i = 0 := by
  have hb := h
  simp only [spB, Bool.and_eq_true, beq_iff_eq] at hb
  obtain ⟨hi, he⟩ := hb
  have h1 : ldv (spv l i 0) i = wrap64 (ldv l i + 1) := by
    rw [spv, if_pos h, ldv_set_eq hi]
  have h2 : wrap64 (ldv l i + 1) % 2 = 1 := by unfold wrap64; omega
  simp [shE, spv_in, hi, oddB, h1, h2]
theorem spE_spB {l : List Int} {i : Int} : (spB l i 0 = true → spE l i 0 = 0) ∧ (spB l i 0 = false → (spE l i 0 = 2 ∨ spE l i 0 = 111) ∧ spv l i 0 = l) := by
  refine ⟨fun h => ?_, fun h => ⟨?_, by rw [spv, if_neg (by simp [h])]⟩⟩
  · simp only [spB, Bool.and_eq_true, beq_iff_eq] at h
    simp [spE, h.1, h.2]
  · unfold spE
    split
    · rename_i hi
      simp only [spB, hi, Bool.true_and] at h
      rw [h]
      simp
    · simp
theorem cells6 {w : World} {g : Nat} {t : TypeId} {c : Nat → Int} (h : Blk w g t (six c)) : w.cell? ⟨g, 0, none⟩ = some (.int .u64 (c 0)) ∧ w.cell? ⟨g, 1, none⟩ = some (.int .u64 (c 1)) ∧ w.cell? ⟨g, 2, none⟩ = some (.int .u64 (c 2)) ∧
    w.cell? ⟨g, 3, none⟩ = some (.int .u64 (c 3)) ∧ w.cell? ⟨g, 4, none⟩ = some (.int .u64 (c 4)) ∧ w.cell? ⟨g, 5, none⟩ = some (.int .u64 (c 5)) := ⟨h.cell 0, h.cell 1, h.cell 2, h.cell 3, h.cell 4, h.cell 5⟩

set_option maxHeartbeats 1600000 in
theorem tNote_any (c : Nat → Int) (h : TAt F w tb cb q L0 L2) :
    Calls Try.prog 37 #[.pointer (some ⟨tb, 0, none⟩), .int .i64 i, .agg (six c)] w (TPost F w tb cb q (.int .i64 (spE L2 i 0)) (noL0 L0 L2 i c) (noL2 L2 i)) := by
  have hx : Blk (w.alloc (.cells (six c) 56)) w.heap.size 56 (six c) := Blk.new _ _ _
  have hs := (TSt.start h).box (.cells (six c) 56)
  have hq := hs.q64.1
  have hl := hs.q64.2.2
  have HO := Lib.hid (hs.go (v := .int .i64 (spE L2 i 0)) (L0' := L0) (L2' := spv L2 i 0) (fun F w ha => tOpen_any F w tb cb q L0 L2 i ha))
  clear hs h
  cases hb : spB L2 i 0 with
  | false =>
    obtain ⟨h1, h2⟩ := (spE_spB (l := L2) (i := i)).2 hb
    rw [noL0, noL2, if_neg (by simp [hb]), if_neg (by simp [hb])]
    rw [h2] at HO
    clear hb h2
    rcases h1 with h1 | h1
    all_goals
      rw [h1] at HO ⊢
      clear h1
      go_enter Try.func37, Try.ntmps37
      go_wp2_with fail
      refine HO.out.mono ?_
      rintro e w1 ⟨rfl, hs1, hk1⟩
      go_wp2
      go_ret
      exact hs1.post
  | true =>
    have hb' := hb
    simp only [spB, Bool.and_eq_true, beq_iff_eq] at hb'
    obtain ⟨i0, i1⟩ := inB_true.1 hb'.1
    rw [hl] at i1
    have HE := Lib.hid (sh_after hb)
    have h1 := (spE_spB (l := L2) (i := i)).1 hb
    rw [h1] at HO ⊢
    rw [noL0, noL2, if_pos hb, if_pos hb]
    clear hb hb' h1 hl
    go_enter Try.func37, Try.ntmps37
    go_wp2_with fail
    refine HO.out.mono ?_
    rintro e w1 ⟨rfl, hs1, hk1⟩
    obtain ⟨c0, c1, c2, c3, c4, c5⟩ := cells6 (hk1.blk hx (.inr rfl))
    have hs2 := hs1.box (.cells (six c) 54)
    have hg2 : Blk (w1.alloc (.cells (six c) 54)) w1.heap.size 54 (six c) := Blk.new _ _ _
    clear HO hs1 hk1
    go_wp2_with fail
    refine (hs2.goK (v := .tuple #[]) (L0' := addK L0 i c 6) (L2' := spv L2 i 0) (fun G ha hK => tAdds_any G _ tb cb q L0 (spv L2 i 0) i c w1.heap.size hg2 (hK _ (.inr rfl)) i0 (by omega) ha)).mono ?_
    rintro e w2 ⟨rfl, hs3, -⟩
    clear hs2 hg2 c0 c1 c2 c3 c4 c5
    go_wp2_with fail
    refine (hs3.go (v := .int .i64 (shE (spv L2 i 0) i)) (L0' := addK L0 i c 6) (L2' := spv (spv L2 i 0) i 1) (fun F w ha => tShut_any F w tb cb q _ _ i ha)).mono ?_
    rintro e w3 ⟨rfl, hs4, -⟩
    rw [HE.out]
    go_wp2
    go_ret
    exact hs4.post
end

theorem tCounts_any (c : Nat → Int) (w : World) : Calls Try.prog 71 #[.agg (six c)] w fun e w' => e = .returned (.agg (six c)) ∧ Fr no w w' := by
  have hx : Blk (w.alloc (.cells (six c) 124)) w.heap.size 124 (six c) := Blk.new _ _ _
  obtain ⟨c0, c1, c2, c3, c4, c5⟩ := cells6 (hx.alloc (.cells #[.int .u64 0, .int .u64 0, .int .u64 0, .int .u64 0, .int .u64 0, .int .u64 0] 56))
  go_enter Try.func71, Try.ntmps71
  go_wp2
  try simp only [Exit.inBlock, Exit.then]
  refine bodyPost_ret (res_c rfl rfl (Blk.new' (by simp)) Try.underlying56 (by kernel_rfl)) rfl ⟨rfl, ((Fr.refl no w).alloc _).alloc _⟩

/-- Makings. -/
def TNew (q : Nat) (w : World) (e : Ending) (w' : World) : Prop := ∃ tb cb F, e = .returned (.tuple #[.pointer (some ⟨tb, 0, none⟩), .int .i64 0]) ∧ TAt F w' tb cb q (rep0 (6 * q)) (rep0 q) ∧ (∀ k, F k → w.heap.size ≤ k) ∧ w.heap.size ≤ tb ∧ Fr no w w'
theorem tNew_ok (q : Nat) (w : World) (h1 : 1 ≤ q) (h2 : q ≤ 64) : Calls Try.prog 35 #[.int .i64 q] w (TNew q w) := by
  have HN : Hid (Calls Try.prog 18 #[.int .i64 ((q : Int) * 6), .int .i64 0, .int .i64 q] w (CNew (6 * q) 0 q w)) := by
    have := cNew_ok (6 * q) 0 q w (by omega) (by omega) (by omega)
    have e : ((6 * q : Nat) : Int) = (q : Int) * 6 := by omega
    rw [e] at this
    exact this
  go_enter Try.func35, Try.ntmps35
  go_wp2_with fail
  refine HN.out.mono ?_
  rintro e w1 hn
  obtain ⟨cb, rfl, hs⟩ := hn.st
  clear hn HN
  go_wp2
  go_ret2
  refine ⟨w1.heap.size, cb, FN no w w1, rfl, ⟨Blk.new _ _ _, ?_, ?_, ?_, by simp [rep0], by simp [rep0], h2⟩, ?_, hs.fr.size, hs.fr.alloc _⟩
  · rintro (hk | ⟨_, hk⟩)
    · exact hk
    · omega
  · exact hs.cells.frame ((Fr.refl no w1).alloc _) (fun k _ => no_not k)
  · rintro k (hk | ⟨_, hk⟩)
    · exact hk.elim
    · simp; omega
  · rintro k (hk | ⟨hk, _⟩)
    · exact hk.elim
    · exact hk
theorem tNew_bad (q : Int) (w : World) (h : q < 1 ∨ 64 < q) : Calls Try.prog 35 #[.int .i64 q] w fun e w' => e = .returned (.tuple #[.pointer none, .int .i64 2]) ∧ w = w' := by
  by_cases h1 : q < 1
  · go_enter Try.func35, Try.ntmps35
    go_wp2
    go_ret2
    exact ⟨rfl, rfl⟩
  · have h2 : 64 < q := by omega
    go_enter Try.func35, Try.ntmps35
    go_wp2
    go_ret2
    exact ⟨rfl, rfl⟩

/-- A reader's cells. -/
def rdCells (tb : Nat) (i nx at_ : Int) (l : Nat → Int) : Array Value := #[.pointer (some ⟨tb, 0, none⟩), .int .i64 i, .int .i64 nx, .int .i64 at_, .int .u64 (l 0), .int .u64 (l 1), .int .u64 (l 2), .int .u64 (l 3), .int .u64 (l 4), .int .u64 (l 5)]
section
variable (F : Nat → Prop) (w : World) (tb cb q : Nat) (L0 L2 : List Int) (i : Int)
theorem tReader_in (h : TAt F w tb cb q L0 L2) (hi : inB L2 i = true) : Calls Try.prog 42 #[.pointer (some ⟨tb, 0, none⟩), .int .i64 i] w fun e w' =>
    e = .returned (.tuple #[.pointer (some ⟨w.heap.size, 0, none⟩), .int .i64 0]) ∧ w' = w.alloc (.cells (rdCells tb i 0 0 fun _ => 0) 126) := by
  have hC := tCheck_any F w tb cb q L0 L2 i h
  simp only [er, hi, if_true] at hC
  clear h hi
  go_enter Try.func42, Try.ntmps42
  go_wp2_with (go_at_call 67; refine hC.mono ?_; rintro e w1 ⟨rfl, rfl⟩)
  go_ret2
  exact ⟨rfl, rfl⟩
theorem tReader_out (h : TAt F w tb cb q L0 L2) (hi : inB L2 i = false) : Calls Try.prog 42 #[.pointer (some ⟨tb, 0, none⟩), .int .i64 i] w fun e w' =>
    e = .returned (.tuple #[.pointer none, .int .i64 2]) ∧ w = w' := by
  have hC := tCheck_any F w tb cb q L0 L2 i h
  simp only [er, hi] at hC
  clear h hi
  go_enter Try.func42, Try.ntmps42
  go_wp2_with (go_at_call 67; refine hC.mono ?_; rintro e w1 ⟨rfl, rfl⟩)
  go_ret2
  exact ⟨rfl, rfl⟩
theorem tReader_nil : Calls Try.prog 42 #[.pointer none, .int .i64 i] w fun e w' => e = .returned (.tuple #[.pointer none, .int .i64 1]) ∧ w = w' := by
  go_enter Try.func42, Try.ntmps42
  go_wp2_with (go_at_call 67; refine (tCheck_nil _ _).mono ?_; rintro e w1 ⟨rfl, rfl⟩)
  go_ret2
  exact ⟨rfl, rfl⟩
end
end Go.Proofs.Ytkilibdalgnghaa
