/-
  Holder: who holds a lock. No condition.
-/
import Derived.Test.YtkilibdalgnghaaCells3
import Derived.Test.YtkilibdalgnghaaRange
namespace Go.Proofs.Ytkilibdalgnghaa
set_option linter.unusedVariables false
set_option linter.unusedSimpArgs false
open Go.RowKit Go.Shelf
attribute [local go_sem] Oper.semAt_some

/-- held's iterator, at whatever round keeps J. -/
theorem held_iter (B bc b g1 : Nat) (l1 : List Int) (J : Nat → World → Prop) (X : World → Prop) (hl : l1.length ≤ 1000)
    (hJ : ∀ k W, J k W → W.cell? ⟨bc, 0, none⟩ = some (.pointer (some ⟨b, 0, none⟩)) ∧ W.cell? ⟨b, 7, none⟩ = some (.slice (some ⟨g1, 0, none⟩) l1.length l1.length) ∧ ∀ j v, l1[j]? = some v → W.cell? ⟨g1, j, none⟩ = some (.int .i64 v))
    (hskip : ∀ k W v, J k W → l1[k]? = some v → v ≤ 0 → J (k + 1) W)
    (hY : ∀ k W v, J k W → l1[k]? = some v → 0 < v → Yields Try.prog B #[.int .i64 k, .int .i64 (wrap64 (v - 1))] W fun r W' => if r then J (k + 1) W' else X W')
    (W : World) (h0 : J 0 W) :
    CallsIn FW 0 Try.prog 83 #[.func (.yield (B + 1)) #[] #[], .pointer (some ⟨bc, 0, none⟩)] W fun e W' => e = .returned (.tuple #[]) ∧ (J l1.length W' ∨ X W') := by
  have hfw := fw_fn
  have hfd := fw_depth
  have HJ := Lib.hid hJ
  have HS := Lib.hid hskip
  have HY := Lib.hid hY
  clear hJ hskip hY
  refine callsIn_of_wp Try.func83 rfl trivial ?_ rfl
  simp only [Try.ntmps83, List.size_toArray, List.length_cons, List.length_nil, Nat.reduceAdd, Nat.reduceSub, Array.replicate_succ, Array.replicate_zero, List.push_toArray, List.append_toArray, List.nil_append, List.cons_append]
  obtain ⟨hc1, hc2, -⟩ := HJ.out 0 W h0
  gi_wp2
  gi_loopw [10] (fun p wr => ∃ k : Nat, k ≤ l1.length ∧ p = .int .i64 k ∧ J k wr) (fun p _ => l1.length - (intOf p).toNat)
  case atStart => exact ⟨0, Nat.zero_le _, rfl, h0⟩
  case round =>
    obtain ⟨k, hk, rfl, hj⟩ := hrel
    clear hc1 hc2 h0
    by_cases hlt : k < l1.length
    · obtain ⟨d1, d2, d3⟩ := HJ.out k wr hj
      have hv : l1[k]? = some l1[k] := List.getElem?_eq_getElem hlt
      have d4 := d3 k _ hv
      generalize l1[k] = v at *
      have HV := Lib.hid hv
      clear hv d3
      by_cases hpos : 0 < v
      · obtain ⟨fn, tmps, assign, body, hy, hR⟩ := HY.out k wr v hj HV.out hpos
        gi_wp2_with (gi_at_call 55; refine (callsIn_wide.2 (int64_load _ _ _ d4)).mono ?_; rintro e w2 ⟨rfl, rfl⟩)
        refine hR.mono ?_
        rintro e W3 ⟨r, rfl, hr⟩
        have HR := Lib.hid hr
        clear hr
        cases r with
        | true =>
          have hJ3 : J (k + 1) W3 := HR.out
          gi_wp2
          go_roundw
          case rel => exact ⟨k + 1, by omega, by go_num, hJ3⟩
          case measure => simp [intOf]; omega
        | false =>
          have hX3 : X W3 := HR.out
          gi_wp2
          refine bodyPost_ret (results_none rfl _ _ _) rfl ⟨rfl, .inr hX3⟩
      · have hle : v ≤ 0 := by omega
        have hJ3 := Lib.hid (HS.out k wr v hj HV.out hle)
        gi_wp2_with (gi_at_call 55; refine (callsIn_wide.2 (int64_load _ _ _ d4)).mono ?_; rintro e w2 ⟨rfl, rfl⟩)
        go_roundw
        case rel => exact ⟨k + 1, by omega, by go_num, hJ3.out⟩
        case measure => simp [intOf]; omega
    · obtain rfl : k = l1.length := by omega
      gi_wp2
      go_end0
      exact ⟨rfl, .inl hj⟩

/-- who holds a lock: what Holder hands back. -/
def hov (l : List Int) (i : Int) : Int := if 0 < ldv l i then wrap64 (ldv l i - 1) else -1

/-- Between two rounds of Holder's loop; where it was left. -/
structure HolJ (L : LoopState → Option Code → Obj) (B : Nat) (G : Nat → Prop) (w1 : World) (b g0 g1 g2 : Nat) (l0 l1 l2 : List Int) (bi : Nat) (i v : Int) (k : Nat) (W : World) : Prop where
  bk : Book L B .ready none W
  no : i.toNat < k → v ≤ 0
  cm : CellsM G W b g0 g1 g2 l0 l1 l2
  hi : Blk W bi 3 #[.int .i64 i]
  hw : Blk W w1.heap.size 3 #[.int .i64 (-1)]
  hc : Blk W (w1.heap.size + 1) 24 #[.pointer (some ⟨b, 0, none⟩)]
  fr : Fr G w1 W
structure HolX (L : LoopState → Option Code → Obj) (B : Nat) (G : Nat → Prop) (w1 : World) (b g0 g1 g2 : Nat) (l0 l1 l2 : List Int) (v : Int) (W : World) : Prop where
  bk : Book L B .done (some (.exit 0)) W
  yes : 0 < v
  cm : CellsM G W b g0 g1 g2 l0 l1 l2
  hw : Blk W w1.heap.size 3 #[.int .i64 (wrap64 (v - 1))]
  fr : Fr G w1 W

section
variable (F : Nat → Prop) (w : World) (b : Nat) (l0 l1 l2 : List Int) (i : Int)
set_option maxHeartbeats 1600000 in
theorem cHolderM_any (hF : ∀ k, F k → k < w.heap.size) (h : CellsAt F w b l0 l1 l2) : Calls Try.prog 21 #[.pointer (some ⟨b, 0, none⟩), .int .i64 i] w (Post1 F w b (.int .i64 (hov l1 i)) l0 l1 l2) := by
  have HFF := Lib.hid hF
  clear hF
  cases hi : inB l1 i with
  | false =>
    have e1 : hov l1 i = -1 := by simp [hov, ldv_out hi]
    rw [e1]
    have h1 : CellsAt F (w.alloc (.cells #[.int .i64 i] 3)) b l0 l1 l2 := h.frame ((Fr.refl no w).alloc _) (fun k _ => no_not k)
    have HN := Lib.hid (holder_out F _ b l0 l1 l2 i h1 hi)
    clear h h1 hi e1
    refine calls_of_wp_marks Try.func21 rfl ?_
    simp only [Try.ntmps21, List.size_toArray, List.length_cons, List.length_nil, Nat.reduceAdd, Nat.reduceSub, Array.replicate_succ, Array.replicate_zero, List.push_toArray, List.append_toArray, List.nil_append, List.cons_append]
    go_wp2
    go_step3
    go_wp2_with (go_at_call 50; refine HN.out.mono ?_; rintro e w1 ⟨rfl, hm, hf⟩)
    rw [Exit.noGoto_ret]
    refine leave_none (results_tmp rfl _ _ _) ⟨rfl, hm.mono (FN.later (by simp)), ((Fr.refl F w).alloc _).trans' hf⟩
  | true =>
    obtain ⟨v, hv⟩ := at_inB hi
    obtain ⟨i0, i1⟩ := inB_true.1 hi
    have e1 : Hid (hov l1 i = if 0 < v then wrap64 (v - 1) else -1) := by
      show hov l1 i = _
      simp [hov, ldv_in hi hv]
    have h1 : CellsAt F (w.alloc (.cells #[.int .i64 i] 3)) b l0 l1 l2 := h.frame ((Fr.refl no w).alloc _) (fun k _ => no_not k)
    have hbi : Blk (w.alloc (.cells #[.int .i64 i] 3)) w.heap.size 3 #[.int .i64 i] := Blk.new _ _ _
    have HN := Lib.hid (holder_in F _ b l0 l1 l2 i h1 hi)
    have HV := Lib.hid hv
    clear h h1 hi hv
    refine calls_of_wp_marks Try.func21 rfl ?_
    simp only [Try.ntmps21, List.size_toArray, List.length_cons, List.length_nil, Nat.reduceAdd, Nat.reduceSub, Array.replicate_succ, Array.replicate_zero, List.push_toArray, List.append_toArray, List.nil_append, List.cons_append]
    go_wp2
    go_step3
    go_wp2_with (first | (go_at_call 50; refine HN.out.mono ?_; rintro e w1 ⟨g0, g1, g2, rfl, hm, hf⟩) | (go_at_call 51; go_in))
    go_step3
    go_wp2
    have hbi1 : Blk w1 w.heap.size 3 #[.int .i64 i] := hf.blk hbi (fun hk => by have := HFF.out _ hk; omega)
    have hf1 : Fr F w w1 := ((Fr.refl F w).alloc _).trans' hf
    have hsz : w.heap.size < w1.heap.size := hbi1.lt
    replace hm : CellsM (FN F w w1) w1 b g0 g1 g2 l0 l1 l2 := hm.mono (FN.later (by simp))
    have hFN : ∀ k, FN F w w1 k → k < w1.heap.size := FN.lt HFF.out hf1.size
    clear hf hbi HN
    refine wp_range (gf := 83) (lb := #[.pointer (some ⟨w1.heap.size + 1, 0, none⟩)]) rfl (enters_of Try.func83 (by kernel_rfl) rfl) ?_
    intro B L W2 hB hW2 hs2 hbk hround
    have hB' : B = w1.heap.size + 2 := by simpa using hB
    have hlt1 : w1.heap.size < B := by omega
    have hw : Blk W2 w1.heap.size 3 #[.int .i64 (-1)] := hW2.blk ((Blk.new w1 _ _).alloc _) (no_not _)
    have hbc : Blk W2 (w1.heap.size + 1) 24 #[.pointer (some ⟨b, 0, none⟩)] := hW2.blk (Blk.new' (by simp)) (no_not _)
    have hfa : Fr no w1 W2 := (((Fr.refl no w1).alloc _).alloc _).trans' hW2
    have hbi2 := hfa.blk hbi1 (no_not _)
    have hm2 := hm.frame hfa (fun k _ => no_not k)
    clear hB hbi1 hW2
    refine (held_iter B (w1.heap.size + 1) b g1 l1 (HolJ L B (FN F w w1) w1 b g0 g1 g2 l0 l1 l2 w.heap.size i v) (HolX L B (FN F w w1) w1 b g0 g1 g2 l0 l1 l2 v)
      hm.m1 ?_ ?_ ?_ W2 ?_).mono ?_
    · rintro k W ⟨h1, h2, h3, h4, h5, h6, h7⟩
      obtain ⟨sm, hb⟩ := h3.blk
      exact ⟨h6.cell 0, hb.cell 7, h3.b1.ints⟩
    · rintro k W u ⟨h1, h2, h3, h4, h5, h6, h7⟩ hk hu
      refine ⟨h1, fun hlt => ?_, h3, h4, h5, h6, h7⟩
      by_cases he : i.toNat = k
      · have := HV.out
        rw [he, hk] at this
        cases this
        exact hu
      · exact h2 (by omega)
    · rintro k W u hJ hk hu
      refine hround _ W _ rfl hJ.bk ?_
      clear hround
      have hfw := fw_fn
      have hfd := fw_depth
      gi_wp2
      refine ⟨hJ.bk, fun W3 ht hb3 => ?_⟩
      have hbi3 := ht.blk hJ.hi (by omega)
      have hbw3 := ht.blk hJ.hw (by omega)
      have hbc3 := ht.blk hJ.hc (by omega)
      have hm3 := hJ.cm.frame ht.fr (fun j hj he => by have := hFN j hj; omega)
      have hf3 : Fr (FN F w w1) w1 W3 := ht.of hJ.fr (by omega) hJ.bk.lt
      have c1 : W3.cell? ⟨w.heap.size, 0, none⟩ = some (.int .i64 i) := hbi3.cell 0
      have c2 : W3.cell? ⟨w1.heap.size, 0, none⟩ = some (.int .i64 (-1)) := hbw3.cell 0
      have c3 : W3.frozen? ⟨w1.heap.size, 0, none⟩ = false := hbw3.frozen 0
      have HK := Lib.hid hk
      clear hk
      by_cases he : (k : Int) = i
      · have hq : ((k : Int) == i) = true := by simp [he]
        have huv : u = v := by
          have := HV.out
          rw [← he, Int.toNat_natCast, HK.out] at this
          exact Option.some.inj this
        subst huv
        clear he
        gi_wp2
        refine ⟨hb3.set (p := ⟨w1.heap.size, 0, none⟩) (by simp; omega) (by simp; omega) _, fun W4 ht4 hb4 => ⟨hb4, hu, ?_, ?_, ?_⟩⟩
        · refine (hm3.frame ((Fr.refl (fun k => k = w1.heap.size) W3).setCell (p := ⟨w1.heap.size, 0, none⟩) (.inl rfl) _) ?_).frame ht4.fr ?_
          · intro j hj he
            have := hFN j hj
            omega
          · intro j hj he
            have := hFN j hj
            omega
        · exact ht4.blk (hbw3.set_ 0 _) (by omega)
        · exact ht4.of (hf3.setCell (p := ⟨w1.heap.size, 0, none⟩) (.inr (Nat.le_refl _)) _) (by omega) (by have := hb3.lt; simpa [World.setCell] using this)
      · have hq : ((k : Int) == i) = false := by simp [he]
        have hne : i.toNat ≠ k := by omega
        have hno := hJ.no
        gi_wp2
        refine ⟨hb3, fun W4 ht4 hb4 => ⟨hb4, fun hlt => hno (by omega), hm3.frame ht4.fr (fun j hj he => by have := hFN j hj; omega), ht4.blk hbi3 (by omega), ht4.blk hbw3 (by omega), ht4.blk hbc3 (by omega), ht4.of hf3 (by omega) hb3.lt⟩⟩
    · exact ⟨hbk, fun h => by omega, hm2, hbi2, hw, hbc, hfa.mono fun _ h => h.elim⟩
    · rintro e W5 ⟨rfl, hJ | hX⟩
      · refine ⟨⟨_, rfl⟩, .inl ⟨hJ.bk, fun W6 ht hK => ?_⟩⟩
        have hbw6 := ht.blk hJ.hw (by omega)
        have c2 : W6.cell? ⟨w1.heap.size, 0, none⟩ = some (.int .i64 (-1)) := hbw6.cell 0
        have hm6 := hJ.cm.frame ht.fr (fun j hj he => by have := hFN j hj; omega)
        have hf6 : Fr (FN F w w1) w1 W6 := ht.of hJ.fr (by omega) hJ.bk.lt
        have hle := hJ.no (by omega)
        have hK' := Lib.hid hK
        clear hK hround
        go_wp2
        rw [Exit.noGoto_ret]
        refine leave_mark hK'.out (results_tmp rfl _ _ _) ⟨?_, .inr ⟨g0, g1, g2, ?_⟩, Fr.putObj0 (hf1.trans hf6) (.inr (by omega)) _⟩
        · refine ret1_eq ?_
          rw [e1.out, if_neg (by omega)]
          rfl
        · rw [FN.putObj]
          exact (hm6.frame (Fr.putObj0 (F := fun k => k = B) (Fr.refl _ W6) (.inl rfl) _) (fun j hj he => by have := hFN j hj; omega)).mono (FN.more hf6.size)
      · refine ⟨⟨_, rfl⟩, .inr ⟨_, hX.bk, fun W6 ht hK => ?_⟩⟩
        have hbw6 := ht.blk hX.hw (by omega)
        have c2 : W6.cell? ⟨w1.heap.size, 0, none⟩ = some (.int .i64 (wrap64 (v - 1))) := hbw6.cell 0
        have hm6 := hX.cm.frame ht.fr (fun j hj he => by have := hFN j hj; omega)
        have hf6 : Fr (FN F w w1) w1 W6 := ht.of hX.fr (by omega) hX.bk.lt
        have hpos := hX.yes
        have hK' := Lib.hid hK
        clear hK hround
        go_wp2
        rw [Exit.noGoto_ret]
        refine leave_mark hK'.out (results_tmp rfl _ _ _) ⟨?_, .inr ⟨g0, g1, g2, ?_⟩, Fr.putObj0 (hf1.trans hf6) (.inr (by omega)) _⟩
        · refine ret1_eq ?_
          rw [e1.out, if_pos hpos]
          rfl
        · rw [FN.putObj]
          exact (hm6.frame (Fr.putObj0 (F := fun k => k = B) (Fr.refl _ W6) (.inl rfl) _) (fun j hj he => by have := hFN j hj; omega)).mono (FN.more hf6.size)
end

theorem cHolderM_nil (w : World) (i : Int) : Calls Try.prog 21 #[.pointer none, .int .i64 i] w fun e w' => e = .returned (.int .i64 (-1)) ∧ Fr no w w' := by
  refine calls_of_wp_marks Try.func21 rfl ?_
  simp only [Try.ntmps21, List.size_toArray, List.length_cons, List.length_nil, Nat.reduceAdd, Nat.reduceSub, Array.replicate_succ, Array.replicate_zero, List.push_toArray, List.append_toArray, List.nil_append, List.cons_append]
  go_wp2
  go_step3
  go_wp2_with (go_at_call 50; refine (holder_nil _ _).mono ?_; rintro e w1 ⟨rfl, rfl⟩)
  rw [Exit.noGoto_ret]
  refine leave_none (results_tmp rfl _ _ _) ⟨rfl, (Fr.refl no w).alloc _⟩

/-! ### Cells over a stretch of calls, seen from its beginning -/
structure CSt (F : Nat → Prop) (w : World) (b : Nat) (l0 l1 l2 : List Int) (w' : World) : Prop where
  cells : CellsAt (FN F w w') w' b l0 l1 l2
  fr : Fr F w w'
  bd : ∀ k, F k → k < w.heap.size

section
variable {F : Nat → Prop} {w w1 : World} {b : Nat} {l0 l1 l2 l0' l1' l2' : List Int} {f : FuncId} {args : Array Value} {v : Value}
theorem CSt.go (h : CSt F w b l0 l1 l2 w1) (hc : ∀ F w, (∀ k, F k → k < w.heap.size) → CellsAt F w b l0 l1 l2 → Calls Try.prog f args w (Post1 F w b v l0' l1' l2')) :
    Calls Try.prog f args w1 fun e w2 => e = .returned v ∧ CSt F w b l0' l1' l2' w2 := by
  refine (hc _ w1 (FN.lt h.bd h.fr.size) h.cells).mono ?_
  rintro e w2 ⟨rfl, h1, h2⟩
  rw [FN.trans F h.fr.size h2.size] at h1
  exact ⟨rfl, h1, h.fr.trans h2, h.bd⟩
theorem CSt.load (h : CSt F w b l0 l1 l2 w1) (i : Int)  {m0 m1 m2 : List Int} {r : Value} (hr : Value.tuple #[.int .i64 (ldv l0 i), .int .i64 (er l0 i)] = r := by first | rfl | kernel_rfl) (h0 : l0 = m0 := by first | rfl | kernel_rfl) (h1 : l1 = m1 := by first | rfl | kernel_rfl) (h2 : l2 = m2 := by first | rfl | kernel_rfl) :
    Calls Try.prog 24 #[.pointer (some ⟨b, 0, none⟩), .int .i64 i] w1 fun e w2 => e = .returned r ∧ CSt F w b m0 m1 m2 w2 := by
  subst hr h0 h1 h2
  exact h.go fun F w hF h => cLoad_any F w b _ _ _ i h
theorem CSt.store (h : CSt F w b l0 l1 l2 w1) (i : Int) (u : Int) {m0 m1 m2 : List Int} {r : Value} (hr : Value.int .i64 (er l0 i) = r := by first | rfl | kernel_rfl) (h0 : stv l0 i u = m0 := by first | rfl | kernel_rfl) (h1 : l1 = m1 := by first | rfl | kernel_rfl) (h2 : l2 = m2 := by first | rfl | kernel_rfl) :
    Calls Try.prog 22 #[.pointer (some ⟨b, 0, none⟩), .int .i64 i, .int .i64 u] w1 fun e w2 => e = .returned r ∧ CSt F w b m0 m1 m2 w2 := by
  subst hr h0 h1 h2
  exact h.go fun F w hF h => cStore_any F w b _ _ _ i u h
theorem CSt.add (h : CSt F w b l0 l1 l2 w1) (i : Int) (u : Int) {m0 m1 m2 : List Int} {r : Value} (hr : Value.tuple #[.int .i64 (adv l0 i u), .int .i64 (er l0 i)] = r := by first | rfl | kernel_rfl) (h0 : stv l0 i (adv l0 i u) = m0 := by first | rfl | kernel_rfl) (h1 : l1 = m1 := by first | rfl | kernel_rfl) (h2 : l2 = m2 := by first | rfl | kernel_rfl) :
    Calls Try.prog 25 #[.pointer (some ⟨b, 0, none⟩), .int .i64 i, .int .i64 u] w1 fun e w2 => e = .returned r ∧ CSt F w b m0 m1 m2 w2 := by
  subst hr h0 h1 h2
  exact h.go fun F w hF h => cAdd_any F w b _ _ _ i u h
theorem CSt.swap (h : CSt F w b l0 l1 l2 w1) (i : Int) (o : Int) (u : Int) {m0 m1 m2 : List Int} {r : Value} (hr : Value.tuple #[.bool (swB l0 i o), .int .i64 (er l0 i)] = r := by first | rfl | kernel_rfl) (h0 : swv l0 i o u = m0 := by first | rfl | kernel_rfl) (h1 : l1 = m1 := by first | rfl | kernel_rfl) (h2 : l2 = m2 := by first | rfl | kernel_rfl) :
    Calls Try.prog 23 #[.pointer (some ⟨b, 0, none⟩), .int .i64 i, .int .i64 o, .int .i64 u] w1 fun e w2 => e = .returned r ∧ CSt F w b m0 m1 m2 w2 := by
  subst hr h0 h1 h2
  exact h.go fun F w hF h => cSwap_any F w b _ _ _ i o u h
theorem CSt.lock (h : CSt F w b l0 l1 l2 w1) (i : Int) (a : Int) {m0 m1 m2 : List Int} {r : Value} (hr : Value.int .i64 (tuE l1 i a 0) = r := by first | rfl | kernel_rfl) (h0 : l0 = m0 := by first | rfl | kernel_rfl) (h1 : tuv l1 i a 0 (wrap64 (a + 1)) = m1 := by first | rfl | kernel_rfl) (h2 : l2 = m2 := by first | rfl | kernel_rfl) :
    Calls Try.prog 20 #[.pointer (some ⟨b, 0, none⟩), .int .i64 i, .int .i64 a] w1 fun e w2 => e = .returned r ∧ CSt F w b m0 m1 m2 w2 := by
  subst hr h0 h1 h2
  exact h.go fun F w hF h => cLock_any F w b _ _ _ i a h
theorem CSt.unlock (h : CSt F w b l0 l1 l2 w1) (i : Int) (a : Int) {m0 m1 m2 : List Int} {r : Value} (hr : Value.int .i64 (tuE l1 i a (wrap64 (a + 1))) = r := by first | rfl | kernel_rfl) (h0 : l0 = m0 := by first | rfl | kernel_rfl) (h1 : tuv l1 i a (wrap64 (a + 1)) 0 = m1 := by first | rfl | kernel_rfl) (h2 : l2 = m2 := by first | rfl | kernel_rfl) :
    Calls Try.prog 19 #[.pointer (some ⟨b, 0, none⟩), .int .i64 i, .int .i64 a] w1 fun e w2 => e = .returned r ∧ CSt F w b m0 m1 m2 w2 := by
  subst hr h0 h1 h2
  exact h.go fun F w hF h => cUnlock_any F w b _ _ _ i a h
theorem CSt.change (h : CSt F w b l0 l1 l2 w1) (i : Int)  {m0 m1 m2 : List Int} {r : Value} (hr : Value.int .i64 (spE l2 i 0) = r := by first | rfl | kernel_rfl) (h0 : l0 = m0 := by first | rfl | kernel_rfl) (h1 : l1 = m1 := by first | rfl | kernel_rfl) (h2 : spv l2 i 0 = m2 := by first | rfl | kernel_rfl) :
    Calls Try.prog 26 #[.pointer (some ⟨b, 0, none⟩), .int .i64 i] w1 fun e w2 => e = .returned r ∧ CSt F w b m0 m1 m2 w2 := by
  subst hr h0 h1 h2
  exact h.go fun F w hF h => cChange_any F w b _ _ _ i h
theorem CSt.settle (h : CSt F w b l0 l1 l2 w1) (i : Int)  {m0 m1 m2 : List Int} {r : Value} (hr : Value.int .i64 (spE l2 i 1) = r := by first | rfl | kernel_rfl) (h0 : l0 = m0 := by first | rfl | kernel_rfl) (h1 : l1 = m1 := by first | rfl | kernel_rfl) (h2 : spv l2 i 1 = m2 := by first | rfl | kernel_rfl) :
    Calls Try.prog 28 #[.pointer (some ⟨b, 0, none⟩), .int .i64 i] w1 fun e w2 => e = .returned r ∧ CSt F w b m0 m1 m2 w2 := by
  subst hr h0 h1 h2
  exact h.go fun F w hF h => cSettle_any F w b _ _ _ i h
theorem CSt.begin_ (h : CSt F w b l0 l1 l2 w1) (i : Int)  {m0 m1 m2 : List Int} {r : Value} (hr : Value.tuple #[.int .i64 (bgv l2 i), .int .i64 (bgE l2 i)] = r := by first | rfl | kernel_rfl) (h0 : l0 = m0 := by first | rfl | kernel_rfl) (h1 : l1 = m1 := by first | rfl | kernel_rfl) (h2 : l2 = m2 := by first | rfl | kernel_rfl) :
    Calls Try.prog 27 #[.pointer (some ⟨b, 0, none⟩), .int .i64 i] w1 fun e w2 => e = .returned r ∧ CSt F w b m0 m1 m2 w2 := by
  subst hr h0 h1 h2
  exact h.go fun F w hF h => cBegin_any F w b _ _ _ i h
theorem CSt.end_ (h : CSt F w b l0 l1 l2 w1) (i : Int) (a : Int) {m0 m1 m2 : List Int} {r : Value} (hr : Value.tuple #[.bool (enB l2 i a), .int .i64 (er l2 i)] = r := by first | rfl | kernel_rfl) (h0 : l0 = m0 := by first | rfl | kernel_rfl) (h1 : l1 = m1 := by first | rfl | kernel_rfl) (h2 : l2 = m2 := by first | rfl | kernel_rfl) :
    Calls Try.prog 29 #[.pointer (some ⟨b, 0, none⟩), .int .i64 i, .int .i64 a] w1 fun e w2 => e = .returned r ∧ CSt F w b m0 m1 m2 w2 := by
  subst hr h0 h1 h2
  exact h.go fun F w hF h => cEnd_any F w b _ _ _ i a h
theorem CSt.holder (h : CSt F w b l0 l1 l2 w1) (i : Int)  {m0 m1 m2 : List Int} {r : Value} (hr : Value.int .i64 (hov l1 i) = r := by first | rfl | kernel_rfl) (h0 : l0 = m0 := by first | rfl | kernel_rfl) (h1 : l1 = m1 := by first | rfl | kernel_rfl) (h2 : l2 = m2 := by first | rfl | kernel_rfl) :
    Calls Try.prog 21 #[.pointer (some ⟨b, 0, none⟩), .int .i64 i] w1 fun e w2 => e = .returned r ∧ CSt F w b m0 m1 m2 w2 := by
  subst hr h0 h1 h2
  exact h.go fun F w hF h => cHolderM_any F w b _ _ _ i hF h
theorem CSt.frame (h : CSt F w b l0 l1 l2 w1) {G : Nat → Prop} {w2 : World} (hf : Fr G w1 w2) (hd : ∀ k, FN F w w1 k → ¬ G k) (hg : ∀ k, G k → F k ∨ w.heap.size ≤ k) : CSt F w b l0 l1 l2 w2 :=
  ⟨(h.cells.frame hf hd).mono (FN.more hf.size), h.fr.trans ⟨hf.os, hf.tape, hf.output, hf.size, fun k hk hn => by
    refine hf.block k hk (fun hgk => ?_)
    rcases hg k hgk with h' | h'
    · exact hn (.inl h')
    · exact hn (.inr ⟨h', hk⟩)⟩, h.bd⟩
end
theorem no_lt (w : World) : ∀ k, no k → k < w.heap.size := fun _ h => h.elim
theorem CNew.st {n m k : Nat} {w w' : World} {e : Ending} (h : CNew n m k w e w') : ∃ b, e = .returned (.tuple #[.pointer (some ⟨b, 0, none⟩), .int .i64 0]) ∧ CSt no w b (rep0 n) (rep0 m) (rep0 k) w' := by
  obtain ⟨b, rfl, hc, hf⟩ := h
  exact ⟨b, rfl, hc, hf, no_lt w⟩

end Go.Proofs.Ytkilibdalgnghaa
