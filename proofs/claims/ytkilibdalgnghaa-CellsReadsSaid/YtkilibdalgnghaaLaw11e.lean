/-
  The law CellsReads, walked.
-/
import Derived.Test.YtkilibdalgnghaaLaw11
import Derived.Test.YtkilibdalgnghaaPlain11
import Derived.Test.YtkilibdalgnghaaArgs
namespace Go.Proofs.Ytkilibdalgnghaa
set_option linter.unusedVariables false
set_option linter.unusedSimpArgs false
open Go.RowKit Go.Shelf

/-- The two cells and the count, by the writer's next step and how often it began. -/
def rc (w v : Int) : List Int := [if w = 1 then v - 1 else v, if w = 1 ∨ w = 2 then v - 1 else v]
def rs (w v : Int) : List Int := [if w = 0 then 2 * v else 2 * v - 1]
def cnt (w v : Int) : Int := if w = 0 then 2 * v else 2 * v - 1
/-- What the reader knows. -/
structure RInv (w r at_ a b v : Int) : Prop where
  w0 : 0 ≤ w
  w3 : w ≤ 3
  r0 : 0 ≤ r
  r3 : r ≤ 3
  v0 : 0 ≤ v
  v1 : w ≠ 0 → 1 ≤ v
  le : 1 ≤ r → 0 ≤ at_ ∧ at_ ≤ cnt w v
  eq : 1 ≤ r → at_ = cnt w v → w = 0 ∧ (2 ≤ r → a = v) ∧ (3 ≤ r → b = v)

theorem even_of (v : Int) : (2 * v) % 2 = 0 := by omega
theorem odd_of (v : Int) : (2 * v - 1) % 2 = 1 := by omega

section
variable {r at_ a b v : Int}
/-- the writer's steps. -/
theorem RInv.change (h : RInv 0 r at_ a b v) : RInv 1 r at_ a b (v + 1) := by
  obtain ⟨_, _, h3, h4, h5, h6, h7, h8⟩ := h
  refine ⟨by omega, by omega, h3, h4, by omega, by omega, fun hr => ?_, fun hr he => ?_⟩
  · have := h7 hr; simp [cnt] at this ⊢; omega
  · have := h7 hr; simp [cnt] at this he; omega
theorem RInv.store0 (h : RInv 1 r at_ a b v) : RInv 2 r at_ a b v := by
  obtain ⟨_, _, h3, h4, h5, h6, h7, h8⟩ := h
  exact ⟨by omega, by omega, h3, h4, h5, fun _ => h6 (by omega), fun hr => by simpa [cnt] using h7 hr, fun hr he => by have := (h8 hr (by simpa [cnt] using he)).1; omega⟩
theorem RInv.store1 (h : RInv 2 r at_ a b v) : RInv 3 r at_ a b v := by
  obtain ⟨_, _, h3, h4, h5, h6, h7, h8⟩ := h
  exact ⟨by omega, by omega, h3, h4, h5, fun _ => h6 (by omega), fun hr => by simpa [cnt] using h7 hr, fun hr he => by have := (h8 hr (by simpa [cnt] using he)).1; omega⟩
theorem RInv.settle (h : RInv 3 r at_ a b v) : RInv 0 r at_ a b v := by
  obtain ⟨_, _, h3, h4, h5, h6, h7, h8⟩ := h
  refine ⟨by omega, by omega, h3, h4, h5, by omega, fun hr => ?_, fun hr he => ?_⟩
  · have := h7 hr; simp [cnt] at this ⊢; omega
  · have := h7 hr; simp [cnt] at this he; omega
end
section
variable {w at_ a b v : Int}
theorem RInv.begin_ (h : RInv w 0 at_ a b v) (hw : w = 0) : RInv w 1 (2 * v) a b v := by
  obtain ⟨h1, h2, h3, h4, h5, h6, h7, h8⟩ := h
  subst hw
  exact ⟨h1, h2, by omega, by omega, h5, h6, fun _ => by simp [cnt]; omega, fun _ _ => ⟨rfl, by omega, by omega⟩⟩
theorem RInv.load0 (h : RInv w 1 at_ a b v) (x : Int) (hx : w = 0 → x = v) : RInv w 2 at_ x b v := by
  obtain ⟨h1, h2, h3, h4, h5, h6, h7, h8⟩ := h
  exact ⟨h1, h2, by omega, by omega, h5, h6, fun _ => h7 (by omega), fun _ he => ⟨(h8 (by omega) he).1, fun _ => hx (h8 (by omega) he).1, by omega⟩⟩
theorem RInv.load1 (h : RInv w 2 at_ a b v) (x : Int) (hx : w = 0 → x = v) : RInv w 3 at_ a x v := by
  obtain ⟨h1, h2, h3, h4, h5, h6, h7, h8⟩ := h
  exact ⟨h1, h2, by omega, by omega, h5, h6, fun _ => h7 (by omega), fun _ he => ⟨(h8 (by omega) he).1, fun _ => (h8 (by omega) he).2.1 (by omega), fun _ => hx (h8 (by omega) he).1⟩⟩
theorem RInv.end_ (h : RInv w 3 at_ a b v) : RInv w 0 at_ a b v := by
  obtain ⟨h1, h2, h3, h4, h5, h6, h7, h8⟩ := h
  exact ⟨h1, h2, by omega, by omega, h5, h6, fun hr => by omega, fun hr => by omega⟩
end
theorem ldv_one (x : Int) : ldv [x] 0 = x := by simp [ldv, inB]
theorem inB_one (x : Int) : inB [x] 0 = true := by simp [inB]

theorem w_change (v : Int) (h0 : 0 ≤ v) (h1 : v ≤ 80) : Value.int .i64 (spE (rs 0 v) 0 0) = .int .i64 0 ∧ spv (rs 0 v) 0 0 = rs 1 (v + 1) ∧ rc 0 v = rc 1 (v + 1) := by
  have hw : wrap64 (2 * v + 1) = 2 * v + 1 := by unfold wrap64; omega
  refine ⟨?_, ?_, ?_⟩
  · simp [spE, rs, ldv_one, inB_one]
  · simp [spv, spB, rs, ldv_one, inB_one, hw]; omega
  · simp [rc]
theorem w_store0 (v : Int) : Value.int .i64 (er (rc 1 v) 0) = .int .i64 0 ∧ stv (rc 1 v) 0 v = rc 2 v ∧ rs 1 v = rs 2 v := by
  refine ⟨?_, ?_, ?_⟩
  · simp [er, rc, inB]
  · simp [stv, rc, inB]
  · simp [rs]
theorem w_store1 (v : Int) : Value.int .i64 (er (rc 2 v) 1) = .int .i64 0 ∧ stv (rc 2 v) 1 v = rc 3 v ∧ rs 2 v = rs 3 v := by
  refine ⟨?_, ?_, ?_⟩
  · simp [er, rc, inB]
  · simp [stv, rc, inB]
  · simp [rs]
theorem w_settle (v : Int) (h0 : 0 ≤ v) (h1 : v ≤ 80) : Value.int .i64 (spE (rs 3 v) 0 1) = .int .i64 0 ∧ spv (rs 3 v) 0 1 = rs 0 v ∧ rc 3 v = rc 0 v := by
  have ho := odd_of v
  have hw : wrap64 (2 * v) = 2 * v := by unfold wrap64; omega
  refine ⟨?_, ?_, ?_⟩
  · simp [spE, rs, ldv_one, inB_one, ho]
  · simp [spv, spB, rs, ldv_one, inB_one, ho, hw]
  · simp [rc]
theorem r_begin0 (v : Int) : Value.tuple #[.int .i64 (bgv (rs 0 v) 0), .int .i64 (bgE (rs 0 v) 0)] = .tuple #[.int .i64 (2 * v), .int .i64 0] := by
  simp [bgv, bgE, rs, ldv_one, inB_one]
theorem r_begin1 (w v : Int) (hw : w ≠ 0) : Value.tuple #[.int .i64 (bgv (rs w v) 0), .int .i64 (bgE (rs w v) 0)] = .tuple #[.int .i64 0, .int .i64 111] := by
  have ho := odd_of v
  simp [bgv, bgE, rs, ldv_one, inB_one, hw, ho]
theorem r_load0 (w v : Int) : ∃ x, Value.tuple #[.int .i64 (ldv (rc w v) 0), .int .i64 (er (rc w v) 0)] = .tuple #[.int .i64 x, .int .i64 0] ∧ (w = 0 → x = v) :=
  ⟨ldv (rc w v) 0, by simp [er, rc, inB], fun h => by simp [rc, h, ldv, inB]⟩
theorem r_load1 (w v : Int) : ∃ x, Value.tuple #[.int .i64 (ldv (rc w v) 1), .int .i64 (er (rc w v) 1)] = .tuple #[.int .i64 x, .int .i64 0] ∧ (w = 0 → x = v) :=
  ⟨ldv (rc w v) 1, by simp [er, rc, inB], fun h => by simp [rc, h, ldv, inB]⟩
theorem r_end (w v at_ : Int) : Value.tuple #[.bool (enB (rs w v) 0 at_), .int .i64 (er (rs w v) 0)] = .tuple #[.bool (cnt w v == at_), .int .i64 0] := by
  simp [enB, er, rs, inB, ldv, cnt]

set_option maxRecDepth 100000 in
set_option maxHeartbeats 6400000 in
theorem creads_any (A : Option Addr) (n c : Nat) (f : Nat → Nat → Int) (w : World) (hr : RowsAt w w.heap.size 5 A n (int5 f)) :
    Calls Try.prog 7 #[.slice A n c] w fun e w' => e = .returned (.bool true) ∧ Fr no w w' := by
  have hn := hr.small
  have HR := Lib.hid hr
  clear hr
  go_enter Try.func7, Try.ntmps7
  go_wp2_with (go_at_call 17; refine (shown_any _).mono ?_; rintro e w0 ⟨rfl, hf0⟩)
  refine (cNew_ok 2 0 1 _ (by omega) (by omega) (by omega)).mono ?_
  rintro e w1 hn
  obtain ⟨cb, rfl, hs1⟩ := hn.st
  clear hn
  go_wp2
  go_loopw [6, 7, 8, 9, 10, 11, 12] (fun sw sr sat sa sb sv i wr => ∃ (k : Nat) (wv rv at_ av bv v : Int), k ≤ n ∧ k ≤ 80 ∧ i = .int .i64 k ∧ sw = .int .i64 wv ∧ sr = .int .i64 rv ∧ sat = .int .i64 at_ ∧ sa = .int .i64 av ∧ sb = .int .i64 bv ∧ sv = .int .i64 v ∧
      RInv wv rv at_ av bv v ∧ v ≤ k ∧ CSt no w0 cb (rc wv v) (rep0 0) (rs wv v) wr) (fun _ _ _ _ _ _ i _ => n - (intOf i).toNat)
  case atStart => exact ⟨0, 0, 0, 0, 0, 0, 0, Nat.zero_le _, by omega, rfl, rfl, rfl, rfl, rfl, rfl, rfl, ⟨by omega, by omega, by omega, by omega, by omega, by omega, by omega, by omega⟩, by omega, hs1⟩
  case round =>
    obtain ⟨k, wv, rv, at_, av, bv, v, hk, hk80, rfl, rfl, rfl, rfl, rfl, rfl, rfl, hI, hvk, hs2⟩ := hrel
    clear hs1
    by_cases hlt : k < n
    · by_cases hlt8 : k < 80
      · have hrk := HR.out.keep (hf0.is_below.trans (hs2.fr.is_below.mono hf0.size))
        obtain ⟨g, o, rfl, hg, hc⟩ := hrk.at_ (by omega)
        have hD : wr.cell? ⟨g, o + k * 5, none⟩ = some (.int .i64 (f k 0)) := hc k 0 hlt (by omega)
        clear hc hrk
        generalize f k 0 = d at *
        have hv0 := hI.v0
        by_cases hd : d.tmod 2 = 0
        · have hd' : (d.tmod 2 == 0) = true := by simp [hd]
          clear hd
          obtain hw4 : wv = 0 ∨ wv = 1 ∨ wv = 2 ∨ wv = 3 := by have := hI.w0; have := hI.w3; omega
          rcases hw4 with rfl | rfl | rfl | rfl
          · -- the writer at 0
            have e := Lib.hid (w_change v hv0 (by omega))
            have hI2 := hI.change
            go_wp2_with fail
            refine (hs2.change 0 e.out.1 rfl rfl e.out.2.1).mono ?_
            rintro e3 w3 ⟨rfl, hs3⟩
            rw [e.out.2.2] at hs3
            go_wp2
            all_goals
              go_roundw
              case rel => exact ⟨k + 1, 1, rv, at_, av, bv, v + 1, by omega, by omega, by go_num, rfl, rfl, rfl, rfl, rfl, rfl, hI2, by omega, hs3⟩
              case measure => simp [intOf]; omega
          · -- the writer at 1
            have e := Lib.hid (w_store0 v)
            have hI2 := hI.store0
            go_wp2_with fail
            refine (hs2.store 0 v e.out.1 e.out.2.1).mono ?_
            rintro e3 w3 ⟨rfl, hs3⟩
            rw [e.out.2.2] at hs3
            go_wp2
            all_goals
              go_roundw
              case rel => exact ⟨k + 1, 2, rv, at_, av, bv, v, by omega, by omega, by go_num, rfl, rfl, rfl, rfl, rfl, rfl, hI2, by omega, hs3⟩
              case measure => simp [intOf]; omega
          · -- the writer at 2
            have e := Lib.hid (w_store1 v)
            have hI2 := hI.store1
            go_wp2_with fail
            refine (hs2.store 1 v e.out.1 e.out.2.1).mono ?_
            rintro e3 w3 ⟨rfl, hs3⟩
            rw [e.out.2.2] at hs3
            go_wp2
            all_goals
              go_roundw
              case rel => exact ⟨k + 1, 3, rv, at_, av, bv, v, by omega, by omega, by go_num, rfl, rfl, rfl, rfl, rfl, rfl, hI2, by omega, hs3⟩
              case measure => simp [intOf]; omega
          · -- the writer at 3
            have e := Lib.hid (w_settle v hv0 (by omega))
            have hI2 := hI.settle
            go_wp2_with fail
            refine (hs2.settle 0 e.out.1 rfl rfl e.out.2.1).mono ?_
            rintro e3 w3 ⟨rfl, hs3⟩
            rw [e.out.2.2] at hs3
            go_wp2
            all_goals
              go_roundw
              case rel => exact ⟨k + 1, 0, rv, at_, av, bv, v, by omega, by omega, by go_num, rfl, rfl, rfl, rfl, rfl, rfl, hI2, by omega, hs3⟩
              case measure => simp [intOf]; omega
        · have hd' : (d.tmod 2 == 0) = false := by simp [hd]
          clear hd
          obtain hr4 : rv = 0 ∨ rv = 1 ∨ rv = 2 ∨ rv = 3 := by have := hI.r0; have := hI.r3; omega
          rcases hr4 with rfl | rfl | rfl | rfl
          · by_cases hw0 : wv = 0
            · subst hw0
              have hI2 := hI.begin_ rfl
              have e := Lib.hid (r_begin0 v)
              go_wp2_with fail
              refine (hs2.begin_ 0 e.out).mono ?_
              rintro e3 w3 ⟨rfl, hs3⟩
              go_wp2
              all_goals
                go_roundw
                case rel => exact ⟨k + 1, 0, 1, 2 * v, av, bv, v, by omega, by omega, by go_num, rfl, rfl, rfl, rfl, rfl, rfl, hI2, by omega, hs3⟩
                case measure => simp [intOf]; omega
            · have e := Lib.hid (r_begin1 wv v hw0)
              go_wp2_with fail
              refine (hs2.begin_ 0 e.out).mono ?_
              rintro e3 w3 ⟨rfl, hs3⟩
              go_wp2
              all_goals
                go_roundw
                case rel => exact ⟨k + 1, wv, 0, at_, av, bv, v, by omega, by omega, by go_num, rfl, rfl, rfl, rfl, rfl, rfl, hI, by omega, hs3⟩
                case measure => simp [intOf]; omega
          · obtain ⟨x, e, hx⟩ := r_load0 wv v
            have hI2 := hI.load0 x hx
            have e' := Lib.hid e
            clear e hx
            go_wp2_with fail
            refine (hs2.load 0 e'.out).mono ?_
            rintro e3 w3 ⟨rfl, hs3⟩
            go_wp2
            all_goals
              go_roundw
              case rel => exact ⟨k + 1, wv, 2, at_, x, bv, v, by omega, by omega, by go_num, rfl, rfl, rfl, rfl, rfl, rfl, hI2, by omega, hs3⟩
              case measure => simp [intOf]; omega
          · obtain ⟨x, e, hx⟩ := r_load1 wv v
            have hI2 := hI.load1 x hx
            have e' := Lib.hid e
            clear e hx
            go_wp2_with fail
            refine (hs2.load 1 e'.out).mono ?_
            rintro e3 w3 ⟨rfl, hs3⟩
            go_wp2
            all_goals
              go_roundw
              case rel => exact ⟨k + 1, wv, 3, at_, av, x, v, by omega, by omega, by go_num, rfl, rfl, rfl, rfl, rfl, rfl, hI2, by omega, hs3⟩
              case measure => simp [intOf]; omega
          · have e := Lib.hid (r_end wv v at_)
            have hI2 := hI.end_
            by_cases hat : cnt wv v = at_
            · have hb : (cnt wv v == at_) = true := by simp [hat]
              obtain ⟨hz0, ha1, hb1⟩ := hI.eq (by omega) hat.symm
              have hab : (av != bv) = false := by rw [ha1 (by omega), hb1 (by omega)]; simp
              rw [hb] at e
              clear hat ha1 hb1 hb hz0
              go_wp2_with fail
              refine (hs2.end_ 0 at_ e.out).mono ?_
              rintro e3 w3 ⟨rfl, hs3⟩
              go_wp2
              all_goals
                go_roundw
                case rel => exact ⟨k + 1, wv, 0, at_, av, bv, v, by omega, by omega, by go_num, rfl, rfl, rfl, rfl, rfl, rfl, hI2, by omega, hs3⟩
                case measure => simp [intOf]; omega
            · have hb : (cnt wv v == at_) = false := by simp [hat]
              rw [hb] at e
              clear hat hb
              go_wp2_with fail
              refine (hs2.end_ 0 at_ e.out).mono ?_
              rintro e3 w3 ⟨rfl, hs3⟩
              go_wp2
              all_goals
                go_roundw
                case rel => exact ⟨k + 1, wv, 0, at_, av, bv, v, by omega, by omega, by go_num, rfl, rfl, rfl, rfl, rfl, rfl, hI2, by omega, hs3⟩
                case measure => simp [intOf]; omega
      · have h80' : 80 ≤ k := by omega
        go_wp2
        go_ret
        exact ⟨rfl, hf0.trans' hs2.fr⟩
    · go_wp2
      go_ret
      exact ⟨rfl, hf0.trans' hs2.fr⟩

end Go.Proofs.Ytkilibdalgnghaa
