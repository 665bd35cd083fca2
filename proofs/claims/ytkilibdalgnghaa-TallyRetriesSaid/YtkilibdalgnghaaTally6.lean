/-
  The tally's Read.
-/
import Derived.Test.YtkilibdalgnghaaTally5
namespace Go.Proofs.Ytkilibdalgnghaa
set_option linter.unusedVariables false
set_option linter.unusedSimpArgs false
open Go.RowKit Go.Shelf

/-- A queue's counts, as the reader tells them. -/
def rowC (L0 : List Int) (i : Int) (k : Nat) : Int := IntKind.u64.wrap (ldv L0 (i * 6 + k))
/-- What a reader has loaded behind k loads. -/
def loads (L0 : List Int) (i : Int) (l : Nat → Int) : Nat → Nat → Int
  | 0 => l
  | k + 1 => upd (loads L0 i l k) k (rowC L0 i k)
theorem six_loads (L0 : List Int) (i : Int) (l : Nat → Int) : six (loads L0 i l 6) = six (rowC L0 i) := by
  simp [six, loads, upd]
section
variable (F : Nat → Prop) (w : World) (rb tb cb q : Nat) (L0 L2 : List Int) (i at_ : Int) (l : Nat → Int)
theorem rdLoad_k (k : Nat) (hk : k < 6) (i0 : 0 ≤ i) (i1 : i < q) (h : RdAt F w rb tb cb q L0 L2 i (k + 1 : Nat) at_ l) :
    Calls Try.prog 43 #[.pointer (some ⟨rb, 0, none⟩)] w (RdPost F w rb tb cb q L0 L2 i (.tuple #[.agg (six no6), .bool false, .int .i64 0]) (k + 2 : Nat) at_ (upd l k (rowC L0 i k))) := by
  obtain rfl | rfl | rfl | rfl | rfl | rfl : k = 0 ∨ k = 1 ∨ k = 2 ∨ k = 3 ∨ k = 4 ∨ k = 5 := by omega
  · have e : rowC L0 i 0 = IntKind.u64.wrap (ldv L0 (i * 6)) := by simp [rowC]
    rw [e]
    exact step_f1 F w rb tb cb q L0 L2 i at_ l 0 2 at_ _ (fun W hW => rdLoad_0 F W rb tb cb q L0 L2 i at_ l i0 i1 hW) h
  · exact step_f2 F w rb tb cb q L0 L2 i at_ l 0 3 at_ _ (fun W hW => rdLoad_1 F W rb tb cb q L0 L2 i at_ l i0 i1 hW) h
  · exact step_f3 F w rb tb cb q L0 L2 i at_ l 0 4 at_ _ (fun W hW => rdLoad_2 F W rb tb cb q L0 L2 i at_ l i0 i1 hW) h
  · exact step_f4 F w rb tb cb q L0 L2 i at_ l 0 5 at_ _ (fun W hW => rdLoad_3 F W rb tb cb q L0 L2 i at_ l i0 i1 hW) h
  · exact step_f5 F w rb tb cb q L0 L2 i at_ l 0 6 at_ _ (fun W hW => rdLoad_4 F W rb tb cb q L0 L2 i at_ l i0 i1 hW) h
  · exact step_f6 F w rb tb cb q L0 L2 i at_ l 0 7 at_ _ (fun W hW => rdLoad_5 F W rb tb cb q L0 L2 i at_ l i0 i1 hW) h
theorem step_begin (hi : inB L2 i = true) (h : RdAt F w rb tb cb q L0 L2 i 0 at_ l) :
    Calls Try.prog 43 #[.pointer (some ⟨rb, 0, none⟩)] w (RdPost F w rb tb cb q L0 L2 i (.tuple #[.agg (six no6), .bool false, .int .i64 (bgE L2 i)]) (if oddB L2 i then 0 else 1) (if oddB L2 i then at_ else ldv L2 i) l) :=
  step_f0 F w rb tb cb q L0 L2 i at_ l _ _ _ l (fun W hW => rdBegin_any F W rb tb cb q L0 L2 i 0 at_ l hi hW) h
theorem step_fail (hi : inB L2 i = true) (he : enB L2 i at_ = false) (h : RdAt F w rb tb cb q L0 L2 i 7 at_ l) :
    Calls Try.prog 43 #[.pointer (some ⟨rb, 0, none⟩)] w (RdPost F w rb tb cb q L0 L2 i (.tuple #[.agg (six no6), .bool false, .int .i64 111]) 0 at_ l) :=
  step_f7 F w rb tb cb q L0 L2 i at_ l _ _ _ l (fun W hW => by have := rdEnd_any F W rb tb cb q L0 L2 i 7 at_ l hi hW; rw [he] at this; exact this) h
theorem step_ok (hi : inB L2 i = true) (he : enB L2 i at_ = true) (h : RdAt F w rb tb cb q L0 L2 i 7 at_ l) :
    Calls Try.prog 43 #[.pointer (some ⟨rb, 0, none⟩)] w (RdPost F w rb tb cb q L0 L2 i (.tuple #[.agg (six l), .bool true, .int .i64 0]) 0 at_ l) :=
  step_done F w rb tb cb q L0 L2 i at_ l (fun W hW => by have := rdEnd_any F W rb tb cb q L0 L2 i 7 at_ l hi hW; rw [he] at this; exact this) h

/-- What Read tells. -/
def rdE (l : List Int) (i : Int) : Int := bgE l i
def rdC (L0 L2 : List Int) (i : Int) : Nat → Int := if bgE L2 i = 0 then rowC L0 i else no6
end

/-- A new reader of an old tally, over a stretch; the blocks K lie beside. -/
structure RSt (F : Nat → Prop) (w : World) (K : Nat → Prop) (rb tb cb q : Nat) (L0 L2 : List Int) (i nx at_ : Int) (l : Nat → Int) (w' : World) : Prop where
  ex : ∃ G, RdAt G w' rb tb cb q L0 L2 i nx at_ l ∧ (∀ k, G k → FN F w w' k) ∧ ∀ k, K k → ¬ G k ∧ k ≠ rb ∧ k < w'.heap.size
  fr : Fr F w w'
  new : w.heap.size ≤ rb
  tbl : tb < w.heap.size
  out : ¬ F tb
  bd : ∀ k, F k → k < w.heap.size
section
variable {F K : Nat → Prop} {w w1 : World} {rb tb cb q : Nat} {L0 L2 : List Int} {i nx at_ nx' at' : Int} {l l' : Nat → Int} {f : FuncId} {args : Array Value} {v : Value}
theorem RSt.go (h : RSt F w K rb tb cb q L0 L2 i nx at_ l w1) (hc : ∀ F w, RdAt F w rb tb cb q L0 L2 i nx at_ l → Calls Try.prog f args w (RdPost F w rb tb cb q L0 L2 i v nx' at' l')) :
    Calls Try.prog f args w1 fun e w2 => e = .returned v ∧ RSt F w K rb tb cb q L0 L2 i nx' at' l' w2 ∧ Kept K w1 w2 := by
  obtain ⟨⟨G, ha, hG, hK⟩, hf, hnew, htl, hto, hbd⟩ := h
  refine (hc _ w1 ha).mono ?_
  rintro e w2 ⟨rfl, h1, h2⟩
  have hrl := ha.rd.lt
  refine ⟨rfl, ⟨⟨_, h1, fun k hk => ?_, fun k hk => ⟨FN.not (hK k hk).2.2 (hK k hk).1, (hK k hk).2.1, Nat.lt_of_lt_of_le (hK k hk).2.2 h2.size⟩⟩, hf.trans (h2.mono fun k hk => ?_), hnew, htl, hto, hbd⟩, fun k hk => h2.block k (hK k hk).2.2 (fun hh => hh.elim (hK k hk).1 (hK k hk).2.1)⟩
  · rcases hk with hk | ⟨hk, hk'⟩
    · exact FN.more h2.size k (hG k hk)
    · exact .inr ⟨Nat.le_trans hf.size hk, hk'⟩
  · rcases hk with hk | rfl
    · exact hG k hk
    · exact .inr ⟨hnew, hrl⟩
theorem RSt.post (h : RSt F w K rb tb cb q L0 L2 i nx at_ l w1) : TPost F w tb cb q v L0 L2 (.returned v) w1 := by
  obtain ⟨⟨G, ha, hG, hK⟩, hf, hnew, htl, hto, hbd⟩ := h
  exact ⟨rfl, ha.t.mono hG (FN.not htl hto) (FN.lt hbd hf.size), hf⟩
theorem RSt.keep {w' : World} (h : RSt F w K rb tb cb q L0 L2 i nx at_ l w1) (hf : Fr no w1 w') : RSt F w K rb tb cb q L0 L2 i nx at_ l w' := by
  obtain ⟨⟨G, ha, hG, hK⟩, hf0, hnew, htl, hto, hbd⟩ := h
  exact ⟨⟨G, ha.keep hf, fun k hk => FN.more hf.size k (hG k hk), fun k hk => ⟨(hK k hk).1, (hK k hk).2.1, Nat.lt_of_lt_of_le (hK k hk).2.2 hf.size⟩⟩, hf0.trans' (hf.mono fun k hk => hk.elim), hnew, htl, hto, hbd⟩
theorem RSt.set_ (h : RSt F w K rb tb cb q L0 L2 i nx at_ l w1) {p : Addr} (hp : K p.block) (hw : w.heap.size ≤ p.block) (u : Value) : RSt F w K rb tb cb q L0 L2 i nx at_ l (w1.setCell p u) := by
  obtain ⟨⟨G, ha, hG, hK⟩, hf, hnew, htl, hto, hbd⟩ := h
  have hf1 : Fr (fun k => k = p.block) w1 (w1.setCell p u) := (Fr.refl (fun k => k = p.block) w1).setCell (.inl rfl) u
  refine ⟨⟨G, ⟨ha.t.frame hf1 (fun k hk he => (hK _ hp).1 (he ▸ hk)) (fun he => by omega), hf1.blk ha.rd (fun he => (hK _ hp).2.1 he.symm), ha.out⟩, ?_, ?_⟩, hf.setCell (.inr hw) u, hnew, htl, hto, hbd⟩
  · intro k hk; rw [FN.setCell]; exact hG k hk
  · intro k hk; exact ⟨(hK k hk).1, (hK k hk).2.1, by simpa [World.setCell] using (hK k hk).2.2⟩
end

/-- How many steps a reader has before it. -/
def mNext (rb : Nat) (w : World) : Nat := match w.cell? ⟨rb, 2, none⟩ with
  | some (.int _ n) => 8 - n.toNat
  | _ => 0
theorem RSt.mnext {F K : Nat → Prop} {w w1 : World} {rb tb cb q : Nat} {L0 L2 : List Int} {i at_ : Int} {k : Nat} {l : Nat → Int} (h : RSt F w K rb tb cb q L0 L2 i k at_ l w1) : mNext rb w1 = 8 - k := by
  obtain ⟨⟨G, ha, _⟩, _⟩ := h
  have := ha.loads.2.2.1
  simp [mNext, this]
section
variable (F : Nat → Prop) (w : World) (tb cb q : Nat) (L0 L2 : List Int) (i : Int)
/-- Between two steps of Read. -/
structure ReadInv (k : Nat) (at_ : Int) (l : Nat → Int) (wr : World) : Prop where
  st : RSt F w (fun k => k = w.heap.size) (w.heap.size + 1) tb cb q L0 L2 i k at_ l wr
  blk : Blk wr w.heap.size 56 (six no6)
  at0 : k = 0 → l = no6
  on : 1 ≤ k → oddB L2 i = false ∧ at_ = ldv L2 i ∧ l = loads L0 i no6 (k - 1)
theorem tRead_out (hi : inB L2 i = false) (h : TAt F w tb cb q L0 L2) : Calls Try.prog 39 #[.pointer (some ⟨tb, 0, none⟩), .int .i64 i] w (TPost F w tb cb q (.tuple #[.agg (six (rdC L0 L2 i)), .int .i64 (bgE L2 i)]) L0 L2) := by
  have hW : Fr no w (w.alloc (.cells #[.int .u64 0, .int .u64 0, .int .u64 0, .int .u64 0, .int .u64 0, .int .u64 0] 56)) := (Fr.refl no w).alloc _
  have hx : Blk (w.alloc (.cells #[.int .u64 0, .int .u64 0, .int .u64 0, .int .u64 0, .int .u64 0, .int .u64 0] 56)) w.heap.size 56 (six no6) := Blk.new _ _ _
  have h1 := h.keep hW
  have e1 : bgE L2 i = 2 := by simp [bgE, hi]
  have e2 : rdC L0 L2 i = no6 := by simp [rdC, e1]
  rw [e1, e2]
  have HR := Lib.hid (tReader_out F _ tb cb q L0 L2 i h1 hi)
  have HP := Lib.hid ((TSt.start h).keep hW)
  clear h h1 hi e1 e2
  go_enter Try.func39, Try.ntmps39
  go_wp2_with fail
  refine HR.out.mono ?_
  rintro e w1 ⟨rfl, rfl⟩
  go_wp2
  try simp only [Exit.inBlock, Exit.then]
  exact bodyPost_ret (res_ct rfl rfl hx Try.underlying56 (by kernel_rfl)) rfl HP.out.post
set_option maxHeartbeats 6400000 in
theorem tRead_in (hi : inB L2 i = true) (h : TAt F w tb cb q L0 L2) : Calls Try.prog 39 #[.pointer (some ⟨tb, 0, none⟩), .int .i64 i] w (TPost F w tb cb q (.tuple #[.agg (six (rdC L0 L2 i)), .int .i64 (bgE L2 i)]) L0 L2) := by
  have hW : Fr no w (w.alloc (.cells #[.int .u64 0, .int .u64 0, .int .u64 0, .int .u64 0, .int .u64 0, .int .u64 0] 56)) := (Fr.refl no w).alloc _
  have hx : Blk (w.alloc (.cells #[.int .u64 0, .int .u64 0, .int .u64 0, .int .u64 0, .int .u64 0, .int .u64 0] 56)) w.heap.size 56 (six no6) := Blk.new _ _ _
  have h1 := h.keep hW
  have HR := Lib.hid (tReader_in F _ tb cb q L0 L2 i h1 hi)
  have esz : (w.alloc (.cells #[.int .u64 0, .int .u64 0, .int .u64 0, .int .u64 0, .int .u64 0, .int .u64 0] 56)).heap.size = w.heap.size + 1 := by simp
  rw [esz] at HR
  have hs : ReadInv F w tb cb q L0 L2 i 0 0 no6 ((w.alloc (.cells #[.int .u64 0, .int .u64 0, .int .u64 0, .int .u64 0, .int .u64 0, .int .u64 0] 56)).alloc (.cells (rdCells tb i 0 0 no6) 126)) :=
    ⟨⟨⟨F, ⟨h1.keep ((Fr.refl no _).alloc _), Blk.new' esz.symm, fun hk => by have := h.bd _ hk; omega⟩, fun k hk => .inl hk, fun k hk => by subst hk; exact ⟨fun hk => by have := h.bd _ hk; omega, by omega, by simp; omega⟩⟩,
      ((Fr.refl F w).alloc _).alloc _, by simp, h.blk.lt, h.out, h.bd⟩, hx.alloc _, fun _ => rfl, fun h => by omega⟩
  have hlen := h.len2
  obtain ⟨i0, i1⟩ := inB_true.1 hi
  rw [hlen] at i1
  have HI := Lib.hid hi
  have e1 : Hid (bgE L2 i = if oddB L2 i then 111 else 0) := by show _ = _; simp [bgE, hi, oddB]
  generalize hv : (Value.tuple #[.agg (six (rdC L0 L2 i)), .int .i64 (bgE L2 i)]) = V
  have HV := Lib.hid hv
  clear h h1 hi hlen hx esz hv
  go_enter Try.func39, Try.ntmps39
  go_wp2_with fail
  refine HR.out.mono ?_
  rintro e w1 ⟨rfl, rfl⟩
  go_wp2_with fail
  go_loopw [] (fun wr => ∃ (k : Nat) (at_ : Int) (l : Nat → Int), k ≤ 7 ∧ ReadInv F w tb cb q L0 L2 i k at_ l wr) (fun wr => mNext (w.heap.size + 1) wr)
  case atStart => exact ⟨0, 0, no6, by omega, hs⟩
  case round =>
    obtain ⟨k, at_, l, hk, hI⟩ := hrel
    clear hs HR hW
    have hm := hI.st.mnext
    have hst := hI.st
    have hbl := hI.blk
    have hon := Lib.hid hI.on
    have ha0 := Lib.hid hI.at0
    clear hI
    by_cases hk0 : k = 0
    · subst hk0
      cases ho : oddB L2 i with
      | true =>
        have e2 : bgE L2 i = 111 := by rw [e1.out, ho]; rfl
        have HB := Lib.hid (hst.go (v := .tuple #[.agg #[.int .u64 0, .int .u64 0, .int .u64 0, .int .u64 0, .int .u64 0, .int .u64 0], .bool false, .int .i64 111]) (nx' := 0) (at' := at_) (l' := l) (fun F w ha => by have := step_begin F w _ tb cb q L0 L2 i at_ l HI.out ha; rw [e2, ho] at this; exact this))
        clear hst
        go_wp2_with fail
        refine HB.out.mono ?_
        rintro e w2 ⟨rfl, hs2, hk2⟩
        have hg := hk2.blk hbl rfl
        clear HB hbl hk2
        have hrd : rdC L0 L2 i = no6 := by simp [rdC, e2]
        rw [e2, hrd] at HV
        clear e1 e2 hrd ho
        have hlt := hg.lt
        have hne : w2.heap.size ≠ w.heap.size := by omega
        have z0 := hg.frozen 0
        have z1 := hg.frozen 1
        have z2 := hg.frozen 2
        have z3 := hg.frozen 3
        have z4 := hg.frozen 4
        have z5 := hg.frozen 5
        obtain ⟨c0, c1, c2, c3, c4, c5⟩ := cells6 hg
        go_wp2
        try simp only [Exit.inBlock, Exit.then]
        have hg4 : Blk (((((((w2.setCell ⟨w.heap.size, 0, none⟩ (.int .u64 0)).setCell ⟨w.heap.size, 1, none⟩ (.int .u64 0)).setCell ⟨w.heap.size, 2, none⟩ (.int .u64 0)).setCell ⟨w.heap.size, 3, none⟩ (.int .u64 0)).setCell ⟨w.heap.size, 4, none⟩ (.int .u64 0)).setCell ⟨w.heap.size, 5, none⟩ (.int .u64 0)).alloc (.cells #[.int .u64 0, .int .u64 0, .int .u64 0, .int .u64 0, .int .u64 0, .int .u64 0] 56)) w.heap.size 56 (six no6) := (((((((hg.set_ 0 _).set_ 1 _).set_ 2 _).set_ 3 _).set_ 4 _).set_ 5 _)).alloc _
        rw [← HV.out]
        exact bodyPost_ret (res_ct rfl rfl hg4 Try.underlying56 (by kernel_rfl)) rfl ((((((((hs2.set_ (p := ⟨w.heap.size, 0, none⟩) rfl (Nat.le_refl _) _).set_ (p := ⟨w.heap.size, 1, none⟩) rfl (Nat.le_refl _) _).set_ (p := ⟨w.heap.size, 2, none⟩) rfl (Nat.le_refl _) _).set_ (p := ⟨w.heap.size, 3, none⟩) rfl (Nat.le_refl _) _).set_ (p := ⟨w.heap.size, 4, none⟩) rfl (Nat.le_refl _) _).set_ (p := ⟨w.heap.size, 5, none⟩) rfl (Nat.le_refl _) _)).keep ((Fr.refl no _).alloc _)).post
      | false =>
        have e2 : bgE L2 i = 0 := by rw [e1.out, ho]; rfl
        have HB := Lib.hid (hst.go (v := .tuple #[.agg #[.int .u64 0, .int .u64 0, .int .u64 0, .int .u64 0, .int .u64 0, .int .u64 0], .bool false, .int .i64 0]) (nx' := (1 : Nat)) (at' := ldv L2 i) (l' := l) (fun F w ha => by have := step_begin F w _ tb cb q L0 L2 i at_ l HI.out ha; rw [e2, ho] at this; exact this))
        clear hst
        go_wp2_with fail
        refine HB.out.mono ?_
        rintro e w2 ⟨rfl, hs2, hk2⟩
        have hg := hk2.blk hbl rfl
        clear HB hbl hk2 hon
        have HO := Lib.hid ho
        clear e1 e2 ho
        go_wp2
        go_roundw
        case rel => exact ⟨1, _, _, by omega, hs2.keep ((Fr.refl no w2).alloc _), hg.alloc _, fun h => by omega, fun _ => ⟨HO.out, rfl, ha0.out (by first | trivial | rfl)⟩⟩
        case measure => rw [(hs2.keep ((Fr.refl no w2).alloc _)).mnext, hm]; omega
    · obtain ⟨j, rfl⟩ : ∃ j, k = j + 1 := ⟨k - 1, by omega⟩
      obtain ⟨ho, hat, hl⟩ := hon.out (by omega)
      simp only [Nat.add_sub_cancel] at hl
      by_cases hj : j < 6
      · have HB := Lib.hid (hst.go (v := .tuple #[.agg #[.int .u64 0, .int .u64 0, .int .u64 0, .int .u64 0, .int .u64 0, .int .u64 0], .bool false, .int .i64 0]) (nx' := (j + 2 : Nat)) (at' := at_) (l' := upd l j (rowC L0 i j)) (fun F w ha => rdLoad_k F w _ tb cb q L0 L2 i at_ l j hj i0 i1 ha))
        have HO := Lib.hid ho
        have HA := Lib.hid hat
        have HL := Lib.hid hl
        clear hst ho hat hl hon e1 hk0
        go_wp2_with fail
        refine HB.out.mono ?_
        rintro e w2 ⟨rfl, hs2, hk2⟩
        have hg := hk2.blk hbl rfl
        clear HB hbl hk2
        go_wp2
        go_roundw
        case rel => exact ⟨j + 2, _, _, by omega, hs2.keep ((Fr.refl no w2).alloc _), hg.alloc _, fun h => by omega, fun _ => ⟨HO.out, HA.out, by rw [HL.out]; rfl⟩⟩
        case measure => rw [(hs2.keep ((Fr.refl no w2).alloc _)).mnext, hm]; omega
      · obtain rfl : j = 6 := by omega
        have he : enB L2 i at_ = true := by rw [hat]; simp [enB, HI.out]
        have HB := Lib.hid (hst.go (v := .tuple #[.agg #[.int .u64 (l 0), .int .u64 (l 1), .int .u64 (l 2), .int .u64 (l 3), .int .u64 (l 4), .int .u64 (l 5)], .bool true, .int .i64 0]) (nx' := 0) (at' := at_) (l' := l) (fun F w ha => step_ok F w _ tb cb q L0 L2 i at_ l HI.out he ha))
        have e2 : bgE L2 i = 0 := by rw [e1.out, ho]; rfl
        have hrd : six (rdC L0 L2 i) = six l := by
          rw [hl, six_loads]
          simp [rdC, e2]
        rw [e2, hrd] at HV
        clear hst ho hat hl hon e1 hk0 he e2 hrd
        go_wp2_with fail
        refine HB.out.mono ?_
        rintro e w2 ⟨rfl, hs2, hk2⟩
        have hg := hk2.blk hbl rfl
        clear HB hbl hk2
        have hlt := hg.lt
        have hne : w2.heap.size ≠ w.heap.size := by omega
        have z0 := hg.frozen 0
        have z1 := hg.frozen 1
        have z2 := hg.frozen 2
        have z3 := hg.frozen 3
        have z4 := hg.frozen 4
        have z5 := hg.frozen 5
        obtain ⟨c0, c1, c2, c3, c4, c5⟩ := cells6 hg
        go_wp2
        try simp only [Exit.inBlock, Exit.then]
        have hg4 : Blk (((((((w2.setCell ⟨w.heap.size, 0, none⟩ (.int .u64 (l 0))).setCell ⟨w.heap.size, 1, none⟩ (.int .u64 (l 1))).setCell ⟨w.heap.size, 2, none⟩ (.int .u64 (l 2))).setCell ⟨w.heap.size, 3, none⟩ (.int .u64 (l 3))).setCell ⟨w.heap.size, 4, none⟩ (.int .u64 (l 4))).setCell ⟨w.heap.size, 5, none⟩ (.int .u64 (l 5))).alloc (.cells #[.int .u64 (l 0), .int .u64 (l 1), .int .u64 (l 2), .int .u64 (l 3), .int .u64 (l 4), .int .u64 (l 5)] 56)) w.heap.size 56 (six l) := (((((((hg.set_ 0 _).set_ 1 _).set_ 2 _).set_ 3 _).set_ 4 _).set_ 5 _)).alloc _
        rw [← HV.out]
        exact bodyPost_ret (res_ct rfl rfl hg4 Try.underlying56 (by kernel_rfl)) rfl ((((((((hs2.set_ (p := ⟨w.heap.size, 0, none⟩) rfl (Nat.le_refl _) _).set_ (p := ⟨w.heap.size, 1, none⟩) rfl (Nat.le_refl _) _).set_ (p := ⟨w.heap.size, 2, none⟩) rfl (Nat.le_refl _) _).set_ (p := ⟨w.heap.size, 3, none⟩) rfl (Nat.le_refl _) _).set_ (p := ⟨w.heap.size, 4, none⟩) rfl (Nat.le_refl _) _).set_ (p := ⟨w.heap.size, 5, none⟩) rfl (Nat.le_refl _) _)).keep ((Fr.refl no _).alloc _)).post

theorem tRead_any (h : TAt F w tb cb q L0 L2) : Calls Try.prog 39 #[.pointer (some ⟨tb, 0, none⟩), .int .i64 i] w (TPost F w tb cb q (.tuple #[.agg (six (rdC L0 L2 i)), .int .i64 (bgE L2 i)]) L0 L2) := by
  cases hi : inB L2 i with
  | true => exact tRead_in F w tb cb q L0 L2 i hi h
  | false => exact tRead_out F w tb cb q L0 L2 i hi h
theorem tRead_nil : Calls Try.prog 39 #[.pointer none, .int .i64 i] w fun e w' => e = .returned (.tuple #[.agg (six no6), .int .i64 1]) ∧ Fr no w w' := by
  go_enter Try.func39, Try.ntmps39
  go_wp2_with (go_at_call 42; refine (tReader_nil _ _).mono ?_; rintro e w1 ⟨rfl, rfl⟩)
  try simp only [Exit.inBlock, Exit.then]
  exact bodyPost_ret (res_ct rfl rfl (Blk.new w _ _) Try.underlying56 (by kernel_rfl)) rfl ⟨rfl, (Fr.refl no w).alloc _⟩
end
end Go.Proofs.Ytkilibdalgnghaa
