/-
  The tally's reader: Step.
-/
import Derived.Test.YtkilibdalgnghaaTally4
import Derived.Laws.EntriesVeiled
namespace Go.Proofs.Ytkilibdalgnghaa
set_option linter.unusedVariables false
set_option linter.unusedSimpArgs false
open Go.RowKit Go.Shelf

section
variable {F : Nat → Prop} {w w1 w2 W : World} {rb tb cb q : Nat} {L0 L2 : List Int} {i nx at_ nx' at' : Int} {l l' : Nat → Int}
theorem RdAt.keep (h : RdAt F w rb tb cb q L0 L2 i nx at_ l) (hf : Fr no w w1) : RdAt F w1 rb tb cb q L0 L2 i nx at_ l := ⟨h.t.keep hf, hf.blk h.rd (no_not _), h.out⟩
/-- Behind Step: the result's block was turned, nothing else. -/
theorem RdAt.fin (h : RdAt F w rb tb cb q L0 L2 i nx at_ l) (hW : Fr no w W) {g : Nat} (hg : w.heap.size ≤ g) (hgW : g < W.heap.size)
    (hp : RdAt (FN F W w1) w1 rb tb cb q L0 L2 i nx' at' l') (hf : Fr (fun k => F k ∨ k = rb) W w1) (h3 : Fr (fun k => k = g) w1 w2) :
    RdAt (FN F w w2) w2 rb tb cb q L0 L2 i nx' at' l' ∧ Fr (fun k => F k ∨ k = rb) w w2 := by
  have hrg : rb < w.heap.size := h.rd.lt
  have htg : tb < w.heap.size := h.t.blk.lt
  have hbd := h.t.bd
  have hd : ∀ k, FN F W w1 k → ¬ (k = g) := by
    rintro k hk rfl
    rcases hk with hk | ⟨hk, _⟩
    · have := hbd _ hk; omega
    · omega
  have hs1 := hf.size
  have hsW := hW.size
  have ht := hp.t.frame h3 hd (by intro he; omega)
  have hr := h3.blk hp.rd (by intro he; omega)
  have hfr : Fr (fun k => F k ∨ k = rb) w w2 := ((hW.mono fun _ hk => hk.elim).trans' hf).trans (h3.mono fun k hk => .inr ⟨by omega, by omega⟩)
  refine ⟨⟨ht.mono ?_ (FN.not htg h.t.out) (FN.lt hbd hfr.size), hr, FN.not hrg h.out⟩, hfr⟩
  rintro k (hk | ⟨hk, hk'⟩)
  · exact .inl hk
  · exact .inr ⟨by omega, Nat.lt_of_lt_of_le hk' h3.size⟩
end

/-- No counts. -/
def no6 : Nat → Int := fun _ => 0
def stepsArr (rb : Nat) : Array Value := #[.func (.func 68) #[.pointer (some ⟨rb, 0, none⟩)] #[], .func (.func 69) #[.pointer (some ⟨rb, 0, none⟩)] #[], .func (.func 69) #[.pointer (some ⟨rb, 0, none⟩)] #[], .func (.func 69) #[.pointer (some ⟨rb, 0, none⟩)] #[],
  .func (.func 69) #[.pointer (some ⟨rb, 0, none⟩)] #[], .func (.func 69) #[.pointer (some ⟨rb, 0, none⟩)] #[], .func (.func 69) #[.pointer (some ⟨rb, 0, none⟩)] #[], .func (.func 70) #[.pointer (some ⟨rb, 0, none⟩)] #[]]
section
variable (F : Nat → Prop) (w : World) (rb tb cb q : Nat) (L0 L2 : List Int) (i nx at_ : Int) (l : Nat → Int)
set_option maxHeartbeats 1600000 in
theorem step_f0 (x nx' at' : Int) (l' : Nat → Int) (HB0 : ∀ W, RdAt F W rb tb cb q L0 L2 i 0 at_ l → Calls Try.prog 68 #[.pointer (some ⟨rb, 0, none⟩)] W (RdPost F W rb tb cb q L0 L2 i (.tuple #[.bool false, .int .i64 x]) nx' at' l'))
    (h : RdAt F w rb tb cb q L0 L2 i 0 at_ l) : Calls Try.prog 43 #[.pointer (some ⟨rb, 0, none⟩)] w (RdPost F w rb tb cb q L0 L2 i (.tuple #[.agg (six no6), .bool false, .int .i64 x]) nx' at' l') := by
  have hr : rb < w.heap.size := h.rd.lt
  obtain ⟨-, -, d2, -, -⟩ := h.loads
  have hW : Fr no w ((w.alloc (.cells (six no6) 56)).alloc (.cells (stepsArr rb) 128)) := ((Fr.refl no w).alloc _).alloc _
  have hx : Blk ((w.alloc (.cells (six no6) 56)).alloc (.cells (stepsArr rb) 128)) w.heap.size 56 (six no6) := (Blk.new _ _ _).alloc _
  have HB := Lib.hid (HB0 _ (h.keep hW))
  have H0 := Lib.hid h
  have hbd := Lib.hid h.t.bd
  have hne : w.heap.size ≠ rb := by omega
  clear h HB0
  go_enter Try.func43, Try.ntmps43
  go_wp2_with fail
  refine HB.out.mono ?_
  rintro e w1 ⟨rfl, hp, hf⟩
  have hg := hf.blk hx (by rintro (hk | hk); have := hbd.out _ hk; omega; omega)
  have z0 := hg.frozen 0
  have z1 := hg.frozen 1
  have z2 := hg.frozen 2
  have z3 := hg.frozen 3
  have z4 := hg.frozen 4
  have z5 := hg.frozen 5
  obtain ⟨c0, c1, c2, c3, c4, c5⟩ := cells6 hg
  go_wp2
  try simp only [Exit.inBlock, Exit.then]
  have hg2 : Blk (((((((w1.setCell ⟨w.heap.size, 0, none⟩ (.int .u64 0)).setCell ⟨w.heap.size, 1, none⟩ (.int .u64 0)).setCell ⟨w.heap.size, 2, none⟩ (.int .u64 0)).setCell ⟨w.heap.size, 3, none⟩ (.int .u64 0)).setCell ⟨w.heap.size, 4, none⟩ (.int .u64 0)).setCell ⟨w.heap.size, 5, none⟩ (.int .u64 0))) w.heap.size 56 (six no6) :=
    (((((hg.set_ 0 _).set_ 1 _).set_ 2 _).set_ 3 _).set_ 4 _).set_ 5 _
  have h3 : Fr (fun k => k = w.heap.size) w1 (((((((w1.setCell ⟨w.heap.size, 0, none⟩ (.int .u64 0)).setCell ⟨w.heap.size, 1, none⟩ (.int .u64 0)).setCell ⟨w.heap.size, 2, none⟩ (.int .u64 0)).setCell ⟨w.heap.size, 3, none⟩ (.int .u64 0)).setCell ⟨w.heap.size, 4, none⟩ (.int .u64 0)).setCell ⟨w.heap.size, 5, none⟩ (.int .u64 0))) :=
    ((((((Fr.refl (fun k => k = w.heap.size) w1).setCell (p := ⟨w.heap.size, 0, none⟩) (.inl rfl) _).setCell (p := ⟨w.heap.size, 1, none⟩) (.inl rfl) _).setCell (p := ⟨w.heap.size, 2, none⟩) (.inl rfl) _).setCell (p := ⟨w.heap.size, 3, none⟩) (.inl rfl) _).setCell (p := ⟨w.heap.size, 4, none⟩) (.inl rfl) _).setCell (p := ⟨w.heap.size, 5, none⟩) (.inl rfl) _
  obtain ⟨q1, q2⟩ := H0.out.fin hW (Nat.le_refl _) (by simp; omega) hp hf h3
  exact bodyPost_ret (res_ctt rfl rfl hg2 Try.underlying56 (by kernel_rfl)) rfl ⟨rfl, q1, q2⟩
set_option maxHeartbeats 1600000 in
theorem step_f1 (x nx' at' : Int) (l' : Nat → Int) (HB0 : ∀ W, RdAt F W rb tb cb q L0 L2 i 1 at_ l → Calls Try.prog 69 #[.pointer (some ⟨rb, 0, none⟩)] W (RdPost F W rb tb cb q L0 L2 i (.tuple #[.bool false, .int .i64 x]) nx' at' l'))
    (h : RdAt F w rb tb cb q L0 L2 i 1 at_ l) : Calls Try.prog 43 #[.pointer (some ⟨rb, 0, none⟩)] w (RdPost F w rb tb cb q L0 L2 i (.tuple #[.agg (six no6), .bool false, .int .i64 x]) nx' at' l') := by
  have hr : rb < w.heap.size := h.rd.lt
  obtain ⟨-, -, d2, -, -⟩ := h.loads
  have hW : Fr no w ((w.alloc (.cells (six no6) 56)).alloc (.cells (stepsArr rb) 128)) := ((Fr.refl no w).alloc _).alloc _
  have hx : Blk ((w.alloc (.cells (six no6) 56)).alloc (.cells (stepsArr rb) 128)) w.heap.size 56 (six no6) := (Blk.new _ _ _).alloc _
  have HB := Lib.hid (HB0 _ (h.keep hW))
  have H0 := Lib.hid h
  have hbd := Lib.hid h.t.bd
  have hne : w.heap.size ≠ rb := by omega
  clear h HB0
  go_enter Try.func43, Try.ntmps43
  go_wp2_with fail
  refine HB.out.mono ?_
  rintro e w1 ⟨rfl, hp, hf⟩
  have hg := hf.blk hx (by rintro (hk | hk); have := hbd.out _ hk; omega; omega)
  have z0 := hg.frozen 0
  have z1 := hg.frozen 1
  have z2 := hg.frozen 2
  have z3 := hg.frozen 3
  have z4 := hg.frozen 4
  have z5 := hg.frozen 5
  obtain ⟨c0, c1, c2, c3, c4, c5⟩ := cells6 hg
  go_wp2
  try simp only [Exit.inBlock, Exit.then]
  have hg2 : Blk (((((((w1.setCell ⟨w.heap.size, 0, none⟩ (.int .u64 0)).setCell ⟨w.heap.size, 1, none⟩ (.int .u64 0)).setCell ⟨w.heap.size, 2, none⟩ (.int .u64 0)).setCell ⟨w.heap.size, 3, none⟩ (.int .u64 0)).setCell ⟨w.heap.size, 4, none⟩ (.int .u64 0)).setCell ⟨w.heap.size, 5, none⟩ (.int .u64 0))) w.heap.size 56 (six no6) :=
    (((((hg.set_ 0 _).set_ 1 _).set_ 2 _).set_ 3 _).set_ 4 _).set_ 5 _
  have h3 : Fr (fun k => k = w.heap.size) w1 (((((((w1.setCell ⟨w.heap.size, 0, none⟩ (.int .u64 0)).setCell ⟨w.heap.size, 1, none⟩ (.int .u64 0)).setCell ⟨w.heap.size, 2, none⟩ (.int .u64 0)).setCell ⟨w.heap.size, 3, none⟩ (.int .u64 0)).setCell ⟨w.heap.size, 4, none⟩ (.int .u64 0)).setCell ⟨w.heap.size, 5, none⟩ (.int .u64 0))) :=
    ((((((Fr.refl (fun k => k = w.heap.size) w1).setCell (p := ⟨w.heap.size, 0, none⟩) (.inl rfl) _).setCell (p := ⟨w.heap.size, 1, none⟩) (.inl rfl) _).setCell (p := ⟨w.heap.size, 2, none⟩) (.inl rfl) _).setCell (p := ⟨w.heap.size, 3, none⟩) (.inl rfl) _).setCell (p := ⟨w.heap.size, 4, none⟩) (.inl rfl) _).setCell (p := ⟨w.heap.size, 5, none⟩) (.inl rfl) _
  obtain ⟨q1, q2⟩ := H0.out.fin hW (Nat.le_refl _) (by simp; omega) hp hf h3
  exact bodyPost_ret (res_ctt rfl rfl hg2 Try.underlying56 (by kernel_rfl)) rfl ⟨rfl, q1, q2⟩
set_option maxHeartbeats 1600000 in
theorem step_f2 (x nx' at' : Int) (l' : Nat → Int) (HB0 : ∀ W, RdAt F W rb tb cb q L0 L2 i 2 at_ l → Calls Try.prog 69 #[.pointer (some ⟨rb, 0, none⟩)] W (RdPost F W rb tb cb q L0 L2 i (.tuple #[.bool false, .int .i64 x]) nx' at' l'))
    (h : RdAt F w rb tb cb q L0 L2 i 2 at_ l) : Calls Try.prog 43 #[.pointer (some ⟨rb, 0, none⟩)] w (RdPost F w rb tb cb q L0 L2 i (.tuple #[.agg (six no6), .bool false, .int .i64 x]) nx' at' l') := by
  have hr : rb < w.heap.size := h.rd.lt
  obtain ⟨-, -, d2, -, -⟩ := h.loads
  have hW : Fr no w ((w.alloc (.cells (six no6) 56)).alloc (.cells (stepsArr rb) 128)) := ((Fr.refl no w).alloc _).alloc _
  have hx : Blk ((w.alloc (.cells (six no6) 56)).alloc (.cells (stepsArr rb) 128)) w.heap.size 56 (six no6) := (Blk.new _ _ _).alloc _
  have HB := Lib.hid (HB0 _ (h.keep hW))
  have H0 := Lib.hid h
  have hbd := Lib.hid h.t.bd
  have hne : w.heap.size ≠ rb := by omega
  clear h HB0
  go_enter Try.func43, Try.ntmps43
  go_wp2_with fail
  refine HB.out.mono ?_
  rintro e w1 ⟨rfl, hp, hf⟩
  have hg := hf.blk hx (by rintro (hk | hk); have := hbd.out _ hk; omega; omega)
  have z0 := hg.frozen 0
  have z1 := hg.frozen 1
  have z2 := hg.frozen 2
  have z3 := hg.frozen 3
  have z4 := hg.frozen 4
  have z5 := hg.frozen 5
  obtain ⟨c0, c1, c2, c3, c4, c5⟩ := cells6 hg
  go_wp2
  try simp only [Exit.inBlock, Exit.then]
  have hg2 : Blk (((((((w1.setCell ⟨w.heap.size, 0, none⟩ (.int .u64 0)).setCell ⟨w.heap.size, 1, none⟩ (.int .u64 0)).setCell ⟨w.heap.size, 2, none⟩ (.int .u64 0)).setCell ⟨w.heap.size, 3, none⟩ (.int .u64 0)).setCell ⟨w.heap.size, 4, none⟩ (.int .u64 0)).setCell ⟨w.heap.size, 5, none⟩ (.int .u64 0))) w.heap.size 56 (six no6) :=
    (((((hg.set_ 0 _).set_ 1 _).set_ 2 _).set_ 3 _).set_ 4 _).set_ 5 _
  have h3 : Fr (fun k => k = w.heap.size) w1 (((((((w1.setCell ⟨w.heap.size, 0, none⟩ (.int .u64 0)).setCell ⟨w.heap.size, 1, none⟩ (.int .u64 0)).setCell ⟨w.heap.size, 2, none⟩ (.int .u64 0)).setCell ⟨w.heap.size, 3, none⟩ (.int .u64 0)).setCell ⟨w.heap.size, 4, none⟩ (.int .u64 0)).setCell ⟨w.heap.size, 5, none⟩ (.int .u64 0))) :=
    ((((((Fr.refl (fun k => k = w.heap.size) w1).setCell (p := ⟨w.heap.size, 0, none⟩) (.inl rfl) _).setCell (p := ⟨w.heap.size, 1, none⟩) (.inl rfl) _).setCell (p := ⟨w.heap.size, 2, none⟩) (.inl rfl) _).setCell (p := ⟨w.heap.size, 3, none⟩) (.inl rfl) _).setCell (p := ⟨w.heap.size, 4, none⟩) (.inl rfl) _).setCell (p := ⟨w.heap.size, 5, none⟩) (.inl rfl) _
  obtain ⟨q1, q2⟩ := H0.out.fin hW (Nat.le_refl _) (by simp; omega) hp hf h3
  exact bodyPost_ret (res_ctt rfl rfl hg2 Try.underlying56 (by kernel_rfl)) rfl ⟨rfl, q1, q2⟩
set_option maxHeartbeats 1600000 in
theorem step_f3 (x nx' at' : Int) (l' : Nat → Int) (HB0 : ∀ W, RdAt F W rb tb cb q L0 L2 i 3 at_ l → Calls Try.prog 69 #[.pointer (some ⟨rb, 0, none⟩)] W (RdPost F W rb tb cb q L0 L2 i (.tuple #[.bool false, .int .i64 x]) nx' at' l'))
    (h : RdAt F w rb tb cb q L0 L2 i 3 at_ l) : Calls Try.prog 43 #[.pointer (some ⟨rb, 0, none⟩)] w (RdPost F w rb tb cb q L0 L2 i (.tuple #[.agg (six no6), .bool false, .int .i64 x]) nx' at' l') := by
  have hr : rb < w.heap.size := h.rd.lt
  obtain ⟨-, -, d2, -, -⟩ := h.loads
  have hW : Fr no w ((w.alloc (.cells (six no6) 56)).alloc (.cells (stepsArr rb) 128)) := ((Fr.refl no w).alloc _).alloc _
  have hx : Blk ((w.alloc (.cells (six no6) 56)).alloc (.cells (stepsArr rb) 128)) w.heap.size 56 (six no6) := (Blk.new _ _ _).alloc _
  have HB := Lib.hid (HB0 _ (h.keep hW))
  have H0 := Lib.hid h
  have hbd := Lib.hid h.t.bd
  have hne : w.heap.size ≠ rb := by omega
  clear h HB0
  go_enter Try.func43, Try.ntmps43
  go_wp2_with fail
  refine HB.out.mono ?_
  rintro e w1 ⟨rfl, hp, hf⟩
  have hg := hf.blk hx (by rintro (hk | hk); have := hbd.out _ hk; omega; omega)
  have z0 := hg.frozen 0
  have z1 := hg.frozen 1
  have z2 := hg.frozen 2
  have z3 := hg.frozen 3
  have z4 := hg.frozen 4
  have z5 := hg.frozen 5
  obtain ⟨c0, c1, c2, c3, c4, c5⟩ := cells6 hg
  go_wp2
  try simp only [Exit.inBlock, Exit.then]
  have hg2 : Blk (((((((w1.setCell ⟨w.heap.size, 0, none⟩ (.int .u64 0)).setCell ⟨w.heap.size, 1, none⟩ (.int .u64 0)).setCell ⟨w.heap.size, 2, none⟩ (.int .u64 0)).setCell ⟨w.heap.size, 3, none⟩ (.int .u64 0)).setCell ⟨w.heap.size, 4, none⟩ (.int .u64 0)).setCell ⟨w.heap.size, 5, none⟩ (.int .u64 0))) w.heap.size 56 (six no6) :=
    (((((hg.set_ 0 _).set_ 1 _).set_ 2 _).set_ 3 _).set_ 4 _).set_ 5 _
  have h3 : Fr (fun k => k = w.heap.size) w1 (((((((w1.setCell ⟨w.heap.size, 0, none⟩ (.int .u64 0)).setCell ⟨w.heap.size, 1, none⟩ (.int .u64 0)).setCell ⟨w.heap.size, 2, none⟩ (.int .u64 0)).setCell ⟨w.heap.size, 3, none⟩ (.int .u64 0)).setCell ⟨w.heap.size, 4, none⟩ (.int .u64 0)).setCell ⟨w.heap.size, 5, none⟩ (.int .u64 0))) :=
    ((((((Fr.refl (fun k => k = w.heap.size) w1).setCell (p := ⟨w.heap.size, 0, none⟩) (.inl rfl) _).setCell (p := ⟨w.heap.size, 1, none⟩) (.inl rfl) _).setCell (p := ⟨w.heap.size, 2, none⟩) (.inl rfl) _).setCell (p := ⟨w.heap.size, 3, none⟩) (.inl rfl) _).setCell (p := ⟨w.heap.size, 4, none⟩) (.inl rfl) _).setCell (p := ⟨w.heap.size, 5, none⟩) (.inl rfl) _
  obtain ⟨q1, q2⟩ := H0.out.fin hW (Nat.le_refl _) (by simp; omega) hp hf h3
  exact bodyPost_ret (res_ctt rfl rfl hg2 Try.underlying56 (by kernel_rfl)) rfl ⟨rfl, q1, q2⟩
set_option maxHeartbeats 1600000 in
theorem step_f4 (x nx' at' : Int) (l' : Nat → Int) (HB0 : ∀ W, RdAt F W rb tb cb q L0 L2 i 4 at_ l → Calls Try.prog 69 #[.pointer (some ⟨rb, 0, none⟩)] W (RdPost F W rb tb cb q L0 L2 i (.tuple #[.bool false, .int .i64 x]) nx' at' l'))
    (h : RdAt F w rb tb cb q L0 L2 i 4 at_ l) : Calls Try.prog 43 #[.pointer (some ⟨rb, 0, none⟩)] w (RdPost F w rb tb cb q L0 L2 i (.tuple #[.agg (six no6), .bool false, .int .i64 x]) nx' at' l') := by
  have hr : rb < w.heap.size := h.rd.lt
  obtain ⟨-, -, d2, -, -⟩ := h.loads
  have hW : Fr no w ((w.alloc (.cells (six no6) 56)).alloc (.cells (stepsArr rb) 128)) := ((Fr.refl no w).alloc _).alloc _
  have hx : Blk ((w.alloc (.cells (six no6) 56)).alloc (.cells (stepsArr rb) 128)) w.heap.size 56 (six no6) := (Blk.new _ _ _).alloc _
  have HB := Lib.hid (HB0 _ (h.keep hW))
  have H0 := Lib.hid h
  have hbd := Lib.hid h.t.bd
  have hne : w.heap.size ≠ rb := by omega
  clear h HB0
  go_enter Try.func43, Try.ntmps43
  go_wp2_with fail
  refine HB.out.mono ?_
  rintro e w1 ⟨rfl, hp, hf⟩
  have hg := hf.blk hx (by rintro (hk | hk); have := hbd.out _ hk; omega; omega)
  have z0 := hg.frozen 0
  have z1 := hg.frozen 1
  have z2 := hg.frozen 2
  have z3 := hg.frozen 3
  have z4 := hg.frozen 4
  have z5 := hg.frozen 5
  obtain ⟨c0, c1, c2, c3, c4, c5⟩ := cells6 hg
  go_wp2
  try simp only [Exit.inBlock, Exit.then]
  have hg2 : Blk (((((((w1.setCell ⟨w.heap.size, 0, none⟩ (.int .u64 0)).setCell ⟨w.heap.size, 1, none⟩ (.int .u64 0)).setCell ⟨w.heap.size, 2, none⟩ (.int .u64 0)).setCell ⟨w.heap.size, 3, none⟩ (.int .u64 0)).setCell ⟨w.heap.size, 4, none⟩ (.int .u64 0)).setCell ⟨w.heap.size, 5, none⟩ (.int .u64 0))) w.heap.size 56 (six no6) :=
    (((((hg.set_ 0 _).set_ 1 _).set_ 2 _).set_ 3 _).set_ 4 _).set_ 5 _
  have h3 : Fr (fun k => k = w.heap.size) w1 (((((((w1.setCell ⟨w.heap.size, 0, none⟩ (.int .u64 0)).setCell ⟨w.heap.size, 1, none⟩ (.int .u64 0)).setCell ⟨w.heap.size, 2, none⟩ (.int .u64 0)).setCell ⟨w.heap.size, 3, none⟩ (.int .u64 0)).setCell ⟨w.heap.size, 4, none⟩ (.int .u64 0)).setCell ⟨w.heap.size, 5, none⟩ (.int .u64 0))) :=
    ((((((Fr.refl (fun k => k = w.heap.size) w1).setCell (p := ⟨w.heap.size, 0, none⟩) (.inl rfl) _).setCell (p := ⟨w.heap.size, 1, none⟩) (.inl rfl) _).setCell (p := ⟨w.heap.size, 2, none⟩) (.inl rfl) _).setCell (p := ⟨w.heap.size, 3, none⟩) (.inl rfl) _).setCell (p := ⟨w.heap.size, 4, none⟩) (.inl rfl) _).setCell (p := ⟨w.heap.size, 5, none⟩) (.inl rfl) _
  obtain ⟨q1, q2⟩ := H0.out.fin hW (Nat.le_refl _) (by simp; omega) hp hf h3
  exact bodyPost_ret (res_ctt rfl rfl hg2 Try.underlying56 (by kernel_rfl)) rfl ⟨rfl, q1, q2⟩
set_option maxHeartbeats 1600000 in
theorem step_f5 (x nx' at' : Int) (l' : Nat → Int) (HB0 : ∀ W, RdAt F W rb tb cb q L0 L2 i 5 at_ l → Calls Try.prog 69 #[.pointer (some ⟨rb, 0, none⟩)] W (RdPost F W rb tb cb q L0 L2 i (.tuple #[.bool false, .int .i64 x]) nx' at' l'))
    (h : RdAt F w rb tb cb q L0 L2 i 5 at_ l) : Calls Try.prog 43 #[.pointer (some ⟨rb, 0, none⟩)] w (RdPost F w rb tb cb q L0 L2 i (.tuple #[.agg (six no6), .bool false, .int .i64 x]) nx' at' l') := by
  have hr : rb < w.heap.size := h.rd.lt
  obtain ⟨-, -, d2, -, -⟩ := h.loads
  have hW : Fr no w ((w.alloc (.cells (six no6) 56)).alloc (.cells (stepsArr rb) 128)) := ((Fr.refl no w).alloc _).alloc _
  have hx : Blk ((w.alloc (.cells (six no6) 56)).alloc (.cells (stepsArr rb) 128)) w.heap.size 56 (six no6) := (Blk.new _ _ _).alloc _
  have HB := Lib.hid (HB0 _ (h.keep hW))
  have H0 := Lib.hid h
  have hbd := Lib.hid h.t.bd
  have hne : w.heap.size ≠ rb := by omega
  clear h HB0
  go_enter Try.func43, Try.ntmps43
  go_wp2_with fail
  refine HB.out.mono ?_
  rintro e w1 ⟨rfl, hp, hf⟩
  have hg := hf.blk hx (by rintro (hk | hk); have := hbd.out _ hk; omega; omega)
  have z0 := hg.frozen 0
  have z1 := hg.frozen 1
  have z2 := hg.frozen 2
  have z3 := hg.frozen 3
  have z4 := hg.frozen 4
  have z5 := hg.frozen 5
  obtain ⟨c0, c1, c2, c3, c4, c5⟩ := cells6 hg
  go_wp2
  try simp only [Exit.inBlock, Exit.then]
  have hg2 : Blk (((((((w1.setCell ⟨w.heap.size, 0, none⟩ (.int .u64 0)).setCell ⟨w.heap.size, 1, none⟩ (.int .u64 0)).setCell ⟨w.heap.size, 2, none⟩ (.int .u64 0)).setCell ⟨w.heap.size, 3, none⟩ (.int .u64 0)).setCell ⟨w.heap.size, 4, none⟩ (.int .u64 0)).setCell ⟨w.heap.size, 5, none⟩ (.int .u64 0))) w.heap.size 56 (six no6) :=
    (((((hg.set_ 0 _).set_ 1 _).set_ 2 _).set_ 3 _).set_ 4 _).set_ 5 _
  have h3 : Fr (fun k => k = w.heap.size) w1 (((((((w1.setCell ⟨w.heap.size, 0, none⟩ (.int .u64 0)).setCell ⟨w.heap.size, 1, none⟩ (.int .u64 0)).setCell ⟨w.heap.size, 2, none⟩ (.int .u64 0)).setCell ⟨w.heap.size, 3, none⟩ (.int .u64 0)).setCell ⟨w.heap.size, 4, none⟩ (.int .u64 0)).setCell ⟨w.heap.size, 5, none⟩ (.int .u64 0))) :=
    ((((((Fr.refl (fun k => k = w.heap.size) w1).setCell (p := ⟨w.heap.size, 0, none⟩) (.inl rfl) _).setCell (p := ⟨w.heap.size, 1, none⟩) (.inl rfl) _).setCell (p := ⟨w.heap.size, 2, none⟩) (.inl rfl) _).setCell (p := ⟨w.heap.size, 3, none⟩) (.inl rfl) _).setCell (p := ⟨w.heap.size, 4, none⟩) (.inl rfl) _).setCell (p := ⟨w.heap.size, 5, none⟩) (.inl rfl) _
  obtain ⟨q1, q2⟩ := H0.out.fin hW (Nat.le_refl _) (by simp; omega) hp hf h3
  exact bodyPost_ret (res_ctt rfl rfl hg2 Try.underlying56 (by kernel_rfl)) rfl ⟨rfl, q1, q2⟩
set_option maxHeartbeats 1600000 in
theorem step_f6 (x nx' at' : Int) (l' : Nat → Int) (HB0 : ∀ W, RdAt F W rb tb cb q L0 L2 i 6 at_ l → Calls Try.prog 69 #[.pointer (some ⟨rb, 0, none⟩)] W (RdPost F W rb tb cb q L0 L2 i (.tuple #[.bool false, .int .i64 x]) nx' at' l'))
    (h : RdAt F w rb tb cb q L0 L2 i 6 at_ l) : Calls Try.prog 43 #[.pointer (some ⟨rb, 0, none⟩)] w (RdPost F w rb tb cb q L0 L2 i (.tuple #[.agg (six no6), .bool false, .int .i64 x]) nx' at' l') := by
  have hr : rb < w.heap.size := h.rd.lt
  obtain ⟨-, -, d2, -, -⟩ := h.loads
  have hW : Fr no w ((w.alloc (.cells (six no6) 56)).alloc (.cells (stepsArr rb) 128)) := ((Fr.refl no w).alloc _).alloc _
  have hx : Blk ((w.alloc (.cells (six no6) 56)).alloc (.cells (stepsArr rb) 128)) w.heap.size 56 (six no6) := (Blk.new _ _ _).alloc _
  have HB := Lib.hid (HB0 _ (h.keep hW))
  have H0 := Lib.hid h
  have hbd := Lib.hid h.t.bd
  have hne : w.heap.size ≠ rb := by omega
  clear h HB0
  go_enter Try.func43, Try.ntmps43
  go_wp2_with fail
  refine HB.out.mono ?_
  rintro e w1 ⟨rfl, hp, hf⟩
  have hg := hf.blk hx (by rintro (hk | hk); have := hbd.out _ hk; omega; omega)
  have z0 := hg.frozen 0
  have z1 := hg.frozen 1
  have z2 := hg.frozen 2
  have z3 := hg.frozen 3
  have z4 := hg.frozen 4
  have z5 := hg.frozen 5
  obtain ⟨c0, c1, c2, c3, c4, c5⟩ := cells6 hg
  go_wp2
  try simp only [Exit.inBlock, Exit.then]
  have hg2 : Blk (((((((w1.setCell ⟨w.heap.size, 0, none⟩ (.int .u64 0)).setCell ⟨w.heap.size, 1, none⟩ (.int .u64 0)).setCell ⟨w.heap.size, 2, none⟩ (.int .u64 0)).setCell ⟨w.heap.size, 3, none⟩ (.int .u64 0)).setCell ⟨w.heap.size, 4, none⟩ (.int .u64 0)).setCell ⟨w.heap.size, 5, none⟩ (.int .u64 0))) w.heap.size 56 (six no6) :=
    (((((hg.set_ 0 _).set_ 1 _).set_ 2 _).set_ 3 _).set_ 4 _).set_ 5 _
  have h3 : Fr (fun k => k = w.heap.size) w1 (((((((w1.setCell ⟨w.heap.size, 0, none⟩ (.int .u64 0)).setCell ⟨w.heap.size, 1, none⟩ (.int .u64 0)).setCell ⟨w.heap.size, 2, none⟩ (.int .u64 0)).setCell ⟨w.heap.size, 3, none⟩ (.int .u64 0)).setCell ⟨w.heap.size, 4, none⟩ (.int .u64 0)).setCell ⟨w.heap.size, 5, none⟩ (.int .u64 0))) :=
    ((((((Fr.refl (fun k => k = w.heap.size) w1).setCell (p := ⟨w.heap.size, 0, none⟩) (.inl rfl) _).setCell (p := ⟨w.heap.size, 1, none⟩) (.inl rfl) _).setCell (p := ⟨w.heap.size, 2, none⟩) (.inl rfl) _).setCell (p := ⟨w.heap.size, 3, none⟩) (.inl rfl) _).setCell (p := ⟨w.heap.size, 4, none⟩) (.inl rfl) _).setCell (p := ⟨w.heap.size, 5, none⟩) (.inl rfl) _
  obtain ⟨q1, q2⟩ := H0.out.fin hW (Nat.le_refl _) (by simp; omega) hp hf h3
  exact bodyPost_ret (res_ctt rfl rfl hg2 Try.underlying56 (by kernel_rfl)) rfl ⟨rfl, q1, q2⟩
set_option maxHeartbeats 1600000 in
theorem step_f7 (x nx' at' : Int) (l' : Nat → Int) (HB0 : ∀ W, RdAt F W rb tb cb q L0 L2 i 7 at_ l → Calls Try.prog 70 #[.pointer (some ⟨rb, 0, none⟩)] W (RdPost F W rb tb cb q L0 L2 i (.tuple #[.bool false, .int .i64 x]) nx' at' l'))
    (h : RdAt F w rb tb cb q L0 L2 i 7 at_ l) : Calls Try.prog 43 #[.pointer (some ⟨rb, 0, none⟩)] w (RdPost F w rb tb cb q L0 L2 i (.tuple #[.agg (six no6), .bool false, .int .i64 x]) nx' at' l') := by
  have hr : rb < w.heap.size := h.rd.lt
  obtain ⟨-, -, d2, -, -⟩ := h.loads
  have hW : Fr no w ((w.alloc (.cells (six no6) 56)).alloc (.cells (stepsArr rb) 128)) := ((Fr.refl no w).alloc _).alloc _
  have hx : Blk ((w.alloc (.cells (six no6) 56)).alloc (.cells (stepsArr rb) 128)) w.heap.size 56 (six no6) := (Blk.new _ _ _).alloc _
  have HB := Lib.hid (HB0 _ (h.keep hW))
  have H0 := Lib.hid h
  have hbd := Lib.hid h.t.bd
  have hne : w.heap.size ≠ rb := by omega
  clear h HB0
  go_enter Try.func43, Try.ntmps43
  go_wp2_with fail
  refine HB.out.mono ?_
  rintro e w1 ⟨rfl, hp, hf⟩
  have hg := hf.blk hx (by rintro (hk | hk); have := hbd.out _ hk; omega; omega)
  have z0 := hg.frozen 0
  have z1 := hg.frozen 1
  have z2 := hg.frozen 2
  have z3 := hg.frozen 3
  have z4 := hg.frozen 4
  have z5 := hg.frozen 5
  obtain ⟨c0, c1, c2, c3, c4, c5⟩ := cells6 hg
  go_wp2
  try simp only [Exit.inBlock, Exit.then]
  have hg2 : Blk (((((((w1.setCell ⟨w.heap.size, 0, none⟩ (.int .u64 0)).setCell ⟨w.heap.size, 1, none⟩ (.int .u64 0)).setCell ⟨w.heap.size, 2, none⟩ (.int .u64 0)).setCell ⟨w.heap.size, 3, none⟩ (.int .u64 0)).setCell ⟨w.heap.size, 4, none⟩ (.int .u64 0)).setCell ⟨w.heap.size, 5, none⟩ (.int .u64 0))) w.heap.size 56 (six no6) :=
    (((((hg.set_ 0 _).set_ 1 _).set_ 2 _).set_ 3 _).set_ 4 _).set_ 5 _
  have h3 : Fr (fun k => k = w.heap.size) w1 (((((((w1.setCell ⟨w.heap.size, 0, none⟩ (.int .u64 0)).setCell ⟨w.heap.size, 1, none⟩ (.int .u64 0)).setCell ⟨w.heap.size, 2, none⟩ (.int .u64 0)).setCell ⟨w.heap.size, 3, none⟩ (.int .u64 0)).setCell ⟨w.heap.size, 4, none⟩ (.int .u64 0)).setCell ⟨w.heap.size, 5, none⟩ (.int .u64 0))) :=
    ((((((Fr.refl (fun k => k = w.heap.size) w1).setCell (p := ⟨w.heap.size, 0, none⟩) (.inl rfl) _).setCell (p := ⟨w.heap.size, 1, none⟩) (.inl rfl) _).setCell (p := ⟨w.heap.size, 2, none⟩) (.inl rfl) _).setCell (p := ⟨w.heap.size, 3, none⟩) (.inl rfl) _).setCell (p := ⟨w.heap.size, 4, none⟩) (.inl rfl) _).setCell (p := ⟨w.heap.size, 5, none⟩) (.inl rfl) _
  obtain ⟨q1, q2⟩ := H0.out.fin hW (Nat.le_refl _) (by simp; omega) hp hf h3
  exact bodyPost_ret (res_ctt rfl rfl hg2 Try.underlying56 (by kernel_rfl)) rfl ⟨rfl, q1, q2⟩
set_option maxHeartbeats 1600000 in
theorem step_done (HB0 : ∀ W, RdAt F W rb tb cb q L0 L2 i 7 at_ l → Calls Try.prog 70 #[.pointer (some ⟨rb, 0, none⟩)] W (RdPost F W rb tb cb q L0 L2 i (.tuple #[.bool true, .int .i64 0]) 0 at_ l))
    (h : RdAt F w rb tb cb q L0 L2 i 7 at_ l) : Calls Try.prog 43 #[.pointer (some ⟨rb, 0, none⟩)] w (RdPost F w rb tb cb q L0 L2 i (.tuple #[.agg (six l), .bool true, .int .i64 0]) 0 at_ l) := by
  have hr : rb < w.heap.size := h.rd.lt
  obtain ⟨-, -, d2, -, -⟩ := h.loads
  have hW : Fr no w ((w.alloc (.cells (six no6) 56)).alloc (.cells (stepsArr rb) 128)) := ((Fr.refl no w).alloc _).alloc _
  have hx : Blk ((w.alloc (.cells (six no6) 56)).alloc (.cells (stepsArr rb) 128)) w.heap.size 56 (six no6) := (Blk.new _ _ _).alloc _
  have HB := Lib.hid (HB0 _ (h.keep hW))
  have H0 := Lib.hid h
  have hbd := Lib.hid h.t.bd
  have hne : w.heap.size ≠ rb := by omega
  clear h HB0
  go_enter Try.func43, Try.ntmps43
  go_wp2_with fail
  refine HB.out.mono ?_
  rintro e w1 ⟨rfl, hp, hf⟩
  have hg1 := hf.blk hx (by rintro (hk | hk); have := hbd.out _ hk; omega; omega)
  have b4 : w1.cell? ⟨rb, 4, none⟩ = some (.int .u64 (l 0)) := hp.rd.cell 4
  have b5 : w1.cell? ⟨rb, 5, none⟩ = some (.int .u64 (l 1)) := hp.rd.cell 5
  have b6 : w1.cell? ⟨rb, 6, none⟩ = some (.int .u64 (l 2)) := hp.rd.cell 6
  have b7 : w1.cell? ⟨rb, 7, none⟩ = some (.int .u64 (l 3)) := hp.rd.cell 7
  have b8 : w1.cell? ⟨rb, 8, none⟩ = some (.int .u64 (l 4)) := hp.rd.cell 8
  have b9 : w1.cell? ⟨rb, 9, none⟩ = some (.int .u64 (l 5)) := hp.rd.cell 9
  go_wp2_with fail
  have HT : Calls Try.prog 71 #[.agg #[.int .u64 (l 0), .int .u64 (l 1), .int .u64 (l 2), .int .u64 (l 3), .int .u64 (l 4), .int .u64 (l 5)]] w1 fun e w' => e = .returned (.agg #[.int .u64 (l 0), .int .u64 (l 1), .int .u64 (l 2), .int .u64 (l 3), .int .u64 (l 4), .int .u64 (l 5)]) ∧ Fr no w1 w' := tCounts_any l w1
  refine HT.mono ?_
  rintro e w2 ⟨rfl, hf2⟩
  clear HT
  clear b4 b5 b6 b7 b8 b9
  have hg := hf2.blk hg1 (no_not _)
  have z0 := hg.frozen 0
  have z1 := hg.frozen 1
  have z2 := hg.frozen 2
  have z3 := hg.frozen 3
  have z4 := hg.frozen 4
  have z5 := hg.frozen 5
  obtain ⟨c0, c1, c2, c3, c4, c5⟩ := cells6 hg
  go_wp2
  try simp only [Exit.inBlock, Exit.then]
  have hg2 : Blk ((((((w2.setCell ⟨w.heap.size, 0, none⟩ (.int .u64 (l 0))).setCell ⟨w.heap.size, 1, none⟩ (.int .u64 (l 1))).setCell ⟨w.heap.size, 2, none⟩ (.int .u64 (l 2))).setCell ⟨w.heap.size, 3, none⟩ (.int .u64 (l 3))).setCell ⟨w.heap.size, 4, none⟩ (.int .u64 (l 4))).setCell ⟨w.heap.size, 5, none⟩ (.int .u64 (l 5))) w.heap.size 56 (six l) :=
    (((((hg.set_ 0 _).set_ 1 _).set_ 2 _).set_ 3 _).set_ 4 _).set_ 5 _
  have h3 : Fr (fun k => k = w.heap.size) w1 ((((((w2.setCell ⟨w.heap.size, 0, none⟩ (.int .u64 (l 0))).setCell ⟨w.heap.size, 1, none⟩ (.int .u64 (l 1))).setCell ⟨w.heap.size, 2, none⟩ (.int .u64 (l 2))).setCell ⟨w.heap.size, 3, none⟩ (.int .u64 (l 3))).setCell ⟨w.heap.size, 4, none⟩ (.int .u64 (l 4))).setCell ⟨w.heap.size, 5, none⟩ (.int .u64 (l 5))) :=
    (((((((Fr.refl (fun k => k = w.heap.size) w1).trans' (hf2.mono fun _ hk => hk.elim)).setCell (p := ⟨w.heap.size, 0, none⟩) (.inl rfl) _).setCell (p := ⟨w.heap.size, 1, none⟩) (.inl rfl) _).setCell (p := ⟨w.heap.size, 2, none⟩) (.inl rfl) _).setCell (p := ⟨w.heap.size, 3, none⟩) (.inl rfl) _).setCell (p := ⟨w.heap.size, 4, none⟩) (.inl rfl) _).setCell (p := ⟨w.heap.size, 5, none⟩) (.inl rfl) _
  obtain ⟨q1, q2⟩ := H0.out.fin hW (Nat.le_refl _) (by simp; omega) hp hf h3
  exact bodyPost_ret (res_ctt rfl rfl hg2 Try.underlying56 (by kernel_rfl)) rfl ⟨rfl, q1, q2⟩
theorem step_nil : Calls Try.prog 43 #[.pointer none] w fun e w' => e = .returned (.tuple #[.agg (six no6), .bool false, .int .i64 1]) ∧ Fr no w w' := by
  go_enter Try.func43, Try.ntmps43
  go_wp2
  try simp only [Exit.inBlock, Exit.then]
  exact bodyPost_ret (res_ctt rfl rfl (Blk.new w _ _) Try.underlying56 (by kernel_rfl)) rfl ⟨rfl, (Fr.refl no w).alloc _⟩
end
end Go.Proofs.Ytkilibdalgnghaa
