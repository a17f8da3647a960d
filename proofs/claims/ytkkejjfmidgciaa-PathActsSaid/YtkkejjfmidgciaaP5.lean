/-
  The walks of New, Segments, Current, Clear, draw, Line, Curve, Close.
-/
import Derived.Test.YtkkejjfmidgciaaP4
namespace Go.Proofs.Ytkkejjfmidgciaa
open Go.RowKit
set_option linter.unusedVariables false
set_option linter.unusedSimpArgs false
/-- The bounds under which a path's calls are walked. -/
structure PB (p : PS) : Prop where
  lo : -9223372036854775808 ≤ p.most
  hi : p.most ≤ 9223372036854775807
  len : p.list.length ≤ 999999999990
theorem add_any (g : Nat) (v : Value) (p : PS) (to : Pt) (x : Value) (m : List Sg) (S : Nat → Prop) (w : World) (h : Pth w g v p) (hx : RowIn w S 7 x m.length (encSs m)) (hS : ∀ k, S k → ¬ ptB g v k) (hb : PB p) (hm : m.length ≤ 2) :
    Calls Try.prog 37 #[.pointer (some ⟨g, 0, none⟩), ptV to, x] w fun e w' => e = .returned (.int .i64 (addF p to m).1) ∧ PthTo w g v (addF p to m).2 w' := by
  have hlen := hb.len
  by_cases ho : p.most < p.list.length + m.length
  · obtain ⟨A, cap, rfl, _, _⟩ : ∃ A c, x = .slice A m.length c ∧ m.length ≤ c ∧ c ≤ maxLen := by obtain ⟨_, A, c, h, h1, h2, _⟩ := hx; exact ⟨A, c, h, h1, h2⟩
    refine (add_over g v p to A m.length cap w h ⟨hb.lo, hb.hi⟩ (by omega) ho).mono ?_
    rintro e w' ⟨rfl, hf⟩
    simp only [addF, if_pos ho]
    exact ⟨trivial, PthTo.same h hf⟩
  · refine (add_in g v p to x m S w h hx hS ⟨hb.lo, hb.hi⟩ (by omega) ho).mono ?_
    rintro e w' ⟨rfl, hf⟩
    simp only [addF, if_neg ho]
    exact ⟨trivial, hf⟩
theorem new_any (most : Int) (w : World) :
    Calls Try.prog 21 #[.int .i64 most] w fun e w' => e = .returned (.pointer (some ⟨w.heap.size, 0, none⟩)) ∧ Pth w' w.heap.size (.slice none 0 0) ⟨most, [], oo, oo⟩ ∧ Fr Nob w w' := by
  go_enter Try.func21, Try.ntmps21
  go_wp2
  go_ret
  exact ⟨rfl, ⟨Blk.new _ _ _, OwnS.nil _ _ _⟩, (Fr.refl _ _).alloc _⟩
theorem seg_any (g : Nat) (v : Value) (p : PS) (w : World) (h : Pth w g v p) (hb : PB p) :
    Calls Try.prog 15 #[.pointer (some ⟨g, 0, none⟩)] w fun e w' => ∃ vo, e = .returned vo ∧ OwnS w' 43 7 vo p.list.length (encSs p.list) ∧ Fr Nob w w' ∧ NewV w vo := by
  have c1 := h.cells.c1
  have HH := Lib.hid h
  have hs := hb.len
  obtain ⟨A, cap, rfl, h1, h2⟩ := h.form
  clear h hb
  go_enter Try.func15, Try.ntmps15
  go_wp2_with fail
  refine (clone_any _ p.list _ _ HH.out.2.row (by omega)).mono ?_
  rintro e w1 ⟨vo, rfl, ho, hf, hn⟩
  go_wp2
  go_ret
  exact ⟨vo, rfl, ho, hf, hn⟩
theorem seg_none (w : World) : Calls Try.prog 15 #[.pointer none] w fun e w' => e = .returned (.slice none 0 0) ∧ w = w' := by
  go_enter Try.func15, Try.ntmps15
  go_wp2
  go_ret
  exact ⟨rfl, rfl⟩
theorem copy_none (w : World) : Calls Try.prog 16 #[.pointer none] w fun e w' => e = .returned (.pointer none) ∧ w = w' := by
  go_enter Try.func16, Try.ntmps16
  go_wp2
  go_ret
  exact ⟨rfl, rfl⟩
theorem clear_none (w : World) : Calls Try.prog 9 #[.pointer none] w fun e w' => e = .returned (.tuple #[]) ∧ w = w' := by
  go_enter Try.func9, Try.ntmps9
  go_wp2
  go_end0
  exact ⟨rfl, rfl⟩
theorem move_none (a : Pt) (w : World) : Calls Try.prog 11 #[.pointer none, ptV a] w fun e w' => e = .returned (.int .i64 21) ∧ Fr Nob w w' := by
  unfold ptV
  go_enter Try.func11, Try.ntmps11
  go_wp2
  go_ret
  exact ⟨rfl, (Fr.refl _ _).alloc _⟩
theorem line_none (a : Pt) (w : World) : Calls Try.prog 12 #[.pointer none, ptV a] w fun e w' => e = .returned (.int .i64 21) ∧ Fr Nob w w' := by
  unfold ptV
  go_enter Try.func12, Try.ntmps12
  go_wp2
  go_ret
  exact ⟨rfl, (Fr.refl _ _).alloc _⟩
theorem curve_none (a b c : Pt) (w : World) : Calls Try.prog 13 #[.pointer none, ptV a, ptV b, ptV c] w fun e w' => e = .returned (.int .i64 21) ∧ Fr Nob w w' := by
  unfold ptV
  go_enter Try.func13, Try.ntmps13
  go_wp2
  go_ret
  exact ⟨rfl, (((Fr.refl _ _).alloc _).alloc _).alloc _⟩
theorem close_none (w : World) : Calls Try.prog 14 #[.pointer none] w fun e w' => e = .returned (.int .i64 21) ∧ w = w' := by
  go_enter Try.func14, Try.ntmps14
  go_wp2
  go_ret
  exact ⟨rfl, rfl⟩
theorem cur_none (w : World) : Calls Try.prog 8 #[.pointer none] w fun e w' => e = .returned (.tuple #[ptV oo, .int .i64 21]) ∧ Fr Nob w w' := by
  unfold ptV oo
  have hb := Blk.new w #[.int .i64 0, .int .i64 0] 23
  have HB := Lib.hid hb
  clear hb
  go_enter Try.func8, Try.ntmps8
  go_wp2
  exact bodyPost_ret (results_ct rfl _ _ _ 23 _ _ rfl HB.out Try.underlying23 rfl (by kernel_rfl)) rfl ⟨rfl, (Fr.refl _ _).alloc _⟩

theorem clear_any (g : Nat) (v : Value) (p : PS) (w : World) (h : Pth w g v p) :
    Calls Try.prog 9 #[.pointer (some ⟨g, 0, none⟩)] w fun e w' => e = .returned (.tuple #[]) ∧ PthTo w g v { p with list := [], start := oo, now := oo } w' := by
  have hc := h.cells
  have c1 := hc.c1
  have c2 := hc.c2
  have c3 := hc.c3
  have c4 := hc.c4
  have c5 := hc.c5
  have f1 := h.1.free 1
  have f2 := h.1.free 2
  have f3 := h.1.free 3
  have f4 := h.1.free 4
  have f5 := h.1.free 5
  have HH := Lib.hid h
  clear h hc
  obtain ⟨p', hp'⟩ : ∃ p' : PS, p' = { p with list := [], start := oo, now := oo } := ⟨_, rfl⟩
  rw [← hp']
  replace hp' := Lib.hid hp'
  go_enter Try.func9, Try.ntmps9
  go_wp2
  go_end0
  refine ⟨rfl, .slice none 0 0, ?_, ((((((Fr.refl _ w).setCell (.inl (.inl rfl)) _).setCell (.inl (.inl rfl)) _).setCell (.inl (.inl rfl)) _).setCell (.inl (.inl rfl)) _).setCell (.inl (.inl rfl)) _), fun b hb => by simp [Value.ownBlock] at hb⟩
  rw [hp'.out]
  exact ⟨((((HH.out.1.set 1 _).set 2 _).set 3 _).set 4 _).set 5 _, OwnS.nil _ _ _⟩
theorem cur_any (g : Nat) (v : Value) (p : PS) (w : World) (h : Pth w g v p) :
    Calls Try.prog 8 #[.pointer (some ⟨g, 0, none⟩)] w fun e w' => e = .returned (.tuple #[ptV (if p.list.length = 0 then oo else p.now), .int .i64 (if p.list.length = 0 then 10 else 0)]) ∧ Fr Nob w w' := by
  have hf := (Fr.refl Nob w).alloc (.cells #[.int .i64 0, .int .i64 0] 23)
  have hc := (h.nob hf).cells
  have hgw : g ≠ w.heap.size := by have := h.1.lt; omega
  have c1 := hc.c1
  have c4 := hc.c4
  have c5 := hc.c5
  obtain ⟨A, cap, rfl, h1, h2⟩ := h.form
  unfold ptV oo
  by_cases h0 : p.list.length = 0
  · have hb := Blk.new w #[.int .i64 0, .int .i64 0] 23
    rw [if_pos h0, if_pos h0]
    rw [h0] at c1
    have HB := Lib.hid hb
    clear hb hf hc h h0 h1
    go_enter Try.func8, Try.ntmps8
    go_wp2
    exact bodyPost_ret (results_ct rfl _ _ _ 23 _ _ rfl HB.out Try.underlying23 rfl (by kernel_rfl)) rfl ⟨rfl, (Fr.refl _ _).alloc _⟩
  · have hb := Blk.new w #[.int .i64 p.now.x, .int .i64 p.now.y] 23
    rw [if_neg h0, if_neg h0]
    have HB := Lib.hid hb
    have i0 : ((p.list.length : Int) == 0) = false := beq_eq_false_iff_ne.2 (by omega)
    clear hb hf hc h
    go_enter Try.func8, Try.ntmps8
    go_wp2
    exact bodyPost_ret (results_ct rfl _ _ _ 23 _ _ rfl HB.out Try.underlying23 rfl (by kernel_rfl)) rfl ⟨rfl, (Fr.refl _ _).alloc _⟩

/-- A segment, and as values. -/
def closeS : Sg := ⟨4, oo, oo, oo⟩
def moveS (a : Pt) : Sg := ⟨1, a, oo, oo⟩
def lineS (a : Pt) : Sg := ⟨2, a, oo, oo⟩
theorem RowIn.sgs (w : World) (l : List Sg) (hl : l.length ≤ 2) : RowIn (w.alloc (.cells (encSs l).toArray 43)) (fun k => k = w.heap.size) 7 (.slice (some ⟨w.heap.size, 0, none⟩) l.length l.length) l.length (encSs l) := by
  have := RowIn.lit w 43 7 (encSs l).toArray l.length (by simp [encSs_len]) (by unfold maxLen; omega)
  simpa using this
def closeF (p : PS) : Int × PS := if lastK p.list = 0 ∨ lastK p.list = 4 then (0, p) else addF p p.start [closeS]
theorem close_any (g : Nat) (v : Value) (p : PS) (w : World) (h : Pth w g v p) (hb : PB p) :
    Calls Try.prog 14 #[.pointer (some ⟨g, 0, none⟩)] w fun e w' => e = .returned (.int .i64 (closeF p).1) ∧ PthTo w g v (closeF p).2 w' := by
  have HH := Lib.hid h
  by_cases h0 : lastK p.list = 0
  · rw [show closeF p = (0, p) by simp [closeF, h0]]
    clear h
    go_enter Try.func14, Try.ntmps14
    go_wp2_with fail
    refine (last_any g v p _ HH.out).mono ?_
    rw [h0]
    rintro e w1 ⟨rfl, hf⟩
    have HF := Lib.hid hf
    clear hf
    go_wp2_with fail
    go_ret
    exact ⟨rfl, PthTo.same HH.out HF.out⟩
  have e0 : (lastK p.list == 0) = false := by simpa using h0
  by_cases h4 : lastK p.list = 4
  · rw [show closeF p = (0, p) by simp [closeF, h4]]
    clear h
    go_enter Try.func14, Try.ntmps14
    go_wp2_with fail
    refine (last_any g v p _ HH.out).mono ?_
    rintro e w1 ⟨rfl, hf⟩
    have HF := Lib.hid hf
    clear hf
    go_wp2_with fail
    refine (last_any g v p _ (HH.out.nob HF.out)).mono ?_
    rw [h4]
    rintro e w2 ⟨rfl, hf⟩
    have HF2 := Lib.hid (HF.out.trans0 hf)
    clear hf
    go_wp2_with fail
    go_ret
    exact ⟨rfl, PthTo.same HH.out HF2.out⟩
  have e4 : (lastK p.list == 4) = false := by simpa using h4
  rw [show closeF p = addF p p.start [closeS] by simp [closeF, h0, h4]]
  have hl : ∀ k, ptB g v k → k < w.heap.size := h.lt
  have HL := Lib.hid hl
  clear h hl h0 h4
  obtain ⟨r, hr⟩ : ∃ r, addF p p.start [closeS] = r := ⟨_, rfl⟩
  rw [hr]
  have HR := Lib.hid hr
  clear hr
  go_enter Try.func14, Try.ntmps14
  go_wp2_with fail
  refine (last_any g v p _ HH.out).mono ?_
  rintro e w1 ⟨rfl, hf⟩
  have HF := Lib.hid hf
  clear hf
  go_wp2_with fail
  refine (last_any g v p _ (HH.out.nob HF.out)).mono ?_
  rintro e w2 ⟨rfl, hf⟩
  have HF2 := Lib.hid (HF.out.trans0 hf)
  have hp2 := HH.out.nob HF2.out
  have hc := hp2.cells
  have c2 := hc.c2
  have c3 := hc.c3
  have HP := Lib.hid hp2
  clear hf HF hc hp2
  go_wp2_with fail
  have hr := RowIn.sgs w2 [closeS] (by simp)
  have ha := (Fr.refl Nob w2).alloc (.cells (encSs [closeS]).toArray 43)
  refine (add_any g v p p.start _ [closeS] _ _ (HP.out.nob ha) hr (fun k hk hb => ?_) hb (by simp)).mono ?_
  · have := HL.out k hb
    have := HF2.out.size
    omega
  rw [HR.out]
  rintro e w3 ⟨rfl, v', hp, hfr, hv⟩
  have HQ := Lib.hid (show PthTo w g v r.2 w3 from ⟨v', hp, ((HF2.out.trans0 ha).mono (fun _ hf => hf.elim)).trans hfr fun k hk => .inl hk, fun b hb => by
    rcases hv b hb with h | h
    · exact .inl h
    · exact .inr (Nat.le_trans (HF2.out.trans0 ha).size h)⟩)
  clear hp hfr hv ha hr
  go_wp2_with fail
  go_ret
  exact ⟨rfl, HQ.out⟩
end Go.Proofs.Ytkkejjfmidgciaa
