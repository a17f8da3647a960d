/-
  The walks of New, Segments, Current, Clear, draw, Line, Curve, Close.
-/
import Derived.Test.YtkkejjfmidgciaaDoorP4
namespace Go.Proofs.YtkkejjfmidgciaaDoor
open Go.RowKit
set_option linter.unusedVariables false
set_option linter.unusedSimpArgs false
/-- The bounds under which a path's calls are walked. -/
structure PB (p : PS) : Prop where
  lo : -9223372036854775808 ≤ p.most
  hi : p.most ≤ 9223372036854775807
  len : p.list.length ≤ 999999999990
theorem add_any (g : Nat) (v : Value) (p : PS) (to : Pt) (x : Value) (m : List Sg) (S : Nat → Prop) (w : World) (h : Pth w g v p) (hx : RowIn w S 7 x m.length (encSs m)) (hS : ∀ k, S k → ¬ ptB g v k) (hb : PB p) (hm : m.length ≤ 2) :
    Calls Tryd.prog 107 #[.pointer (some ⟨g, 0, none⟩), ptV to, x] w fun e w' => e = .returned (.int .i64 (addF p to m).1) ∧ PthTo w g v (addF p to m).2 w' := by
  have hlen := hb.len
  by_cases ho : p.most < p.list.length + m.length
  · obtain ⟨A, cap, rfl, _, _⟩ : ∃ A c, x = .slice A m.length c ∧ m.length ≤ c ∧ c ≤ maxLen := by obtain ⟨_, A, c, h, h1, h2, _⟩ := hx; exact ⟨A, c, h, h1, h2⟩
    refine (add_over g v p to A m.length cap w h ⟨hb.lo, hb.hi⟩ (by omega) ho).mono ?_
    rintro e w' ⟨rfl, hf⟩
    simp only [addF, if_pos ho]
    exact ⟨trivial, PthTo.same h hf⟩
  · refine (add_in g v p to x m S w h hx hS ⟨hb.lo, hb.hi⟩ (by omega) ho).mono ?_
    rintro e w' ⟨rfl, hf⟩
    simp only [addF, if_neg ho]
    exact ⟨trivial, hf⟩
theorem new_any (most : Int) (w : World) :
    Calls Tryd.prog 70 #[.int .i64 most] w fun e w' => e = .returned (.pointer (some ⟨w.heap.size, 0, none⟩)) ∧ Pth w' w.heap.size (.slice none 0 0) ⟨most, [], oo, oo⟩ ∧ Fr Nob w w' := by
  go_enter Tryd.func70, Tryd.ntmps70
  go_wp2
  go_ret
  exact ⟨rfl, ⟨Blk.new _ _ _, OwnS.nil _ _ _⟩, (Fr.refl _ _).alloc _⟩
theorem seg_any (g : Nat) (v : Value) (p : PS) (w : World) (h : Pth w g v p) (hb : PB p) :
    Calls Tryd.prog 34 #[.pointer (some ⟨g, 0, none⟩)] w fun e w' => ∃ vo, e = .returned vo ∧ OwnS w' 91 7 vo p.list.length (encSs p.list) ∧ Fr Nob w w' ∧ NewV w vo := by
  have c1 := h.cells.c1
  have HH := Lib.hid h
  have hs := hb.len
  obtain ⟨A, cap, rfl, h1, h2⟩ := h.form
  clear h hb
  go_enter Tryd.func34, Tryd.ntmps34
  go_wp2_with fail
  refine (clone_any _ p.list _ _ HH.out.2.row (by omega)).mono ?_
  rintro e w1 ⟨vo, rfl, ho, hf, hn⟩
  go_wp2
  go_ret
  exact ⟨vo, rfl, ho, hf, hn⟩
theorem seg_none (w : World) : Calls Tryd.prog 34 #[.pointer none] w fun e w' => e = .returned (.slice none 0 0) ∧ w = w' := by
  go_enter Tryd.func34, Tryd.ntmps34
  go_wp2
  go_ret
  exact ⟨rfl, rfl⟩
theorem copy_none (w : World) : Calls Tryd.prog 90 #[.pointer none] w fun e w' => e = .returned (.pointer none) ∧ w = w' := by
  go_enter Tryd.func90, Tryd.ntmps90
  go_wp2
  go_ret
  exact ⟨rfl, rfl⟩
theorem clear_none (w : World) : Calls Tryd.prog 81 #[.pointer none] w fun e w' => e = .returned (.tuple #[]) ∧ w = w' := by
  go_enter Tryd.func81, Tryd.ntmps81
  go_wp2
  go_end0
  exact ⟨rfl, rfl⟩
theorem move_none (a : Pt) (w : World) : Calls Tryd.prog 64 #[.pointer none, ptV a] w fun e w' => e = .returned (.int .i64 21) ∧ Fr Nob w w' := by
  unfold ptV
  go_enter Tryd.func64, Tryd.ntmps64
  go_wp2
  go_ret
  exact ⟨rfl, (Fr.refl _ _).alloc _⟩
theorem line_none (a : Pt) (w : World) : Calls Tryd.prog 82 #[.pointer none, ptV a] w fun e w' => e = .returned (.int .i64 21) ∧ Fr Nob w w' := by
  unfold ptV
  go_enter Tryd.func82, Tryd.ntmps82
  go_wp2
  go_ret
  exact ⟨rfl, (Fr.refl _ _).alloc _⟩
theorem cur_none (w : World) : Calls Tryd.prog 120 #[.pointer none] w fun e w' => e = .returned (.tuple #[ptV oo, .int .i64 21]) ∧ Fr Nob w w' := by
  unfold ptV oo
  have hb := Blk.new w #[.int .i64 0, .int .i64 0] 56
  have HB := Lib.hid hb
  clear hb
  go_enter Tryd.func120, Tryd.ntmps120
  go_wp2
  exact bodyPost_ret (results_ct rfl _ _ _ 56 _ _ rfl HB.out Tryd.underlying56 rfl (by kernel_rfl)) rfl ⟨rfl, (Fr.refl _ _).alloc _⟩

theorem clear_any (g : Nat) (v : Value) (p : PS) (w : World) (h : Pth w g v p) :
    Calls Tryd.prog 81 #[.pointer (some ⟨g, 0, none⟩)] w fun e w' => e = .returned (.tuple #[]) ∧ PthTo w g v { p with list := [], start := oo, now := oo } w' := by
  have hc := h.cells
  have c1 := hc.c1
  have c2 := hc.c2
  have c3 := hc.c3
  have c4 := hc.c4
  have c5 := hc.c5
  have f1 := h.1.free 1
  have f2 := h.1.free 2
  have f3 := h.1.free 3
  have f4 := h.1.free 4
  have f5 := h.1.free 5
  have HH := Lib.hid h
  clear h hc
  obtain ⟨p', hp'⟩ : ∃ p' : PS, p' = { p with list := [], start := oo, now := oo } := ⟨_, rfl⟩
  rw [← hp']
  replace hp' := Lib.hid hp'
  go_enter Tryd.func81, Tryd.ntmps81
  go_wp2
  go_end0
  refine ⟨rfl, .slice none 0 0, ?_, ((((((Fr.refl _ w).setCell (.inl (.inl rfl)) _).setCell (.inl (.inl rfl)) _).setCell (.inl (.inl rfl)) _).setCell (.inl (.inl rfl)) _).setCell (.inl (.inl rfl)) _), fun b hb => by simp [Value.ownBlock] at hb⟩
  rw [hp'.out]
  exact ⟨((((HH.out.1.set 1 _).set 2 _).set 3 _).set 4 _).set 5 _, OwnS.nil _ _ _⟩
theorem cur_any (g : Nat) (v : Value) (p : PS) (w : World) (h : Pth w g v p) :
    Calls Tryd.prog 120 #[.pointer (some ⟨g, 0, none⟩)] w fun e w' => e = .returned (.tuple #[ptV (if p.list.length = 0 then oo else p.now), .int .i64 (if p.list.length = 0 then 10 else 0)]) ∧ Fr Nob w w' := by
  have hf := (Fr.refl Nob w).alloc (.cells #[.int .i64 0, .int .i64 0] 56)
  have hc := (h.nob hf).cells
  have hgw : g ≠ w.heap.size := by have := h.1.lt; omega
  have c1 := hc.c1
  have c4 := hc.c4
  have c5 := hc.c5
  obtain ⟨A, cap, rfl, h1, h2⟩ := h.form
  unfold ptV oo
  by_cases h0 : p.list.length = 0
  · have hb := Blk.new w #[.int .i64 0, .int .i64 0] 56
    rw [if_pos h0, if_pos h0]
    rw [h0] at c1
    have HB := Lib.hid hb
    clear hb hf hc h h0 h1
    go_enter Tryd.func120, Tryd.ntmps120
    go_wp2
    exact bodyPost_ret (results_ct rfl _ _ _ 56 _ _ rfl HB.out Tryd.underlying56 rfl (by kernel_rfl)) rfl ⟨rfl, (Fr.refl _ _).alloc _⟩
  · have hb := Blk.new w #[.int .i64 p.now.x, .int .i64 p.now.y] 56
    rw [if_neg h0, if_neg h0]
    have HB := Lib.hid hb
    have i0 : ((p.list.length : Int) == 0) = false := beq_eq_false_iff_ne.2 (by omega)
    clear hb hf hc h
    go_enter Tryd.func120, Tryd.ntmps120
    go_wp2
    exact bodyPost_ret (results_ct rfl _ _ _ 56 _ _ rfl HB.out Tryd.underlying56 rfl (by kernel_rfl)) rfl ⟨rfl, (Fr.refl _ _).alloc _⟩

/-- A segment, and as values. -/
def closeS : Sg := ⟨4, oo, oo, oo⟩
def moveS (a : Pt) : Sg := ⟨1, a, oo, oo⟩
def lineS (a : Pt) : Sg := ⟨2, a, oo, oo⟩
theorem RowIn.sgs (w : World) (l : List Sg) (hl : l.length ≤ 2) : RowIn (w.alloc (.cells (encSs l).toArray 91)) (fun k => k = w.heap.size) 7 (.slice (some ⟨w.heap.size, 0, none⟩) l.length l.length) l.length (encSs l) := by
  have := RowIn.lit w 91 7 (encSs l).toArray l.length (by simp [encSs_len]) (by unfold maxLen; omega)
  simpa using this
def closeF (p : PS) : Int × PS := if lastK p.list = 0 ∨ lastK p.list = 4 then (0, p) else addF p p.start [closeS]
end Go.Proofs.YtkkejjfmidgciaaDoor
