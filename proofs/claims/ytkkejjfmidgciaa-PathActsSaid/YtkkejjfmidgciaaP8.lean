/-
  A path of one's own; the walks of answers, of the law PathNone.
-/
import Derived.Test.YtkkejjfmidgciaaP7
namespace Go.Proofs.Ytkkejjfmidgciaa
open Go.RowKit
set_option linter.unusedVariables false
set_option linter.unusedSimpArgs false
/-- A path of one's own: made since w0. -/
def LP (w0 w : World) (g : Nat) (p : PS) : Prop := ∃ v, Pth w g v p ∧ Fr Nob w0 w ∧ ∀ k, ptB g v k → w0.heap.size ≤ k
theorem LP.step {w0 w w' : World} {g : Nat} {q : PS} {v : Value} (h : Fr Nob w0 w) (hk : ∀ k, ptB g v k → w0.heap.size ≤ k) (ht : PthTo w g v q w') : LP w0 w' g q := by
  obtain ⟨v', hp, hf, hv⟩ := ht
  refine ⟨v', hp, h.trans hf fun k h => .inr (hk k h), ?_⟩
  rintro k (rfl | h2)
  · exact hk k (.inl rfl)
  · rcases hv k h2 with h3 | h3
    · exact hk k (.inr h3)
    · exact Nat.le_trans h.size h3
theorem LP.fr {w0 w : World} {g : Nat} {p : PS} (h : LP w0 w g p) : Fr Nob w0 w := by obtain ⟨_, _, hf, _⟩ := h; exact hf
theorem LP.nob {w0 w w' : World} {g : Nat} {p : PS} (h : LP w0 w g p) (hf : Fr Nob w w') : LP w0 w' g p := by
  obtain ⟨v, hp, h0, hk⟩ := h
  exact ⟨v, hp.nob hf, h0.trans0 hf, hk⟩
theorem new_l (w0 : World) (most : Int) (w : World) (h0 : Fr Nob w0 w) :
    Calls Try.prog 21 #[.int .i64 most] w fun e w' => e = .returned (.pointer (some ⟨w.heap.size, 0, none⟩)) ∧ LP w0 w' w.heap.size ⟨most, [], oo, oo⟩ := by
  refine (new_any most w).mono ?_
  rintro e w' ⟨rfl, hp, hf⟩
  refine ⟨rfl, _, hp, h0.trans0 hf, ?_⟩
  rintro k (rfl | hk)
  · exact h0.size
  · simp [Value.ownBlock] at hk
theorem move_l {w0 w : World} {g : Nat} {p : PS} (a : Pt) (h : LP w0 w g p) (hb : PB p) :
    Calls Try.prog 11 #[.pointer (some ⟨g, 0, none⟩), ptV a] w fun e w' => e = .returned (.int .i64 (moveF p a).1) ∧ LP w0 w' g (moveF p a).2 := by
  obtain ⟨v, hp, hf, hk⟩ := h
  refine (move_any g v p a w hp hb).mono ?_
  rintro e w' ⟨rfl, ht⟩
  exact ⟨rfl, LP.step hf hk ht⟩
theorem line_l {w0 w : World} {g : Nat} {p : PS} (a : Pt) (h : LP w0 w g p) (hb : PB p) :
    Calls Try.prog 12 #[.pointer (some ⟨g, 0, none⟩), ptV a] w fun e w' => e = .returned (.int .i64 (lineF p a).1) ∧ LP w0 w' g (lineF p a).2 := by
  obtain ⟨v, hp, hf, hk⟩ := h
  refine (line_any g v p a w hp hb).mono ?_
  rintro e w' ⟨rfl, ht⟩
  exact ⟨rfl, LP.step hf hk ht⟩
theorem close_l {w0 w : World} {g : Nat} {p : PS} (h : LP w0 w g p) (hb : PB p) :
    Calls Try.prog 14 #[.pointer (some ⟨g, 0, none⟩)] w fun e w' => e = .returned (.int .i64 (closeF p).1) ∧ LP w0 w' g (closeF p).2 := by
  obtain ⟨v, hp, hf, hk⟩ := h
  refine (close_any g v p w hp hb).mono ?_
  rintro e w' ⟨rfl, ht⟩
  exact ⟨rfl, LP.step hf hk ht⟩
theorem seg_l {w0 w : World} {g : Nat} {p : PS} (h : LP w0 w g p) (hb : PB p) :
    Calls Try.prog 15 #[.pointer (some ⟨g, 0, none⟩)] w fun e w' => ∃ vo, e = .returned vo ∧ OwnS w' 43 7 vo p.list.length (encSs p.list) ∧ LP w0 w' g p ∧ NewV w vo ∧ Fr Nob w w' := by
  obtain ⟨v, hp, hf, hk⟩ := h
  refine (seg_any g v p w hp hb).mono ?_
  rintro e w' ⟨vo, rfl, ho, hf2, hn⟩
  exact ⟨vo, rfl, ho, ⟨v, hp.nob hf2, hf.trans0 hf2, hk⟩, hn, hf2⟩

deriving instance DecidableEq for PS
def p1 : PS := ⟨5, [⟨1, ⟨1, 0⟩, oo, oo⟩], ⟨1, 0⟩, ⟨1, 0⟩⟩
theorem p1_eq : moveF ⟨5, [], oo, oo⟩ ⟨1, 0⟩ = (0, p1) := by decide +kernel
theorem p2_eq : (lineF p1 ⟨0, 1⟩).1 = 0 := by decide +kernel
theorem answers_any (w : World) : Calls Try.prog 10 #[] w fun e w' => e = .returned (.bool true) ∧ Fr Nob w w' := by
  go_enter Try.func10, Try.ntmps10
  go_wp2_with fail
  refine (new_l w 5 w (Fr.refl _ _)).mono ?_
  rintro e w1 ⟨rfl, h1⟩
  have H1 := Lib.hid h1
  clear h1
  go_wp2_with fail
  refine (move_l ⟨1, 0⟩ H1.out ⟨by decide, by decide, by decide⟩).mono ?_
  rw [p1_eq]
  rintro e w2 ⟨rfl, h2⟩
  have H2 := Lib.hid h2
  clear h2
  go_wp2_with fail
  refine (seg_l H2.out ⟨by decide, by decide, by decide⟩).mono ?_
  rintro e w3 ⟨vo, rfl, ho, h3, _, _⟩
  obtain ⟨A, cap, hv, _, _⟩ := ho.form
  obtain rfl : vo = .slice A 1 cap := hv
  have H3 := Lib.hid h3
  clear h3 ho
  go_wp2_with fail
  refine (line_l ⟨0, 1⟩ H3.out ⟨by decide, by decide, by decide⟩).mono ?_
  rw [p2_eq]
  rintro e w4 ⟨rfl, h4⟩
  have H4 := Lib.hid h4.fr
  clear h4
  go_wp2_with fail
  go_ret
  exact ⟨rfl, H4.out⟩

theorem none_walk (a : Pt) (w : World) : Calls Try.prog 3 #[ptV a] w fun e w' => e = .returned (.bool true) ∧ Fr Nob w w' := by
  unfold ptV
  obtain ⟨ws, hws⟩ : ∃ ws, w.alloc (.cells #[.int .i64 a.x, .int .i64 a.y] 23) = ws := ⟨_, rfl⟩
  have b1 : Blk ws w.heap.size (encP a).toArray 23 := by rw [← hws]; exact Blk.new w _ _
  have hf : Fr Nob w ws := by rw [← hws]; exact (Fr.refl Nob w).alloc _
  have B1 := Lib.hid b1
  have HF := Lib.hid hf
  have HW := Lib.hid hws
  clear b1 hf hws
  go_enter Try.func3, Try.ntmps3
  go_wp2_with fail
  rw [HW.out]
  refine (cur_none ws).mono ?_
  unfold ptV oo
  rintro e w1 ⟨rfl, h1⟩
  have H1 := Lib.hid h1
  clear h1
  go_wp2_with fail
  obtain ⟨w2, hw2⟩ : ∃ w2, w1.alloc (.cells #[.int .i64 0, .int .i64 0] 23) = w2 := ⟨_, rfl⟩
  rw [hw2]
  have hf2 : Fr Nob w1 w2 := by rw [← hw2]; exact (Fr.refl Nob w1).alloc _
  have H2 := Lib.hid (H1.out.trans0 hf2)
  clear hf2 hw2
  refine (clear_none w2).mono ?_
  rintro e w3 ⟨rfl, rfl⟩
  go_wp2_with fail
  refine (answers_any w2).mono ?_
  rintro e w3 ⟨rfl, h3⟩
  have H3 := Lib.hid (H2.out.trans0 h3)
  have b3 := (B1.out.fr H3.out fun hh => hh)
  have c0 := b3.cell 0
  have c1 := b3.cell 1
  simp only [List.getElem?_toArray, encP, List.getElem?_cons_succ, List.getElem?_cons_zero] at c0 c1
  clear h3 b3
  go_wp2_with fail
  refine (move_none a w3).mono ?_
  rintro e w4 ⟨rfl, h4⟩
  have d0 := cell_nob c0 h4
  have d1 := cell_nob c1 h4
  have H4 := Lib.hid (H3.out.trans0 h4)
  clear h4 c0 c1
  go_wp2_with fail
  refine (line_none a w4).mono ?_
  rintro e w5 ⟨rfl, h5⟩
  have c0 := cell_nob d0 h5
  have c1 := cell_nob d1 h5
  have H5 := Lib.hid (H4.out.trans0 h5)
  clear h5 d0 d1
  go_wp2_with fail
  refine (curve_none a a a w5).mono ?_
  rintro e w6 ⟨rfl, h6⟩
  have H6 := Lib.hid (H5.out.trans0 h6)
  clear h6 c0 c1
  go_wp2_with fail
  refine (close_none w6).mono ?_
  rintro e w7 ⟨rfl, rfl⟩
  go_wp2_with fail
  refine (seg_none w6).mono ?_
  rintro e w7 ⟨rfl, rfl⟩
  go_wp2_with fail
  refine (copy_none w6).mono ?_
  rintro e w7 ⟨rfl, rfl⟩
  go_wp2_with fail
  go_ret
  exact ⟨rfl, HF.out.trans0 H6.out⟩
end Go.Proofs.Ytkkejjfmidgciaa
