/-
  The walks of Now, Depth, Path, copied.
-/
import Derived.Test.YtkkejjfmidgciaaDoorG3
import Derived.Test.YtkkejjfmidgciaaDoorC1
namespace Go.Proofs.YtkkejjfmidgciaaDoor
open Go.RowKit
set_option linter.unusedVariables false
set_option linter.unusedSimpArgs false
/-- The cells of the states' block. -/
theorem GsX.cells {w : World} {g : Nat} {F : Nat → Prop} {s : GS} {lab : Nat → Nat} {x : LvG} {sv : Value} {xs : List (Lv × LvG)} (h : GsX w g F s lab x sv xs) :
    Blk w g #[.int .i64 s.cur.st.ctm.a, .int .i64 s.cur.st.ctm.b, .int .i64 s.cur.st.ctm.c, .int .i64 s.cur.st.ctm.d, .int .i64 s.cur.st.ctm.e, .int .i64 s.cur.st.ctm.f, .int .i64 s.cur.st.col.sp, .int .i64 s.cur.st.col.p0, .int .i64 s.cur.st.col.p1, .int .i64 s.cur.st.col.p2, .int .i64 s.cur.st.col.p3, .int .i64 s.cur.st.width, .int .i64 s.cur.st.cap, .int .i64 s.cur.st.join, .int .i64 s.cur.st.miter, x.dv, .int .i64 s.cur.st.phase, .int .i64 s.cur.st.font, .int .i64 s.cur.st.fm.a, .int .i64 s.cur.st.fm.b, .int .i64 s.cur.st.fm.c, .int .i64 s.cur.st.fm.d, .int .i64 s.cur.st.fm.e, .int .i64 s.cur.st.fm.f, x.cv, .bool s.cur.st.dark, .pointer (some ⟨x.pg, 0, none⟩), .int .i64 s.most, .int .i64 s.segs, sv] 124 := h.b
/-- The bounds under which states are walked. -/
structure SmallS (s : GS) : Prop where
  c : SmallG s.cur.st
  p : PB s.cur.p
  v : ∀ l ∈ s.saved, SmallG l.st ∧ PB l.p
  n : s.saved.length ≤ 1000
  m : -9223372036854775808 ≤ s.most ∧ s.most ≤ 9223372036854775807
theorem gdepth_any (g : Nat) (F : Nat → Prop) (s : GS) (w : World) (h : Gs w g F s) : Calls Tryd.prog 35 #[.pointer (some ⟨g, 0, none⟩)] w fun e w' => e = .returned (.int .i64 s.saved.length) ∧ w = w' := by
  obtain ⟨lab, x, sv, xs, h⟩ := h
  have c29 : w.cell? ⟨g, 29, none⟩ = some sv := h.cells.cell 29
  obtain ⟨A, cap, rfl, _, _⟩ := h.o.form
  have hn : xs.length = s.saved.length := by rw [← h.l, List.length_map]
  rw [hn] at c29
  clear h hn
  go_enter Tryd.func35, Tryd.ntmps35
  go_wp2
  go_ret
  exact ⟨rfl, rfl⟩
theorem gdepth_none (w : World) : Calls Tryd.prog 35 #[.pointer none] w fun e w' => e = .returned (.int .i64 0) ∧ w = w' := by
  go_enter Tryd.func35, Tryd.ntmps35
  go_wp2
  go_ret
  exact ⟨rfl, rfl⟩
theorem gpath_none (w : World) : Calls Tryd.prog 33 #[.pointer none] w fun e w' => e = .returned (.pointer none) ∧ w = w' := by
  go_enter Tryd.func33, Tryd.ntmps33
  go_wp2
  go_ret
  exact ⟨rfl, rfl⟩
theorem gpath_any (g : Nat) (F : Nat → Prop) (s : GS) (w : World) (lab : Nat → Nat) (x : LvG) (sv : Value) (xs : List (Lv × LvG)) (h : GsX w g F s lab x sv xs) :
    Calls Tryd.prog 33 #[.pointer (some ⟨g, 0, none⟩)] w fun e w' => e = .returned (.pointer (some ⟨x.pg, 0, none⟩)) ∧ w = w' := by
  have c26 : w.cell? ⟨g, 26, none⟩ = some (.pointer (some ⟨x.pg, 0, none⟩)) := h.cells.cell 26
  clear h
  go_enter Tryd.func33, Tryd.ntmps33
  go_wp2
  go_ret
  exact ⟨rfl, rfl⟩
theorem gnow_any (g : Nat) (F : Nat → Prop) (s : GS) (w : World) (h : Gs w g F s) (hb : SmallG s.cur.st) :
    Calls Tryd.prog 32 #[.pointer (some ⟨g, 0, none⟩)] w fun e w' => ∃ dv cv, e = .returned (gV s.cur.st dv cv) ∧ GIn w' (Bt w w') dv cv s.cur.st ∧ Fr Nob w w' := by
  obtain ⟨lab, x, sv, xs, h⟩ := h
  have hf0 : Fr Nob w (w.alloc (.cells #[.int .i64 0, .int .i64 0, .int .i64 0, .int .i64 0, .int .i64 0, .int .i64 0, .int .i64 0, .int .i64 0, .int .i64 0, .int .i64 0, .int .i64 0, .int .i64 0, .int .i64 0, .int .i64 0, .int .i64 0, .slice none 0 0, .int .i64 0, .int .i64 0, .int .i64 0, .int .i64 0, .int .i64 0, .int .i64 0, .int .i64 0, .int .i64 0, .slice none 0 0, .bool false] 79)) := (Fr.refl Nob w).alloc _
  have HZ := Lib.hid (show Blk (w.alloc (.cells #[.int .i64 0, .int .i64 0, .int .i64 0, .int .i64 0, .int .i64 0, .int .i64 0, .int .i64 0, .int .i64 0, .int .i64 0, .int .i64 0, .int .i64 0, .int .i64 0, .int .i64 0, .int .i64 0, .int .i64 0, .slice none 0 0, .int .i64 0, .int .i64 0, .int .i64 0, .int .i64 0, .int .i64 0, .int .i64 0, .int .i64 0, .int .i64 0, .slice none 0 0, .bool false] 79)) w.heap.size (encG gZero nilV nilV).toArray 79 from Blk.new w _ _)
  have HC := Lib.hid (h.cells.nob hf0)
  have HG := Lib.hid (h.c.g.nob hf0)
  have HF := Lib.hid hf0
  have HB := Lib.hid hb
  clear h hf0 hb
  go_enter Tryd.func32, Tryd.ntmps32
  go_wp2_with (refine wpList_getAt rfl 79 (.tmp 9) rfl g 0 (by rfl) (encG s.cur.st x.dv x.cv) _ (HC.out.range 0 _ (by rfl)) Tryd.underlying79 rfl sizeG ?_)
  generalize w.alloc (.cells #[.int .i64 0, .int .i64 0, .int .i64 0, .int .i64 0, .int .i64 0, .int .i64 0, .int .i64 0, .int .i64 0, .int .i64 0, .int .i64 0, .int .i64 0, .int .i64 0, .int .i64 0, .int .i64 0, .int .i64 0, .slice none 0 0, .int .i64 0, .int .i64 0, .int .i64 0, .int .i64 0, .int .i64 0, .int .i64 0, .int .i64 0, .int .i64 0, .slice none 0 0, .bool false] 79) = wa at *
  refine (own_any s.cur.st x.dv x.cv _ wa HG.out HB.out).mono ?_
  rintro e w1 ⟨dv, cv, rfl, hg, hf1⟩
  have HG1 := Lib.hid hg
  have HF1 := Lib.hid hf1
  have HZ1 := Lib.hid (HZ.out.nob hf1)
  obtain ⟨Ad, cd, hdv, _⟩ := hg.d.form
  obtain ⟨Ac, cc, hcv, _⟩ := hg.c.form
  have HONE := Lib.hid (encG_one s.cur.st dv cv ⟨_, _, _, hdv⟩ ⟨_, _, _, hcv⟩)
  clear hg hf1 hdv hcv
  unfold gV
  go_wp2_with (refine wpList_putAt rfl 79 (.tmp 2) (.tmp 11) rfl w.heap.size 0 (encG s.cur.st dv cv) (by rfl) (by rfl) 79 _ HZ1.out (Nat.le_refl 26) sizeG HONE.out ?_)
  intro w3 hb3 hf3
  rw [over_all (encG gZero nilV nilV).toArray (encG s.cur.st dv cv) rfl] at hb3
  have HB3 := Lib.hid hb3
  have H3 := Lib.hid hf3
  clear hb3 hf3
  go_wp2_with fail
  have z1 := HF.out.size
  have z2 := HZ.out.lt
  have z3 := H3.out.size
  refine bodyPost_ret (results_cl rfl _ _ _ 79 _ _ rfl HB3.out Tryd.underlying79 rfl sizeG) rfl ⟨dv, cv, rfl, ?_, ?_⟩
  · refine (HG1.out.fr H3.out fun k hk e => ?_).mono fun k hk => ⟨?_, ?_⟩
    · have := hk.1; subst e; omega
    · exact Nat.le_trans z1 hk.1
    · exact Nat.lt_of_lt_of_le hk.2 z3
  · exact (HF.out.trans0 HF1.out).trans H3.out fun k hk => .inr (by rw [hk]; exact Nat.le_refl _)
end Go.Proofs.YtkkejjfmidgciaaDoor
