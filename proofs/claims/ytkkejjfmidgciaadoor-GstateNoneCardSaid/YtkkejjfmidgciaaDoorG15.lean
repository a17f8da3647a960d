/-
  The walk of call (chapter 14) with no states.
-/
import Derived.Test.YtkkejjfmidgciaaDoorG14
namespace Go.Proofs.YtkkejjfmidgciaaDoor
open Go.RowKit
set_option linter.unusedVariables false
set_option linter.unusedSimpArgs false
def noneE (d : Int) : Int := if 1 ≤ d ∧ d ≤ 14 ∧ ¬ (2 ≤ d ∧ d ≤ 4) then 21 else 0
def actV (d n : Int) (m : M6) (v : Value) (px py : Int) : Value := .agg #[.int .i64 d, .int .i64 n, .int .i64 m.a, .int .i64 m.b, .int .i64 m.c, .int .i64 m.d, .int .i64 m.e, .int .i64 m.f, v, .int .i64 px, .int .i64 py]
theorem calln_1 (n : Int) (m : M6) (v : Value) (l : List Int) (px py : Int) (S : Nat → Prop) (w : World) (h : RowIn w S 1 v l.length (ints l)) (hl : l.length ≤ 100) : Calls Tryd.prog 31 #[.pointer none, actV 1 n m v px py] w fun e w' => e = .returned (.int .i64 (noneE 1)) ∧ Fr Nob w w' := by
  obtain ⟨A, c, rfl, _⟩ := h.form
  have hf : Fr Nob w (w.alloc (.cells #[.int .i64 1, .int .i64 n, .int .i64 m.a, .int .i64 m.b, .int .i64 m.c, .int .i64 m.d, .int .i64 m.e, .int .i64 m.f, .slice A l.length c, .int .i64 px, .int .i64 py] 76)) := (Fr.refl Nob w).alloc _
  have HF := Lib.hid hf
  have HR := Lib.hid (h.nob hf)
  have HB := Lib.hid (Blk.new w #[.int .i64 1, .int .i64 n, .int .i64 m.a, .int .i64 m.b, .int .i64 m.c, .int .i64 m.d, .int .i64 m.e, .int .i64 m.f, .slice A l.length c, .int .i64 px, .int .i64 py] 76)
  clear h hf
  rw [show noneE 1 = 21 by decide]
  unfold actV
  go_enter Tryd.func31, Tryd.ntmps31
  go_wp2_with fail
  refine (gsave_none _).mono ?_
  rintro e w1 ⟨rfl, rfl⟩
  go_wp2_with fail
  go_ret
  exact ⟨rfl, HF.out⟩
theorem calln_2 (n : Int) (m : M6) (v : Value) (l : List Int) (px py : Int) (S : Nat → Prop) (w : World) (h : RowIn w S 1 v l.length (ints l)) (hl : l.length ≤ 100) : Calls Tryd.prog 31 #[.pointer none, actV 2 n m v px py] w fun e w' => e = .returned (.int .i64 (noneE 2)) ∧ Fr Nob w w' := by
  obtain ⟨A, c, rfl, _⟩ := h.form
  have hf : Fr Nob w (w.alloc (.cells #[.int .i64 2, .int .i64 n, .int .i64 m.a, .int .i64 m.b, .int .i64 m.c, .int .i64 m.d, .int .i64 m.e, .int .i64 m.f, .slice A l.length c, .int .i64 px, .int .i64 py] 76)) := (Fr.refl Nob w).alloc _
  have HF := Lib.hid hf
  have HR := Lib.hid (h.nob hf)
  have HB := Lib.hid (Blk.new w #[.int .i64 2, .int .i64 n, .int .i64 m.a, .int .i64 m.b, .int .i64 m.c, .int .i64 m.d, .int .i64 m.e, .int .i64 m.f, .slice A l.length c, .int .i64 px, .int .i64 py] 76)
  clear h hf
  rw [show noneE 2 = 0 by decide]
  unfold actV
  go_enter Tryd.func31, Tryd.ntmps31
  go_wp2_with fail
  refine (grestore_none _).mono ?_
  rintro e w1 ⟨rfl, rfl⟩
  go_wp2_with fail
  go_ret
  exact ⟨rfl, HF.out⟩
theorem calln_3 (n : Int) (m : M6) (v : Value) (l : List Int) (px py : Int) (S : Nat → Prop) (w : World) (h : RowIn w S 1 v l.length (ints l)) (hl : l.length ≤ 100) : Calls Tryd.prog 31 #[.pointer none, actV 3 n m v px py] w fun e w' => e = .returned (.int .i64 (noneE 3)) ∧ Fr Nob w w' := by
  obtain ⟨A, c, rfl, _⟩ := h.form
  have hf : Fr Nob w (w.alloc (.cells #[.int .i64 3, .int .i64 n, .int .i64 m.a, .int .i64 m.b, .int .i64 m.c, .int .i64 m.d, .int .i64 m.e, .int .i64 m.f, .slice A l.length c, .int .i64 px, .int .i64 py] 76)) := (Fr.refl Nob w).alloc _
  have HF := Lib.hid hf
  have HR := Lib.hid (h.nob hf)
  have HB := Lib.hid (Blk.new w #[.int .i64 3, .int .i64 n, .int .i64 m.a, .int .i64 m.b, .int .i64 m.c, .int .i64 m.d, .int .i64 m.e, .int .i64 m.f, .slice A l.length c, .int .i64 px, .int .i64 py] 76)
  clear h hf
  rw [show noneE 3 = 0 by decide]
  unfold actV
  go_enter Tryd.func31, Tryd.ntmps31
  go_wp2_with fail
  refine (grestall_none _).mono ?_
  rintro e w1 ⟨rfl, rfl⟩
  go_wp2_with fail
  go_ret
  exact ⟨rfl, HF.out⟩
theorem calln_4 (n : Int) (m : M6) (v : Value) (l : List Int) (px py : Int) (S : Nat → Prop) (w : World) (h : RowIn w S 1 v l.length (ints l)) (hl : l.length ≤ 100) : Calls Tryd.prog 31 #[.pointer none, actV 4 n m v px py] w fun e w' => e = .returned (.int .i64 (noneE 4)) ∧ Fr Nob w w' := by
  obtain ⟨A, c, rfl, _⟩ := h.form
  have hf : Fr Nob w (w.alloc (.cells #[.int .i64 4, .int .i64 n, .int .i64 m.a, .int .i64 m.b, .int .i64 m.c, .int .i64 m.d, .int .i64 m.e, .int .i64 m.f, .slice A l.length c, .int .i64 px, .int .i64 py] 76)) := (Fr.refl Nob w).alloc _
  have HF := Lib.hid hf
  have HR := Lib.hid (h.nob hf)
  have HB := Lib.hid (Blk.new w #[.int .i64 4, .int .i64 n, .int .i64 m.a, .int .i64 m.b, .int .i64 m.c, .int .i64 m.d, .int .i64 m.e, .int .i64 m.f, .slice A l.length c, .int .i64 px, .int .i64 py] 76)
  clear h hf
  rw [show noneE 4 = 0 by decide]
  unfold actV
  go_enter Tryd.func31, Tryd.ntmps31
  go_wp2_with fail
  refine (ginit_none _).mono ?_
  rintro e w1 ⟨rfl, rfl⟩
  go_wp2_with fail
  go_ret
  exact ⟨rfl, HF.out⟩
theorem calln_5 (n : Int) (m : M6) (v : Value) (l : List Int) (px py : Int) (S : Nat → Prop) (w : World) (h : RowIn w S 1 v l.length (ints l)) (hl : l.length ≤ 100) : Calls Tryd.prog 31 #[.pointer none, actV 5 n m v px py] w fun e w' => e = .returned (.int .i64 (noneE 5)) ∧ Fr Nob w w' := by
  obtain ⟨A, c, rfl, _⟩ := h.form
  have hf : Fr Nob w (w.alloc (.cells #[.int .i64 5, .int .i64 n, .int .i64 m.a, .int .i64 m.b, .int .i64 m.c, .int .i64 m.d, .int .i64 m.e, .int .i64 m.f, .slice A l.length c, .int .i64 px, .int .i64 py] 76)) := (Fr.refl Nob w).alloc _
  have HF := Lib.hid hf
  have HR := Lib.hid (h.nob hf)
  have HB := Lib.hid (Blk.new w #[.int .i64 5, .int .i64 n, .int .i64 m.a, .int .i64 m.b, .int .i64 m.c, .int .i64 m.d, .int .i64 m.e, .int .i64 m.f, .slice A l.length c, .int .i64 px, .int .i64 py] 76)
  clear h hf
  rw [show noneE 5 = 21 by decide]
  unfold actV
  go_enter Tryd.func31, Tryd.ntmps31
  go_wp2_with fail
  refine (gconcat_none m _).mono ?_
  rintro e w1 ⟨rfl, h1⟩
  have HF1 := Lib.hid (HF.out.trans0 h1)
  clear h1
  go_wp2_with fail
  go_ret
  exact ⟨rfl, HF1.out⟩
theorem calln_6 (n : Int) (m : M6) (v : Value) (l : List Int) (px py : Int) (S : Nat → Prop) (w : World) (h : RowIn w S 1 v l.length (ints l)) (hl : l.length ≤ 100) : Calls Tryd.prog 31 #[.pointer none, actV 6 n m v px py] w fun e w' => e = .returned (.int .i64 (noneE 6)) ∧ Fr Nob w w' := by
  obtain ⟨A, c, rfl, _⟩ := h.form
  have hf : Fr Nob w (w.alloc (.cells #[.int .i64 6, .int .i64 n, .int .i64 m.a, .int .i64 m.b, .int .i64 m.c, .int .i64 m.d, .int .i64 m.e, .int .i64 m.f, .slice A l.length c, .int .i64 px, .int .i64 py] 76)) := (Fr.refl Nob w).alloc _
  have HF := Lib.hid hf
  have HR := Lib.hid (h.nob hf)
  have HB := Lib.hid (Blk.new w #[.int .i64 6, .int .i64 n, .int .i64 m.a, .int .i64 m.b, .int .i64 m.c, .int .i64 m.d, .int .i64 m.e, .int .i64 m.f, .slice A l.length c, .int .i64 px, .int .i64 py] 76)
  clear h hf
  rw [show noneE 6 = 21 by decide]
  unfold actV
  go_enter Tryd.func31, Tryd.ntmps31
  go_wp2_with fail
  refine (gmatrix_none m _).mono ?_
  rintro e w1 ⟨rfl, h1⟩
  have HF1 := Lib.hid (HF.out.trans0 h1)
  clear h1
  go_wp2_with fail
  go_ret
  exact ⟨rfl, HF1.out⟩
theorem calln_7 (n : Int) (m : M6) (v : Value) (l : List Int) (px py : Int) (S : Nat → Prop) (w : World) (h : RowIn w S 1 v l.length (ints l)) (hl : l.length ≤ 100) : Calls Tryd.prog 31 #[.pointer none, actV 7 n m v px py] w fun e w' => e = .returned (.int .i64 (noneE 7)) ∧ Fr Nob w w' := by
  obtain ⟨A, c, rfl, _⟩ := h.form
  have hf : Fr Nob w (w.alloc (.cells #[.int .i64 7, .int .i64 n, .int .i64 m.a, .int .i64 m.b, .int .i64 m.c, .int .i64 m.d, .int .i64 m.e, .int .i64 m.f, .slice A l.length c, .int .i64 px, .int .i64 py] 76)) := (Fr.refl Nob w).alloc _
  have HF := Lib.hid hf
  have HR := Lib.hid (h.nob hf)
  have HB := Lib.hid (Blk.new w #[.int .i64 7, .int .i64 n, .int .i64 m.a, .int .i64 m.b, .int .i64 m.c, .int .i64 m.d, .int .i64 m.e, .int .i64 m.f, .slice A l.length c, .int .i64 px, .int .i64 py] 76)
  clear h hf
  rw [show noneE 7 = 21 by decide]
  unfold actV
  go_enter Tryd.func31, Tryd.ntmps31
  go_wp2_with fail
  refine (gfont_none n m _).mono ?_
  rintro e w1 ⟨rfl, h1⟩
  have HF1 := Lib.hid (HF.out.trans0 h1)
  clear h1
  go_wp2_with fail
  go_ret
  exact ⟨rfl, HF1.out⟩
theorem calln_8 (n : Int) (m : M6) (v : Value) (l : List Int) (px py : Int) (S : Nat → Prop) (w : World) (h : RowIn w S 1 v l.length (ints l)) (hl : l.length ≤ 100) : Calls Tryd.prog 31 #[.pointer none, actV 8 n m v px py] w fun e w' => e = .returned (.int .i64 (noneE 8)) ∧ Fr Nob w w' := by
  obtain ⟨A, c, rfl, _⟩ := h.form
  have hf : Fr Nob w (w.alloc (.cells #[.int .i64 8, .int .i64 n, .int .i64 m.a, .int .i64 m.b, .int .i64 m.c, .int .i64 m.d, .int .i64 m.e, .int .i64 m.f, .slice A l.length c, .int .i64 px, .int .i64 py] 76)) := (Fr.refl Nob w).alloc _
  have HF := Lib.hid hf
  have HR := Lib.hid (h.nob hf)
  have HB := Lib.hid (Blk.new w #[.int .i64 8, .int .i64 n, .int .i64 m.a, .int .i64 m.b, .int .i64 m.c, .int .i64 m.d, .int .i64 m.e, .int .i64 m.f, .slice A l.length c, .int .i64 px, .int .i64 py] 76)
  clear h hf
  rw [show noneE 8 = 21 by decide]
  unfold actV
  go_enter Tryd.func31, Tryd.ntmps31
  go_upto_region 17 with (fail)
  generalize w.alloc (.cells #[.int .i64 8, .int .i64 n, .int .i64 m.a, .int .i64 m.b, .int .i64 m.c, .int .i64 m.d, .int .i64 m.e, .int .i64 m.f, .slice A l.length c, .int .i64 px, .int .i64 py] 76) = wa at *
  obtain ⟨i0, hi, hz0, hz1, hz2⟩ := info_parts infoInt
  have c8 : wa.cell? ⟨w.heap.size, 8, none⟩ = some (.slice A l.length c) := HB.out.cell 8
  have HE := Lib.hid (show OwnS (wa.alloc (.cells #[] 3)) 3 1 (.slice (some ⟨wa.heap.size, 0, none⟩) 0 0) 0 [] from OwnS.empty (Blk.new wa _ _))
  have HR2 := Lib.hid (HR.out.nob ((Fr.refl Nob wa).alloc (.cells #[] 3)))
  have hlt : w.heap.size < wa.heap.size := HB.out.lt
  go_wp2_with (at_builtin; refine wpList_app _ rfl _ _ 30 rfl 3 i0 _ 1 8 Tryd.underlying30 hi hz0 hz1 hz2 rfl (by decide) _ 0 [] rfl HE.out S _ l.length (ints l) rfl HR2.out (ints_one l) (by unfold maxLen; omega) (by omega) ?_)
  intro v' w1 hown hfr hat _
  have HF1 := Lib.hid (HF.out.trans (((Fr.refl Nob wa).alloc (.cells #[] 3)).trans hfr fun k hk => .inr (by simp [inB, Value.ownBlock] at hk; omega)) fun k hk => hk.elim)
  obtain ⟨A1, c1, rfl, _⟩ := hown.form
  clear hown hfr hat
  go_wp2_with fail
  refine (gcolor_none _ _ _ _).mono ?_
  rintro e w2 ⟨rfl, rfl⟩
  go_wp2_with fail
  go_ret
  exact ⟨rfl, HF1.out⟩
theorem calln_9 (n : Int) (m : M6) (v : Value) (l : List Int) (px py : Int) (S : Nat → Prop) (w : World) (h : RowIn w S 1 v l.length (ints l)) (hl : l.length ≤ 100) : Calls Tryd.prog 31 #[.pointer none, actV 9 n m v px py] w fun e w' => e = .returned (.int .i64 (noneE 9)) ∧ Fr Nob w w' := by
  obtain ⟨A, c, rfl, _⟩ := h.form
  have hf : Fr Nob w (w.alloc (.cells #[.int .i64 9, .int .i64 n, .int .i64 m.a, .int .i64 m.b, .int .i64 m.c, .int .i64 m.d, .int .i64 m.e, .int .i64 m.f, .slice A l.length c, .int .i64 px, .int .i64 py] 76)) := (Fr.refl Nob w).alloc _
  have HF := Lib.hid hf
  have HR := Lib.hid (h.nob hf)
  have HB := Lib.hid (Blk.new w #[.int .i64 9, .int .i64 n, .int .i64 m.a, .int .i64 m.b, .int .i64 m.c, .int .i64 m.d, .int .i64 m.e, .int .i64 m.f, .slice A l.length c, .int .i64 px, .int .i64 py] 76)
  clear h hf
  rw [show noneE 9 = 21 by decide]
  unfold actV
  go_enter Tryd.func31, Tryd.ntmps31
  go_upto_region 19 with (fail)
  generalize w.alloc (.cells #[.int .i64 9, .int .i64 n, .int .i64 m.a, .int .i64 m.b, .int .i64 m.c, .int .i64 m.d, .int .i64 m.e, .int .i64 m.f, .slice A l.length c, .int .i64 px, .int .i64 py] 76) = wa at *
  obtain ⟨i0, hi, hz0, hz1, hz2⟩ := info_parts infoInt
  replace hi := Lib.hid hi
  replace hz0 := Lib.hid hz0
  replace hz1 := Lib.hid hz1
  replace hz2 := Lib.hid hz2
  have HS := Lib.hid (show ∀ w', Fr Nob wa w' → (fun w' => w'.cell? ⟨w.heap.size, 1, none⟩ = some (.int .i64 n) ∧ w'.cell? ⟨w.heap.size, 8, none⟩ = some (.slice A l.length c)) w' from fun w' hw' => by
    have hb := HB.out.nob hw'
    exact ⟨hb.cell 1, hb.cell 8⟩)
  have HE := Lib.hid (show OwnS (wa.drew.alloc (.cells #[] 3)) 3 1 (.slice (some ⟨wa.heap.size, 0, none⟩) 0 0) 0 [] from OwnS.empty (Blk.new wa.drew _ _))
  have HR2 := Lib.hid (HR.out.nob ((Fr.refl Nob wa).drew.alloc (.cells #[] 3)))
  go_wp2_with fail
  refine wp_region_last' (ops := _) (o := _) (l := _) 8 rfl rfl rfl (fun w' => w'.cell? ⟨w.heap.size, 1, none⟩ = some (.int .i64 n) ∧ w'.cell? ⟨w.heap.size, 8, none⟩ = some (.slice A l.length c)) (by kernel_rfl) (by kernel_rfl) (HS.out _ (Fr.refl Nob wa).drew) fun hH => ?_
  simp only [List.take_succ_cons, List.take_zero]
  refine wpAnyH_take (i := 0) (v := ?va1) rfl (by kernel_rfl) (by kernel_rfl) (by kernel_rfl) (fun _ _ _ h => h) (Or.inl ⟨by rfl, ?ha1⟩) hH ?ra1
  case ha1 => (intro w hSw; (try dsimp only at hSw); clear hSw; go_simp; (try with_reducible rfl))
  simp only [Act.put, List.getElem_toArray, List.getElem_cons_succ, List.getElem_cons_zero, List.setIfInBounds_toArray, List.set_cons_zero, List.set_cons_succ]
  refine wpAnyH_take (i := 2) (v := ?va2) rfl (by kernel_rfl) (by kernel_rfl) (by kernel_rfl) (fun _ _ _ h => h) (Or.inl ⟨by rfl, ?ha2⟩) hH ?ra2
  case ha2 => (intro w hSw; (try dsimp only at hSw); clear hSw; go_simp; (try with_reducible rfl))
  simp only [Act.put, List.getElem_toArray, List.getElem_cons_succ, List.getElem_cons_zero, List.setIfInBounds_toArray, List.set_cons_zero, List.set_cons_succ]
  refine wpAnyH_take (i := 3) (v := ?va3) rfl (by kernel_rfl) (by kernel_rfl) (by kernel_rfl) (fun _ _ _ h => h) (Or.inl ⟨by rfl, ?ha3⟩) hH ?ra3
  case ha3 => (intro w hSw; (try dsimp only at hSw); obtain ⟨_, hSw⟩ := hSw; go_simp; (try with_reducible rfl))
  simp only [Act.put, List.getElem_toArray, List.getElem_cons_succ, List.getElem_cons_zero, List.setIfInBounds_toArray, List.set_cons_zero, List.set_cons_succ]
  refine wpAnyH_take (i := 5) (v := ?va4) rfl (by kernel_rfl) (by kernel_rfl) (by kernel_rfl) (fun _ _ _ h => h) (Or.inl ⟨by rfl, ?ha4⟩) hH ?ra4
  case ha4 => (intro w hSw; (try dsimp only at hSw); clear hSw; go_simp; (try with_reducible rfl))
  simp only [Act.put, List.getElem_toArray, List.getElem_cons_succ, List.getElem_cons_zero, List.setIfInBounds_toArray, List.set_cons_zero, List.set_cons_succ]
  refine wpAnyH_take (i := 6) (v := ?va5) rfl (by kernel_rfl) (by kernel_rfl) (by kernel_rfl) (fun _ _ _ h => h) (Or.inl ⟨by rfl, ?ha5⟩) hH ?ra5
  case ha5 => (intro w hSw; (try dsimp only at hSw); obtain ⟨hSw, _⟩ := hSw; go_simp; (try with_reducible rfl))
  simp only [Act.put, List.getElem_toArray, List.getElem_cons_succ, List.getElem_cons_zero, List.setIfInBounds_toArray, List.set_cons_zero, List.set_cons_succ]
  refine held_one 1 rfl (by kernel_rfl) rfl fun K hK => ?_
  replace hK := Lib.hid hK
  clear hH
  go_simp
  have hH := HS.out (wa.drew.alloc (.cells #[] 3)) ((Fr.refl Nob wa).drew.alloc _)
  refine hK.out _ _ hH ?_
  clear hK K
  refine held_one 4 rfl (by kernel_rfl) rfl fun K hK => ?_
  replace hK := Lib.hid hK
  clear hH
  refine wp_app (.tmp 54) (.tmp 56) 30 rfl 3 i0 _ 1 8 Tryd.underlying30 hi.out hz0.out hz1.out hz2.out rfl (by decide) _ 0 [] (by rfl) HE.out S _ l.length (ints l) (by rfl) HR2.out (ints_one l) (by unfold maxLen; omega) (by omega) ?_
  intro v' w1 hown hfr hat hno
  have HF1 := Lib.hid (show Fr Nob wa w1 from ((Fr.refl Nob wa).drew.alloc (.cells #[] 3)).trans hfr fun k hk => .inr (by simp [inB, Value.ownBlock] at hk; omega))
  have HN1 := Lib.hid (show RowIn w1 (inB v') 1 v' l.length (ints l) by simpa using hown.row)
  obtain ⟨A1, c1, hv', _⟩ := HN1.out.form
  subst hv'
  clear hown hfr hat hno
  have hH := HS.out w1 HF1.out
  refine hK.out _ _ hH ?_
  simp only [Act.put, List.getElem_toArray, List.getElem_cons_succ, List.getElem_cons_zero, List.setIfInBounds_toArray, List.set_cons_zero, List.set_cons_succ]
  clear hK K
  refine held_one 7 rfl (by kernel_rfl) rfl fun K hK => ?_
  replace hK := Lib.hid hK
  clear hH
  go_simp
  refine (gdash_none _ l n _ _ HN1.out (by omega)).mono ?_
  rintro e w2 ⟨rfl, h2⟩
  have HF2 := Lib.hid (HF1.out.trans0 h2)
  clear h2
  dsimp only
  have hH := HS.out w2 HF2.out
  refine hK.out _ _ hH ?_
  clear hK K
  refine wpAnyH_done (by kernel_rfl) ?_ _
  clear hH
  simp only [LastQ, List.getElem_cons_succ, List.getElem_cons_zero]
  go_simp
  go_wp2_with fail
  go_ret
  exact ⟨rfl, HF.out.trans0 HF2.out⟩
theorem calln_10 (n : Int) (m : M6) (v : Value) (l : List Int) (px py : Int) (S : Nat → Prop) (w : World) (h : RowIn w S 1 v l.length (ints l)) (hl : l.length ≤ 100) : Calls Tryd.prog 31 #[.pointer none, actV 10 n m v px py] w fun e w' => e = .returned (.int .i64 (noneE 10)) ∧ Fr Nob w w' := by
  obtain ⟨A, c, rfl, _⟩ := h.form
  have hf : Fr Nob w (w.alloc (.cells #[.int .i64 10, .int .i64 n, .int .i64 m.a, .int .i64 m.b, .int .i64 m.c, .int .i64 m.d, .int .i64 m.e, .int .i64 m.f, .slice A l.length c, .int .i64 px, .int .i64 py] 76)) := (Fr.refl Nob w).alloc _
  have HF := Lib.hid hf
  have HR := Lib.hid (h.nob hf)
  have HB := Lib.hid (Blk.new w #[.int .i64 10, .int .i64 n, .int .i64 m.a, .int .i64 m.b, .int .i64 m.c, .int .i64 m.d, .int .i64 m.e, .int .i64 m.f, .slice A l.length c, .int .i64 px, .int .i64 py] 76)
  clear h hf
  rw [show noneE 10 = 21 by decide]
  unfold actV
  go_enter Tryd.func31, Tryd.ntmps31
  go_wp2_with fail
  refine (gwidth_none _ _).mono ?_
  rintro e w1 ⟨rfl, h1⟩
  have HF1 := Lib.hid (HF.out.trans0 h1)
  clear h1
  go_wp2_with fail
  go_ret
  exact ⟨rfl, HF1.out⟩
theorem calln_11 (n : Int) (m : M6) (v : Value) (l : List Int) (px py : Int) (S : Nat → Prop) (w : World) (h : RowIn w S 1 v l.length (ints l)) (hl : l.length ≤ 100) : Calls Tryd.prog 31 #[.pointer none, actV 11 n m v px py] w fun e w' => e = .returned (.int .i64 (noneE 11)) ∧ Fr Nob w w' := by
  obtain ⟨A, c, rfl, _⟩ := h.form
  have hf : Fr Nob w (w.alloc (.cells #[.int .i64 11, .int .i64 n, .int .i64 m.a, .int .i64 m.b, .int .i64 m.c, .int .i64 m.d, .int .i64 m.e, .int .i64 m.f, .slice A l.length c, .int .i64 px, .int .i64 py] 76)) := (Fr.refl Nob w).alloc _
  have HF := Lib.hid hf
  have HR := Lib.hid (h.nob hf)
  have HB := Lib.hid (Blk.new w #[.int .i64 11, .int .i64 n, .int .i64 m.a, .int .i64 m.b, .int .i64 m.c, .int .i64 m.d, .int .i64 m.e, .int .i64 m.f, .slice A l.length c, .int .i64 px, .int .i64 py] 76)
  clear h hf
  rw [show noneE 11 = 21 by decide]
  unfold actV
  go_enter Tryd.func31, Tryd.ntmps31
  go_wp2_with fail
  refine (gcap_none _ _).mono ?_
  rintro e w1 ⟨rfl, rfl⟩
  go_wp2_with fail
  go_ret
  exact ⟨rfl, HF.out⟩
theorem calln_12 (n : Int) (m : M6) (v : Value) (l : List Int) (px py : Int) (S : Nat → Prop) (w : World) (h : RowIn w S 1 v l.length (ints l)) (hl : l.length ≤ 100) : Calls Tryd.prog 31 #[.pointer none, actV 12 n m v px py] w fun e w' => e = .returned (.int .i64 (noneE 12)) ∧ Fr Nob w w' := by
  obtain ⟨A, c, rfl, _⟩ := h.form
  have hf : Fr Nob w (w.alloc (.cells #[.int .i64 12, .int .i64 n, .int .i64 m.a, .int .i64 m.b, .int .i64 m.c, .int .i64 m.d, .int .i64 m.e, .int .i64 m.f, .slice A l.length c, .int .i64 px, .int .i64 py] 76)) := (Fr.refl Nob w).alloc _
  have HF := Lib.hid hf
  have HR := Lib.hid (h.nob hf)
  have HB := Lib.hid (Blk.new w #[.int .i64 12, .int .i64 n, .int .i64 m.a, .int .i64 m.b, .int .i64 m.c, .int .i64 m.d, .int .i64 m.e, .int .i64 m.f, .slice A l.length c, .int .i64 px, .int .i64 py] 76)
  clear h hf
  rw [show noneE 12 = 21 by decide]
  unfold actV
  go_enter Tryd.func31, Tryd.ntmps31
  go_wp2_with fail
  refine (gjoin_none _ _).mono ?_
  rintro e w1 ⟨rfl, rfl⟩
  go_wp2_with fail
  go_ret
  exact ⟨rfl, HF.out⟩
theorem calln_13 (n : Int) (m : M6) (v : Value) (l : List Int) (px py : Int) (S : Nat → Prop) (w : World) (h : RowIn w S 1 v l.length (ints l)) (hl : l.length ≤ 100) : Calls Tryd.prog 31 #[.pointer none, actV 13 n m v px py] w fun e w' => e = .returned (.int .i64 (noneE 13)) ∧ Fr Nob w w' := by
  obtain ⟨A, c, rfl, _⟩ := h.form
  have hf : Fr Nob w (w.alloc (.cells #[.int .i64 13, .int .i64 n, .int .i64 m.a, .int .i64 m.b, .int .i64 m.c, .int .i64 m.d, .int .i64 m.e, .int .i64 m.f, .slice A l.length c, .int .i64 px, .int .i64 py] 76)) := (Fr.refl Nob w).alloc _
  have HF := Lib.hid hf
  have HR := Lib.hid (h.nob hf)
  have HB := Lib.hid (Blk.new w #[.int .i64 13, .int .i64 n, .int .i64 m.a, .int .i64 m.b, .int .i64 m.c, .int .i64 m.d, .int .i64 m.e, .int .i64 m.f, .slice A l.length c, .int .i64 px, .int .i64 py] 76)
  clear h hf
  rw [show noneE 13 = 21 by decide]
  unfold actV
  go_enter Tryd.func31, Tryd.ntmps31
  go_wp2_with fail
  refine (gmiter_none _ _).mono ?_
  rintro e w1 ⟨rfl, h1⟩
  have HF1 := Lib.hid (HF.out.trans0 h1)
  clear h1
  go_wp2_with fail
  go_ret
  exact ⟨rfl, HF1.out⟩
theorem calln_14 (n : Int) (m : M6) (v : Value) (l : List Int) (px py : Int) (S : Nat → Prop) (w : World) (h : RowIn w S 1 v l.length (ints l)) (hl : l.length ≤ 100) : Calls Tryd.prog 31 #[.pointer none, actV 14 n m v px py] w fun e w' => e = .returned (.int .i64 (noneE 14)) ∧ Fr Nob w w' := by
  obtain ⟨A, c, rfl, _⟩ := h.form
  have hf : Fr Nob w (w.alloc (.cells #[.int .i64 14, .int .i64 n, .int .i64 m.a, .int .i64 m.b, .int .i64 m.c, .int .i64 m.d, .int .i64 m.e, .int .i64 m.f, .slice A l.length c, .int .i64 px, .int .i64 py] 76)) := (Fr.refl Nob w).alloc _
  have HF := Lib.hid hf
  have HR := Lib.hid (h.nob hf)
  have HB := Lib.hid (Blk.new w #[.int .i64 14, .int .i64 n, .int .i64 m.a, .int .i64 m.b, .int .i64 m.c, .int .i64 m.d, .int .i64 m.e, .int .i64 m.f, .slice A l.length c, .int .i64 px, .int .i64 py] 76)
  clear h hf
  rw [show noneE 14 = 21 by decide]
  unfold actV
  go_enter Tryd.func31, Tryd.ntmps31
  go_wp2_with fail
  refine (gclip_none _ _).mono ?_
  rintro e w1 ⟨rfl, rfl⟩
  go_wp2_with fail
  go_ret
  exact ⟨rfl, HF.out⟩
theorem calln_15 (n : Int) (m : M6) (v : Value) (l : List Int) (px py : Int) (S : Nat → Prop) (w : World) (h : RowIn w S 1 v l.length (ints l)) (hl : l.length ≤ 100) : Calls Tryd.prog 31 #[.pointer none, actV 15 n m v px py] w fun e w' => e = .returned (.int .i64 (noneE 15)) ∧ Fr Nob w w' := by
  obtain ⟨A, c, rfl, _⟩ := h.form
  have hf : Fr Nob w (w.alloc (.cells #[.int .i64 15, .int .i64 n, .int .i64 m.a, .int .i64 m.b, .int .i64 m.c, .int .i64 m.d, .int .i64 m.e, .int .i64 m.f, .slice A l.length c, .int .i64 px, .int .i64 py] 76)) := (Fr.refl Nob w).alloc _
  have HF := Lib.hid hf
  have HR := Lib.hid (h.nob hf)
  have HB := Lib.hid (Blk.new w #[.int .i64 15, .int .i64 n, .int .i64 m.a, .int .i64 m.b, .int .i64 m.c, .int .i64 m.d, .int .i64 m.e, .int .i64 m.f, .slice A l.length c, .int .i64 px, .int .i64 py] 76)
  clear h hf
  rw [show noneE 15 = 0 by decide]
  unfold actV
  go_enter Tryd.func31, Tryd.ntmps31
  go_wp2_with fail
  refine (gunclip_none _).mono ?_
  rintro e w1 ⟨rfl, rfl⟩
  go_wp2_with fail
  go_ret
  exact ⟨rfl, HF.out⟩
theorem calln_0 (d : Int) (n : Int) (m : M6) (v : Value) (l : List Int) (px py : Int) (S : Nat → Prop) (w : World) (h : RowIn w S 1 v l.length (ints l)) (hl : l.length ≤ 100) (hd : d < 1 ∨ 16 < d) : Calls Tryd.prog 31 #[.pointer none, actV d n m v px py] w fun e w' => e = .returned (.int .i64 (noneE d)) ∧ Fr Nob w w' := by
  obtain ⟨A, c, rfl, _⟩ := h.form
  have HF := Lib.hid ((Fr.refl Nob w).alloc (.cells #[.int .i64 d, .int .i64 n, .int .i64 m.a, .int .i64 m.b, .int .i64 m.c, .int .i64 m.d, .int .i64 m.e, .int .i64 m.f, .slice A l.length c, .int .i64 px, .int .i64 py] 76))
  have n1 : ¬ d = 1 := by omega
  have n2 : ¬ d = 2 := by omega
  have n3 : ¬ d = 3 := by omega
  have n4 : ¬ d = 4 := by omega
  have n5 : ¬ d = 5 := by omega
  have n6 : ¬ d = 6 := by omega
  have n7 : ¬ d = 7 := by omega
  have n8 : ¬ d = 8 := by omega
  have n9 : ¬ d = 9 := by omega
  have n10 : ¬ d = 10 := by omega
  have n11 : ¬ d = 11 := by omega
  have n12 : ¬ d = 12 := by omega
  have n13 : ¬ d = 13 := by omega
  have n14 : ¬ d = 14 := by omega
  have n15 : ¬ d = 15 := by omega
  have n16 : ¬ d = 16 := by omega
  rw [show noneE d = 0 by unfold noneE; rw [if_neg (by omega)]]
  clear h hd
  unfold actV
  go_enter Tryd.func31, Tryd.ntmps31
  go_wp2_with fail
  go_ret
  exact ⟨rfl, HF.out⟩
theorem call_none (d : Int) (n : Int) (m : M6) (v : Value) (l : List Int) (px py : Int) (S : Nat → Prop) (w : World) (h : RowIn w S 1 v l.length (ints l)) (hl : l.length ≤ 100) (h16 : d ≠ 16) : Calls Tryd.prog 31 #[.pointer none, actV d n m v px py] w fun e w' => e = .returned (.int .i64 (noneE d)) ∧ Fr Nob w w' := by
  by_cases h0 : d < 1 ∨ 16 < d
  · exact calln_0 d n m v l px py S w h hl h0
  · have : d = 1 ∨ d = 2 ∨ d = 3 ∨ d = 4 ∨ d = 5 ∨ d = 6 ∨ d = 7 ∨ d = 8 ∨ d = 9 ∨ d = 10 ∨ d = 11 ∨ d = 12 ∨ d = 13 ∨ d = 14 ∨ d = 15 := by omega
    rcases this with rfl | rfl | rfl | rfl | rfl | rfl | rfl | rfl | rfl | rfl | rfl | rfl | rfl | rfl | rfl
    · exact calln_1 n m v l px py S w h hl
    · exact calln_2 n m v l px py S w h hl
    · exact calln_3 n m v l px py S w h hl
    · exact calln_4 n m v l px py S w h hl
    · exact calln_5 n m v l px py S w h hl
    · exact calln_6 n m v l px py S w h hl
    · exact calln_7 n m v l px py S w h hl
    · exact calln_8 n m v l px py S w h hl
    · exact calln_9 n m v l px py S w h hl
    · exact calln_10 n m v l px py S w h hl
    · exact calln_11 n m v l px py S w h hl
    · exact calln_12 n m v l px py S w h hl
    · exact calln_13 n m v l px py S w h hl
    · exact calln_14 n m v l px py S w h hl
    · exact calln_15 n m v l px py S w h hl
end Go.Proofs.YtkkejjfmidgciaaDoor
