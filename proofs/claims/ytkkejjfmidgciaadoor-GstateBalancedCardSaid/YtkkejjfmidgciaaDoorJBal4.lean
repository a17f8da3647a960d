/-
  Texts joined in build order: The walk of call (chapter 14) with no states. What the laws of chapter 14 are handed: numbers, matrices, calls. The walk of Restore. The walks of SetMatrix, SetFont, Unclip. The walk of SetColor. The walk of SetDash. The walks of package fix: all, within, over, Add, Mul, Sum. The walks of fix.Sum and of the steps of package mat.
-/
import Derived.Test.YtkkejjfmidgciaaDoorJBal3
import Derived.OpenShut
import Derived.Deep.RegionHeld3
import Derived.BigRegion
/- The walk of call (chapter 14) with no states. -/
namespace Go.Proofs.YtkkejjfmidgciaaDoor
open Go.RowKit
set_option linter.unusedVariables false
set_option linter.unusedSimpArgs false
def noneE (d : Int) : Int := if 1 ≤ d ∧ d ≤ 14 ∧ ¬ (2 ≤ d ∧ d ≤ 4) then 21 else 0
def actV (d n : Int) (m : M6) (v : Value) (px py : Int) : Value := .agg #[.int .i64 d, .int .i64 n, .int .i64 m.a, .int .i64 m.b, .int .i64 m.c, .int .i64 m.d, .int .i64 m.e, .int .i64 m.f, v, .int .i64 px, .int .i64 py]
theorem calln_1 (n : Int) (m : M6) (v : Value) (l : List Int) (px py : Int) (S : Nat → Prop) (w : World) (h : RowIn w S 1 v l.length (ints l)) (hl : l.length ≤ 100) : Calls Tryd.prog 31 #[.pointer none, actV 1 n m v px py] w fun e w' => e = .returned (.int .i64 (noneE 1)) ∧ Fr Nob w w' := by
  obtain ⟨A, c, rfl, _⟩ := h.form
  have hf : Fr Nob w (w.alloc (.cells #[.int .i64 1, .int .i64 n, .int .i64 m.a, .int .i64 m.b, .int .i64 m.c, .int .i64 m.d, .int .i64 m.e, .int .i64 m.f, .slice A l.length c, .int .i64 px, .int .i64 py] 76)) := (Fr.refl Nob w).alloc _
  have HF := Lib.hid hf
  have HR := Lib.hid (h.nob hf)
  have HB := Lib.hid (Blk.new w #[.int .i64 1, .int .i64 n, .int .i64 m.a, .int .i64 m.b, .int .i64 m.c, .int .i64 m.d, .int .i64 m.e, .int .i64 m.f, .slice A l.length c, .int .i64 px, .int .i64 py] 76)
  clear h hf
  rw [show noneE 1 = 21 by decide]
  unfold actV
  go_enter Tryd.func31, Tryd.ntmps31
  go_wp2_with fail
  refine (gsave_none _).mono ?_
  rintro e w1 ⟨rfl, rfl⟩
  go_wp2_with fail
  go_ret
  exact ⟨rfl, HF.out⟩
theorem calln_2 (n : Int) (m : M6) (v : Value) (l : List Int) (px py : Int) (S : Nat → Prop) (w : World) (h : RowIn w S 1 v l.length (ints l)) (hl : l.length ≤ 100) : Calls Tryd.prog 31 #[.pointer none, actV 2 n m v px py] w fun e w' => e = .returned (.int .i64 (noneE 2)) ∧ Fr Nob w w' := by
  obtain ⟨A, c, rfl, _⟩ := h.form
  have hf : Fr Nob w (w.alloc (.cells #[.int .i64 2, .int .i64 n, .int .i64 m.a, .int .i64 m.b, .int .i64 m.c, .int .i64 m.d, .int .i64 m.e, .int .i64 m.f, .slice A l.length c, .int .i64 px, .int .i64 py] 76)) := (Fr.refl Nob w).alloc _
  have HF := Lib.hid hf
  have HR := Lib.hid (h.nob hf)
  have HB := Lib.hid (Blk.new w #[.int .i64 2, .int .i64 n, .int .i64 m.a, .int .i64 m.b, .int .i64 m.c, .int .i64 m.d, .int .i64 m.e, .int .i64 m.f, .slice A l.length c, .int .i64 px, .int .i64 py] 76)
  clear h hf
  rw [show noneE 2 = 0 by decide]
  unfold actV
  go_enter Tryd.func31, Tryd.ntmps31
  go_wp2_with fail
  refine (grestore_none _).mono ?_
  rintro e w1 ⟨rfl, rfl⟩
  go_wp2_with fail
  go_ret
  exact ⟨rfl, HF.out⟩
theorem calln_3 (n : Int) (m : M6) (v : Value) (l : List Int) (px py : Int) (S : Nat → Prop) (w : World) (h : RowIn w S 1 v l.length (ints l)) (hl : l.length ≤ 100) : Calls Tryd.prog 31 #[.pointer none, actV 3 n m v px py] w fun e w' => e = .returned (.int .i64 (noneE 3)) ∧ Fr Nob w w' := by
  obtain ⟨A, c, rfl, _⟩ := h.form
  have hf : Fr Nob w (w.alloc (.cells #[.int .i64 3, .int .i64 n, .int .i64 m.a, .int .i64 m.b, .int .i64 m.c, .int .i64 m.d, .int .i64 m.e, .int .i64 m.f, .slice A l.length c, .int .i64 px, .int .i64 py] 76)) := (Fr.refl Nob w).alloc _
  have HF := Lib.hid hf
  have HR := Lib.hid (h.nob hf)
  have HB := Lib.hid (Blk.new w #[.int .i64 3, .int .i64 n, .int .i64 m.a, .int .i64 m.b, .int .i64 m.c, .int .i64 m.d, .int .i64 m.e, .int .i64 m.f, .slice A l.length c, .int .i64 px, .int .i64 py] 76)
  clear h hf
  rw [show noneE 3 = 0 by decide]
  unfold actV
  go_enter Tryd.func31, Tryd.ntmps31
  go_wp2_with fail
  refine (grestall_none _).mono ?_
  rintro e w1 ⟨rfl, rfl⟩
  go_wp2_with fail
  go_ret
  exact ⟨rfl, HF.out⟩
theorem calln_4 (n : Int) (m : M6) (v : Value) (l : List Int) (px py : Int) (S : Nat → Prop) (w : World) (h : RowIn w S 1 v l.length (ints l)) (hl : l.length ≤ 100) : Calls Tryd.prog 31 #[.pointer none, actV 4 n m v px py] w fun e w' => e = .returned (.int .i64 (noneE 4)) ∧ Fr Nob w w' := by
  obtain ⟨A, c, rfl, _⟩ := h.form
  have hf : Fr Nob w (w.alloc (.cells #[.int .i64 4, .int .i64 n, .int .i64 m.a, .int .i64 m.b, .int .i64 m.c, .int .i64 m.d, .int .i64 m.e, .int .i64 m.f, .slice A l.length c, .int .i64 px, .int .i64 py] 76)) := (Fr.refl Nob w).alloc _
  have HF := Lib.hid hf
  have HR := Lib.hid (h.nob hf)
  have HB := Lib.hid (Blk.new w #[.int .i64 4, .int .i64 n, .int .i64 m.a, .int .i64 m.b, .int .i64 m.c, .int .i64 m.d, .int .i64 m.e, .int .i64 m.f, .slice A l.length c, .int .i64 px, .int .i64 py] 76)
  clear h hf
  rw [show noneE 4 = 0 by decide]
  unfold actV
  go_enter Tryd.func31, Tryd.ntmps31
  go_wp2_with fail
  refine (ginit_none _).mono ?_
  rintro e w1 ⟨rfl, rfl⟩
  go_wp2_with fail
  go_ret
  exact ⟨rfl, HF.out⟩
theorem calln_5 (n : Int) (m : M6) (v : Value) (l : List Int) (px py : Int) (S : Nat → Prop) (w : World) (h : RowIn w S 1 v l.length (ints l)) (hl : l.length ≤ 100) : Calls Tryd.prog 31 #[.pointer none, actV 5 n m v px py] w fun e w' => e = .returned (.int .i64 (noneE 5)) ∧ Fr Nob w w' := by
  obtain ⟨A, c, rfl, _⟩ := h.form
  have hf : Fr Nob w (w.alloc (.cells #[.int .i64 5, .int .i64 n, .int .i64 m.a, .int .i64 m.b, .int .i64 m.c, .int .i64 m.d, .int .i64 m.e, .int .i64 m.f, .slice A l.length c, .int .i64 px, .int .i64 py] 76)) := (Fr.refl Nob w).alloc _
  have HF := Lib.hid hf
  have HR := Lib.hid (h.nob hf)
  have HB := Lib.hid (Blk.new w #[.int .i64 5, .int .i64 n, .int .i64 m.a, .int .i64 m.b, .int .i64 m.c, .int .i64 m.d, .int .i64 m.e, .int .i64 m.f, .slice A l.length c, .int .i64 px, .int .i64 py] 76)
  clear h hf
  rw [show noneE 5 = 21 by decide]
  unfold actV
  go_enter Tryd.func31, Tryd.ntmps31
  go_wp2_with fail
  refine (gconcat_none m _).mono ?_
  rintro e w1 ⟨rfl, h1⟩
  have HF1 := Lib.hid (HF.out.trans0 h1)
  clear h1
  go_wp2_with fail
  go_ret
  exact ⟨rfl, HF1.out⟩
theorem calln_6 (n : Int) (m : M6) (v : Value) (l : List Int) (px py : Int) (S : Nat → Prop) (w : World) (h : RowIn w S 1 v l.length (ints l)) (hl : l.length ≤ 100) : Calls Tryd.prog 31 #[.pointer none, actV 6 n m v px py] w fun e w' => e = .returned (.int .i64 (noneE 6)) ∧ Fr Nob w w' := by
  obtain ⟨A, c, rfl, _⟩ := h.form
  have hf : Fr Nob w (w.alloc (.cells #[.int .i64 6, .int .i64 n, .int .i64 m.a, .int .i64 m.b, .int .i64 m.c, .int .i64 m.d, .int .i64 m.e, .int .i64 m.f, .slice A l.length c, .int .i64 px, .int .i64 py] 76)) := (Fr.refl Nob w).alloc _
  have HF := Lib.hid hf
  have HR := Lib.hid (h.nob hf)
  have HB := Lib.hid (Blk.new w #[.int .i64 6, .int .i64 n, .int .i64 m.a, .int .i64 m.b, .int .i64 m.c, .int .i64 m.d, .int .i64 m.e, .int .i64 m.f, .slice A l.length c, .int .i64 px, .int .i64 py] 76)
  clear h hf
  rw [show noneE 6 = 21 by decide]
  unfold actV
  go_enter Tryd.func31, Tryd.ntmps31
  go_wp2_with fail
  refine (gmatrix_none m _).mono ?_
  rintro e w1 ⟨rfl, h1⟩
  have HF1 := Lib.hid (HF.out.trans0 h1)
  clear h1
  go_wp2_with fail
  go_ret
  exact ⟨rfl, HF1.out⟩
theorem calln_7 (n : Int) (m : M6) (v : Value) (l : List Int) (px py : Int) (S : Nat → Prop) (w : World) (h : RowIn w S 1 v l.length (ints l)) (hl : l.length ≤ 100) : Calls Tryd.prog 31 #[.pointer none, actV 7 n m v px py] w fun e w' => e = .returned (.int .i64 (noneE 7)) ∧ Fr Nob w w' := by
  obtain ⟨A, c, rfl, _⟩ := h.form
  have hf : Fr Nob w (w.alloc (.cells #[.int .i64 7, .int .i64 n, .int .i64 m.a, .int .i64 m.b, .int .i64 m.c, .int .i64 m.d, .int .i64 m.e, .int .i64 m.f, .slice A l.length c, .int .i64 px, .int .i64 py] 76)) := (Fr.refl Nob w).alloc _
  have HF := Lib.hid hf
  have HR := Lib.hid (h.nob hf)
  have HB := Lib.hid (Blk.new w #[.int .i64 7, .int .i64 n, .int .i64 m.a, .int .i64 m.b, .int .i64 m.c, .int .i64 m.d, .int .i64 m.e, .int .i64 m.f, .slice A l.length c, .int .i64 px, .int .i64 py] 76)
  clear h hf
  rw [show noneE 7 = 21 by decide]
  unfold actV
  go_enter Tryd.func31, Tryd.ntmps31
  go_wp2_with fail
  refine (gfont_none n m _).mono ?_
  rintro e w1 ⟨rfl, h1⟩
  have HF1 := Lib.hid (HF.out.trans0 h1)
  clear h1
  go_wp2_with fail
  go_ret
  exact ⟨rfl, HF1.out⟩
theorem calln_8 (n : Int) (m : M6) (v : Value) (l : List Int) (px py : Int) (S : Nat → Prop) (w : World) (h : RowIn w S 1 v l.length (ints l)) (hl : l.length ≤ 100) : Calls Tryd.prog 31 #[.pointer none, actV 8 n m v px py] w fun e w' => e = .returned (.int .i64 (noneE 8)) ∧ Fr Nob w w' := by
  obtain ⟨A, c, rfl, _⟩ := h.form
  have hf : Fr Nob w (w.alloc (.cells #[.int .i64 8, .int .i64 n, .int .i64 m.a, .int .i64 m.b, .int .i64 m.c, .int .i64 m.d, .int .i64 m.e, .int .i64 m.f, .slice A l.length c, .int .i64 px, .int .i64 py] 76)) := (Fr.refl Nob w).alloc _
  have HF := Lib.hid hf
  have HR := Lib.hid (h.nob hf)
  have HB := Lib.hid (Blk.new w #[.int .i64 8, .int .i64 n, .int .i64 m.a, .int .i64 m.b, .int .i64 m.c, .int .i64 m.d, .int .i64 m.e, .int .i64 m.f, .slice A l.length c, .int .i64 px, .int .i64 py] 76)
  clear h hf
  rw [show noneE 8 = 21 by decide]
  unfold actV
  go_enter Tryd.func31, Tryd.ntmps31
  go_upto_region 17 with (fail)
  generalize w.alloc (.cells #[.int .i64 8, .int .i64 n, .int .i64 m.a, .int .i64 m.b, .int .i64 m.c, .int .i64 m.d, .int .i64 m.e, .int .i64 m.f, .slice A l.length c, .int .i64 px, .int .i64 py] 76) = wa at *
  obtain ⟨i0, hi, hz0, hz1, hz2⟩ := info_parts infoInt
  have c8 : wa.cell? ⟨w.heap.size, 8, none⟩ = some (.slice A l.length c) := HB.out.cell 8
  have HE := Lib.hid (show OwnS (wa.alloc (.cells #[] 3)) 3 1 (.slice (some ⟨wa.heap.size, 0, none⟩) 0 0) 0 [] from OwnS.empty (Blk.new wa _ _))
  have HR2 := Lib.hid (HR.out.nob ((Fr.refl Nob wa).alloc (.cells #[] 3)))
  have hlt : w.heap.size < wa.heap.size := HB.out.lt
  go_wp2_with (at_builtin; refine wpList_app _ rfl _ _ 30 rfl 3 i0 _ 1 8 Tryd.underlying30 hi hz0 hz1 hz2 rfl (by decide) _ 0 [] rfl HE.out S _ l.length (ints l) rfl HR2.out (ints_one l) (by unfold maxLen; omega) (by omega) ?_)
  intro v' w1 hown hfr hat _
  have HF1 := Lib.hid (HF.out.trans (((Fr.refl Nob wa).alloc (.cells #[] 3)).trans hfr fun k hk => .inr (by simp [inB, Value.ownBlock] at hk; omega)) fun k hk => hk.elim)
  obtain ⟨A1, c1, rfl, _⟩ := hown.form
  clear hown hfr hat
  go_wp2_with fail
  refine (gcolor_none _ _ _ _).mono ?_
  rintro e w2 ⟨rfl, rfl⟩
  go_wp2_with fail
  go_ret
  exact ⟨rfl, HF1.out⟩
theorem calln_9 (n : Int) (m : M6) (v : Value) (l : List Int) (px py : Int) (S : Nat → Prop) (w : World) (h : RowIn w S 1 v l.length (ints l)) (hl : l.length ≤ 100) : Calls Tryd.prog 31 #[.pointer none, actV 9 n m v px py] w fun e w' => e = .returned (.int .i64 (noneE 9)) ∧ Fr Nob w w' := by
  obtain ⟨A, c, rfl, _⟩ := h.form
  have hf : Fr Nob w (w.alloc (.cells #[.int .i64 9, .int .i64 n, .int .i64 m.a, .int .i64 m.b, .int .i64 m.c, .int .i64 m.d, .int .i64 m.e, .int .i64 m.f, .slice A l.length c, .int .i64 px, .int .i64 py] 76)) := (Fr.refl Nob w).alloc _
  have HF := Lib.hid hf
  have HR := Lib.hid (h.nob hf)
  have HB := Lib.hid (Blk.new w #[.int .i64 9, .int .i64 n, .int .i64 m.a, .int .i64 m.b, .int .i64 m.c, .int .i64 m.d, .int .i64 m.e, .int .i64 m.f, .slice A l.length c, .int .i64 px, .int .i64 py] 76)
  clear h hf
  rw [show noneE 9 = 21 by decide]
  unfold actV
  go_enter Tryd.func31, Tryd.ntmps31
  go_upto_region 19 with (fail)
  generalize w.alloc (.cells #[.int .i64 9, .int .i64 n, .int .i64 m.a, .int .i64 m.b, .int .i64 m.c, .int .i64 m.d, .int .i64 m.e, .int .i64 m.f, .slice A l.length c, .int .i64 px, .int .i64 py] 76) = wa at *
  obtain ⟨i0, hi, hz0, hz1, hz2⟩ := info_parts infoInt
  replace hi := Lib.hid hi
  replace hz0 := Lib.hid hz0
  replace hz1 := Lib.hid hz1
  replace hz2 := Lib.hid hz2
  have HS := Lib.hid (show ∀ w', Fr Nob wa w' → (fun w' => w'.cell? ⟨w.heap.size, 1, none⟩ = some (.int .i64 n) ∧ w'.cell? ⟨w.heap.size, 8, none⟩ = some (.slice A l.length c)) w' from fun w' hw' => by
    have hb := HB.out.nob hw'
    exact ⟨hb.cell 1, hb.cell 8⟩)
  have HE := Lib.hid (show OwnS (wa.drew.alloc (.cells #[] 3)) 3 1 (.slice (some ⟨wa.heap.size, 0, none⟩) 0 0) 0 [] from OwnS.empty (Blk.new wa.drew _ _))
  have HR2 := Lib.hid (HR.out.nob ((Fr.refl Nob wa).drew.alloc (.cells #[] 3)))
  go_wp2_with fail
  refine wp_region_last' (ops := _) (o := _) (l := _) 8 rfl rfl rfl (fun w' => w'.cell? ⟨w.heap.size, 1, none⟩ = some (.int .i64 n) ∧ w'.cell? ⟨w.heap.size, 8, none⟩ = some (.slice A l.length c)) (by kernel_rfl) (by kernel_rfl) (HS.out _ (Fr.refl Nob wa).drew) fun hH => ?_
  simp only [List.take_succ_cons, List.take_zero]
  refine wpAnyH_take (i := 0) (v := ?va1) rfl (by kernel_rfl) (by kernel_rfl) (by kernel_rfl) (fun _ _ _ h => h) (Or.inl ⟨by rfl, ?ha1⟩) hH ?ra1
  case ha1 => (intro w hSw; (try dsimp only at hSw); clear hSw; go_simp; (try with_reducible rfl))
  simp only [Act.put, List.getElem_toArray, List.getElem_cons_succ, List.getElem_cons_zero, List.setIfInBounds_toArray, List.set_cons_zero, List.set_cons_succ]
  refine wpAnyH_take (i := 2) (v := ?va2) rfl (by kernel_rfl) (by kernel_rfl) (by kernel_rfl) (fun _ _ _ h => h) (Or.inl ⟨by rfl, ?ha2⟩) hH ?ra2
  case ha2 => (intro w hSw; (try dsimp only at hSw); clear hSw; go_simp; (try with_reducible rfl))
  simp only [Act.put, List.getElem_toArray, List.getElem_cons_succ, List.getElem_cons_zero, List.setIfInBounds_toArray, List.set_cons_zero, List.set_cons_succ]
  refine wpAnyH_take (i := 3) (v := ?va3) rfl (by kernel_rfl) (by kernel_rfl) (by kernel_rfl) (fun _ _ _ h => h) (Or.inl ⟨by rfl, ?ha3⟩) hH ?ra3
  case ha3 => (intro w hSw; (try dsimp only at hSw); obtain ⟨_, hSw⟩ := hSw; go_simp; (try with_reducible rfl))
  simp only [Act.put, List.getElem_toArray, List.getElem_cons_succ, List.getElem_cons_zero, List.setIfInBounds_toArray, List.set_cons_zero, List.set_cons_succ]
  refine wpAnyH_take (i := 5) (v := ?va4) rfl (by kernel_rfl) (by kernel_rfl) (by kernel_rfl) (fun _ _ _ h => h) (Or.inl ⟨by rfl, ?ha4⟩) hH ?ra4
  case ha4 => (intro w hSw; (try dsimp only at hSw); clear hSw; go_simp; (try with_reducible rfl))
  simp only [Act.put, List.getElem_toArray, List.getElem_cons_succ, List.getElem_cons_zero, List.setIfInBounds_toArray, List.set_cons_zero, List.set_cons_succ]
  refine wpAnyH_take (i := 6) (v := ?va5) rfl (by kernel_rfl) (by kernel_rfl) (by kernel_rfl) (fun _ _ _ h => h) (Or.inl ⟨by rfl, ?ha5⟩) hH ?ra5
  case ha5 => (intro w hSw; (try dsimp only at hSw); obtain ⟨hSw, _⟩ := hSw; go_simp; (try with_reducible rfl))
  simp only [Act.put, List.getElem_toArray, List.getElem_cons_succ, List.getElem_cons_zero, List.setIfInBounds_toArray, List.set_cons_zero, List.set_cons_succ]
  refine held_one 1 rfl (by kernel_rfl) rfl fun K hK => ?_
  replace hK := Lib.hid hK
  clear hH
  go_simp
  have hH := HS.out (wa.drew.alloc (.cells #[] 3)) ((Fr.refl Nob wa).drew.alloc _)
  refine hK.out _ _ hH ?_
  clear hK K
  refine held_one 4 rfl (by kernel_rfl) rfl fun K hK => ?_
  replace hK := Lib.hid hK
  clear hH
  refine wp_app (.tmp 54) (.tmp 56) 30 rfl 3 i0 _ 1 8 Tryd.underlying30 hi.out hz0.out hz1.out hz2.out rfl (by decide) _ 0 [] (by rfl) HE.out S _ l.length (ints l) (by rfl) HR2.out (ints_one l) (by unfold maxLen; omega) (by omega) ?_
  intro v' w1 hown hfr hat hno
  have HF1 := Lib.hid (show Fr Nob wa w1 from ((Fr.refl Nob wa).drew.alloc (.cells #[] 3)).trans hfr fun k hk => .inr (by simp [inB, Value.ownBlock] at hk; omega))
  have HN1 := Lib.hid (show RowIn w1 (inB v') 1 v' l.length (ints l) by simpa using hown.row)
  obtain ⟨A1, c1, hv', _⟩ := HN1.out.form
  subst hv'
  clear hown hfr hat hno
  have hH := HS.out w1 HF1.out
  refine hK.out _ _ hH ?_
  simp only [Act.put, List.getElem_toArray, List.getElem_cons_succ, List.getElem_cons_zero, List.setIfInBounds_toArray, List.set_cons_zero, List.set_cons_succ]
  clear hK K
  refine held_one 7 rfl (by kernel_rfl) rfl fun K hK => ?_
  replace hK := Lib.hid hK
  clear hH
  go_simp
  refine (gdash_none _ l n _ _ HN1.out (by omega)).mono ?_
  rintro e w2 ⟨rfl, h2⟩
  have HF2 := Lib.hid (HF1.out.trans0 h2)
  clear h2
  dsimp only
  have hH := HS.out w2 HF2.out
  refine hK.out _ _ hH ?_
  clear hK K
  refine wpAnyH_done (by kernel_rfl) ?_ _
  clear hH
  simp only [LastQ, List.getElem_cons_succ, List.getElem_cons_zero]
  go_simp
  go_wp2_with fail
  go_ret
  exact ⟨rfl, HF.out.trans0 HF2.out⟩
theorem calln_10 (n : Int) (m : M6) (v : Value) (l : List Int) (px py : Int) (S : Nat → Prop) (w : World) (h : RowIn w S 1 v l.length (ints l)) (hl : l.length ≤ 100) : Calls Tryd.prog 31 #[.pointer none, actV 10 n m v px py] w fun e w' => e = .returned (.int .i64 (noneE 10)) ∧ Fr Nob w w' := by
  obtain ⟨A, c, rfl, _⟩ := h.form
  have hf : Fr Nob w (w.alloc (.cells #[.int .i64 10, .int .i64 n, .int .i64 m.a, .int .i64 m.b, .int .i64 m.c, .int .i64 m.d, .int .i64 m.e, .int .i64 m.f, .slice A l.length c, .int .i64 px, .int .i64 py] 76)) := (Fr.refl Nob w).alloc _
  have HF := Lib.hid hf
  have HR := Lib.hid (h.nob hf)
  have HB := Lib.hid (Blk.new w #[.int .i64 10, .int .i64 n, .int .i64 m.a, .int .i64 m.b, .int .i64 m.c, .int .i64 m.d, .int .i64 m.e, .int .i64 m.f, .slice A l.length c, .int .i64 px, .int .i64 py] 76)
  clear h hf
  rw [show noneE 10 = 21 by decide]
  unfold actV
  go_enter Tryd.func31, Tryd.ntmps31
  go_wp2_with fail
  refine (gwidth_none _ _).mono ?_
  rintro e w1 ⟨rfl, h1⟩
  have HF1 := Lib.hid (HF.out.trans0 h1)
  clear h1
  go_wp2_with fail
  go_ret
  exact ⟨rfl, HF1.out⟩
theorem calln_11 (n : Int) (m : M6) (v : Value) (l : List Int) (px py : Int) (S : Nat → Prop) (w : World) (h : RowIn w S 1 v l.length (ints l)) (hl : l.length ≤ 100) : Calls Tryd.prog 31 #[.pointer none, actV 11 n m v px py] w fun e w' => e = .returned (.int .i64 (noneE 11)) ∧ Fr Nob w w' := by
  obtain ⟨A, c, rfl, _⟩ := h.form
  have hf : Fr Nob w (w.alloc (.cells #[.int .i64 11, .int .i64 n, .int .i64 m.a, .int .i64 m.b, .int .i64 m.c, .int .i64 m.d, .int .i64 m.e, .int .i64 m.f, .slice A l.length c, .int .i64 px, .int .i64 py] 76)) := (Fr.refl Nob w).alloc _
  have HF := Lib.hid hf
  have HR := Lib.hid (h.nob hf)
  have HB := Lib.hid (Blk.new w #[.int .i64 11, .int .i64 n, .int .i64 m.a, .int .i64 m.b, .int .i64 m.c, .int .i64 m.d, .int .i64 m.e, .int .i64 m.f, .slice A l.length c, .int .i64 px, .int .i64 py] 76)
  clear h hf
  rw [show noneE 11 = 21 by decide]
  unfold actV
  go_enter Tryd.func31, Tryd.ntmps31
  go_wp2_with fail
  refine (gcap_none _ _).mono ?_
  rintro e w1 ⟨rfl, rfl⟩
  go_wp2_with fail
  go_ret
  exact ⟨rfl, HF.out⟩
theorem calln_12 (n : Int) (m : M6) (v : Value) (l : List Int) (px py : Int) (S : Nat → Prop) (w : World) (h : RowIn w S 1 v l.length (ints l)) (hl : l.length ≤ 100) : Calls Tryd.prog 31 #[.pointer none, actV 12 n m v px py] w fun e w' => e = .returned (.int .i64 (noneE 12)) ∧ Fr Nob w w' := by
  obtain ⟨A, c, rfl, _⟩ := h.form
  have hf : Fr Nob w (w.alloc (.cells #[.int .i64 12, .int .i64 n, .int .i64 m.a, .int .i64 m.b, .int .i64 m.c, .int .i64 m.d, .int .i64 m.e, .int .i64 m.f, .slice A l.length c, .int .i64 px, .int .i64 py] 76)) := (Fr.refl Nob w).alloc _
  have HF := Lib.hid hf
  have HR := Lib.hid (h.nob hf)
  have HB := Lib.hid (Blk.new w #[.int .i64 12, .int .i64 n, .int .i64 m.a, .int .i64 m.b, .int .i64 m.c, .int .i64 m.d, .int .i64 m.e, .int .i64 m.f, .slice A l.length c, .int .i64 px, .int .i64 py] 76)
  clear h hf
  rw [show noneE 12 = 21 by decide]
  unfold actV
  go_enter Tryd.func31, Tryd.ntmps31
  go_wp2_with fail
  refine (gjoin_none _ _).mono ?_
  rintro e w1 ⟨rfl, rfl⟩
  go_wp2_with fail
  go_ret
  exact ⟨rfl, HF.out⟩
theorem calln_13 (n : Int) (m : M6) (v : Value) (l : List Int) (px py : Int) (S : Nat → Prop) (w : World) (h : RowIn w S 1 v l.length (ints l)) (hl : l.length ≤ 100) : Calls Tryd.prog 31 #[.pointer none, actV 13 n m v px py] w fun e w' => e = .returned (.int .i64 (noneE 13)) ∧ Fr Nob w w' := by
  obtain ⟨A, c, rfl, _⟩ := h.form
  have hf : Fr Nob w (w.alloc (.cells #[.int .i64 13, .int .i64 n, .int .i64 m.a, .int .i64 m.b, .int .i64 m.c, .int .i64 m.d, .int .i64 m.e, .int .i64 m.f, .slice A l.length c, .int .i64 px, .int .i64 py] 76)) := (Fr.refl Nob w).alloc _
  have HF := Lib.hid hf
  have HR := Lib.hid (h.nob hf)
  have HB := Lib.hid (Blk.new w #[.int .i64 13, .int .i64 n, .int .i64 m.a, .int .i64 m.b, .int .i64 m.c, .int .i64 m.d, .int .i64 m.e, .int .i64 m.f, .slice A l.length c, .int .i64 px, .int .i64 py] 76)
  clear h hf
  rw [show noneE 13 = 21 by decide]
  unfold actV
  go_enter Tryd.func31, Tryd.ntmps31
  go_wp2_with fail
  refine (gmiter_none _ _).mono ?_
  rintro e w1 ⟨rfl, h1⟩
  have HF1 := Lib.hid (HF.out.trans0 h1)
  clear h1
  go_wp2_with fail
  go_ret
  exact ⟨rfl, HF1.out⟩
theorem calln_14 (n : Int) (m : M6) (v : Value) (l : List Int) (px py : Int) (S : Nat → Prop) (w : World) (h : RowIn w S 1 v l.length (ints l)) (hl : l.length ≤ 100) : Calls Tryd.prog 31 #[.pointer none, actV 14 n m v px py] w fun e w' => e = .returned (.int .i64 (noneE 14)) ∧ Fr Nob w w' := by
  obtain ⟨A, c, rfl, _⟩ := h.form
  have hf : Fr Nob w (w.alloc (.cells #[.int .i64 14, .int .i64 n, .int .i64 m.a, .int .i64 m.b, .int .i64 m.c, .int .i64 m.d, .int .i64 m.e, .int .i64 m.f, .slice A l.length c, .int .i64 px, .int .i64 py] 76)) := (Fr.refl Nob w).alloc _
  have HF := Lib.hid hf
  have HR := Lib.hid (h.nob hf)
  have HB := Lib.hid (Blk.new w #[.int .i64 14, .int .i64 n, .int .i64 m.a, .int .i64 m.b, .int .i64 m.c, .int .i64 m.d, .int .i64 m.e, .int .i64 m.f, .slice A l.length c, .int .i64 px, .int .i64 py] 76)
  clear h hf
  rw [show noneE 14 = 21 by decide]
  unfold actV
  go_enter Tryd.func31, Tryd.ntmps31
  go_wp2_with fail
  refine (gclip_none _ _).mono ?_
  rintro e w1 ⟨rfl, rfl⟩
  go_wp2_with fail
  go_ret
  exact ⟨rfl, HF.out⟩
theorem calln_15 (n : Int) (m : M6) (v : Value) (l : List Int) (px py : Int) (S : Nat → Prop) (w : World) (h : RowIn w S 1 v l.length (ints l)) (hl : l.length ≤ 100) : Calls Tryd.prog 31 #[.pointer none, actV 15 n m v px py] w fun e w' => e = .returned (.int .i64 (noneE 15)) ∧ Fr Nob w w' := by
  obtain ⟨A, c, rfl, _⟩ := h.form
  have hf : Fr Nob w (w.alloc (.cells #[.int .i64 15, .int .i64 n, .int .i64 m.a, .int .i64 m.b, .int .i64 m.c, .int .i64 m.d, .int .i64 m.e, .int .i64 m.f, .slice A l.length c, .int .i64 px, .int .i64 py] 76)) := (Fr.refl Nob w).alloc _
  have HF := Lib.hid hf
  have HR := Lib.hid (h.nob hf)
  have HB := Lib.hid (Blk.new w #[.int .i64 15, .int .i64 n, .int .i64 m.a, .int .i64 m.b, .int .i64 m.c, .int .i64 m.d, .int .i64 m.e, .int .i64 m.f, .slice A l.length c, .int .i64 px, .int .i64 py] 76)
  clear h hf
  rw [show noneE 15 = 0 by decide]
  unfold actV
  go_enter Tryd.func31, Tryd.ntmps31
  go_wp2_with fail
  refine (gunclip_none _).mono ?_
  rintro e w1 ⟨rfl, rfl⟩
  go_wp2_with fail
  go_ret
  exact ⟨rfl, HF.out⟩
theorem calln_0 (d : Int) (n : Int) (m : M6) (v : Value) (l : List Int) (px py : Int) (S : Nat → Prop) (w : World) (h : RowIn w S 1 v l.length (ints l)) (hl : l.length ≤ 100) (hd : d < 1 ∨ 16 < d) : Calls Tryd.prog 31 #[.pointer none, actV d n m v px py] w fun e w' => e = .returned (.int .i64 (noneE d)) ∧ Fr Nob w w' := by
  obtain ⟨A, c, rfl, _⟩ := h.form
  have HF := Lib.hid ((Fr.refl Nob w).alloc (.cells #[.int .i64 d, .int .i64 n, .int .i64 m.a, .int .i64 m.b, .int .i64 m.c, .int .i64 m.d, .int .i64 m.e, .int .i64 m.f, .slice A l.length c, .int .i64 px, .int .i64 py] 76))
  have n1 : ¬ d = 1 := by omega
  have n2 : ¬ d = 2 := by omega
  have n3 : ¬ d = 3 := by omega
  have n4 : ¬ d = 4 := by omega
  have n5 : ¬ d = 5 := by omega
  have n6 : ¬ d = 6 := by omega
  have n7 : ¬ d = 7 := by omega
  have n8 : ¬ d = 8 := by omega
  have n9 : ¬ d = 9 := by omega
  have n10 : ¬ d = 10 := by omega
  have n11 : ¬ d = 11 := by omega
  have n12 : ¬ d = 12 := by omega
  have n13 : ¬ d = 13 := by omega
  have n14 : ¬ d = 14 := by omega
  have n15 : ¬ d = 15 := by omega
  have n16 : ¬ d = 16 := by omega
  rw [show noneE d = 0 by unfold noneE; rw [if_neg (by omega)]]
  clear h hd
  unfold actV
  go_enter Tryd.func31, Tryd.ntmps31
  go_wp2_with fail
  go_ret
  exact ⟨rfl, HF.out⟩
theorem call_none (d : Int) (n : Int) (m : M6) (v : Value) (l : List Int) (px py : Int) (S : Nat → Prop) (w : World) (h : RowIn w S 1 v l.length (ints l)) (hl : l.length ≤ 100) (h16 : d ≠ 16) : Calls Tryd.prog 31 #[.pointer none, actV d n m v px py] w fun e w' => e = .returned (.int .i64 (noneE d)) ∧ Fr Nob w w' := by
  by_cases h0 : d < 1 ∨ 16 < d
  · exact calln_0 d n m v l px py S w h hl h0
  · have : d = 1 ∨ d = 2 ∨ d = 3 ∨ d = 4 ∨ d = 5 ∨ d = 6 ∨ d = 7 ∨ d = 8 ∨ d = 9 ∨ d = 10 ∨ d = 11 ∨ d = 12 ∨ d = 13 ∨ d = 14 ∨ d = 15 := by omega
    rcases this with rfl | rfl | rfl | rfl | rfl | rfl | rfl | rfl | rfl | rfl | rfl | rfl | rfl | rfl | rfl
    · exact calln_1 n m v l px py S w h hl
    · exact calln_2 n m v l px py S w h hl
    · exact calln_3 n m v l px py S w h hl
    · exact calln_4 n m v l px py S w h hl
    · exact calln_5 n m v l px py S w h hl
    · exact calln_6 n m v l px py S w h hl
    · exact calln_7 n m v l px py S w h hl
    · exact calln_8 n m v l px py S w h hl
    · exact calln_9 n m v l px py S w h hl
    · exact calln_10 n m v l px py S w h hl
    · exact calln_11 n m v l px py S w h hl
    · exact calln_12 n m v l px py S w h hl
    · exact calln_13 n m v l px py S w h hl
    · exact calln_14 n m v l px py S w h hl
    · exact calln_15 n m v l px py S w h hl
end Go.Proofs.YtkkejjfmidgciaaDoor
/- What the laws of chapter 14 are handed: numbers, matrices, calls. -/
namespace Go.Proofs.YtkkejjfmidgciaaDoor
open Go.RowKit
set_option linter.unusedVariables false
set_option linter.unusedSimpArgs false
theorem cellsM6 : Tryd.prog.cellsOf 33 = 6 := by kernel_rfl
theorem cellsInts : Tryd.prog.cellsOf 30 = 1 := by kernel_rfl
theorem cellsAct14 : Tryd.prog.cellsOf 76 = 11 := by kernel_rfl
theorem read_ints {H : Type} {enc' : TypeId × Value → H} {w : World} {base : Nat} {spare : Nat → Bool} {held : Bool} {fuel : Nat} {v : Value} {x : DataW H × List MemPlace}
    (h : DataW.trod enc' Tryd.prog w base spare held fuel 30 [v] = some x) : ∃ l : List Int, RowIn w (Lt w) 1 v l.length (ints l) := by
  obtain ⟨xs, h1, h2⟩ := read_slice Tryd.underlying30 1 (by kernel_rfl) (by omega) (fun (z : Int) cs => cs = [.int .i64 z]) (fun n cs y h => by
    obtain ⟨z, hz, _⟩ := DataW.trod_int Tryd.underlying3 h
    exact ⟨z, hz⟩) h
  have e : xs.flatMap (·.2) = ints (xs.map (·.1)) := by
    clear h1
    induction xs with
    | nil => rfl
    | cons a r ih =>
      rw [List.flatMap_cons, (h2 a (by simp)).1, ih fun y hy => h2 y (by simp [hy])]
      simp [ints]
  rw [e] at h1
  exact ⟨xs.map (·.1), by simpa using h1⟩
theorem list6 {cs : List Value} (h : cs.length = 6) : ∃ a b c d e f, cs = [a, b, c, d, e, f] := by
  match cs, h with
  | [a, b, c, d, e, f], _ => exact ⟨a, b, c, d, e, f, rfl⟩
theorem list11 {cs : List Value} (h : cs.length = 11) : ∃ a b c d e f g h i j k, cs = [a, b, c, d, e, f, g, h, i, j, k] := by
  match cs, h with
  | [a, b, c, d, e, f, g, h, i, j, k], _ => exact ⟨a, b, c, d, e, f, g, h, i, j, k, rfl⟩
theorem read_m6 {H : Type} {enc' : TypeId × Value → H} {w : World} {base : Nat} {spare : Nat → Bool} {held : Bool} {n : Nat} {cs : List Value} {y : DataW H × List MemPlace}
    (h : DataW.trod enc' Tryd.prog w base spare held n 33 cs = some y) : ∃ m : M6, cs = encM m := by
  obtain ⟨ys, k, rfl, _, hl, hy3, hel⟩ := DataW.trod_array Tryd.underlying33 h
  rw [cellsM6] at hl
  obtain ⟨c0, c1, c2, c3, c4, c5, rfl⟩ := list6 hl
  have ht : ∀ i (hi : i < 6), ∃ z : Int, (([c0, c1, c2, c3, c4, c5] : List Value).drop (i * 1)).take 1 = [.int .i64 z] := fun i hi => by
    have := hel i hi
    rw [cells3, List.getElem?_eq_getElem (by omega)] at this
    obtain ⟨z, hz, _⟩ := DataW.trod_int Tryd.underlying3 this
    exact ⟨z, hz⟩
  obtain ⟨a, ha⟩ := ht 0 (by omega)
  obtain ⟨b, hb⟩ := ht 1 (by omega)
  obtain ⟨c, hc⟩ := ht 2 (by omega)
  obtain ⟨d, hd⟩ := ht 3 (by omega)
  obtain ⟨e, he⟩ := ht 4 (by omega)
  obtain ⟨f, hf⟩ := ht 5 (by omega)
  simp at ha hb hc hd he hf
  exact ⟨⟨a, b, c, d, e, f⟩, by simp [encM, ha, hb, hc, hd, he, hf]⟩
structure Act14 where
  d : Int
  n : Int
  m : M6
  l : List Int
  px : Int
  py : Int
def encA (a : Act14) (v : Value) : List Value := [.int .i64 a.d, .int .i64 a.n, .int .i64 a.m.a, .int .i64 a.m.b, .int .i64 a.m.c, .int .i64 a.m.d, .int .i64 a.m.e, .int .i64 a.m.f, v, .int .i64 a.px, .int .i64 a.py]
theorem read_act14 {H : Type} {enc' : TypeId × Value → H} {w : World} {base : Nat} {spare : Nat → Bool} {held : Bool} (n : Nat) (cs : List Value) (y : DataW H × List MemPlace)
    (h : DataW.trod enc' Tryd.prog w base spare held n 76 cs = some y) : ∃ a : Act14 × Value, cs = encA a.1 a.2 ∧ RowIn w (Lt w) 1 a.2 a.1.l.length (ints a.1.l) := by
  obtain ⟨xs, n, _, rfl, hl, hlen, hf⟩ := DataW.trod_struct Tryd.underlying76 h
  rw [cellsAct14] at hl
  have hx : xs.length = 5 := hlen
  obtain ⟨z0, h0, _⟩ := field_int (hf 0 _ rfl) (by omega) Tryd.underlying3 cells3
  obtain ⟨z1, h1, _⟩ := field_int (hf 1 _ rfl) (by omega) Tryd.underlying3 cells3
  have h2 : DataW.trod enc' Tryd.prog w base spare held n 33 ((cs.drop 2).take (Tryd.prog.cellsOf 33)) = xs[2]? := hf 2 _ rfl
  have h3 : DataW.trod enc' Tryd.prog w base spare held n 30 ((cs.drop 8).take (Tryd.prog.cellsOf 30)) = xs[3]? := hf 3 _ rfl
  have h4 : DataW.trod enc' Tryd.prog w base spare held n 56 ((cs.drop 9).take (Tryd.prog.cellsOf 56)) = xs[4]? := hf 4 _ rfl
  rw [cellsM6] at h2
  rw [cellsInts] at h3
  rw [cells23] at h4
  obtain ⟨c0, c1, c2, c3, c4, c5, c6, c7, c8, c9, c10, rfl⟩ := list11 hl
  rw [List.getElem?_eq_getElem (by omega)] at h2 h3 h4
  obtain ⟨m, hm⟩ := read_m6 (cs := [c2, c3, c4, c5, c6, c7]) h2
  obtain ⟨l, hl1⟩ := read_ints (v := c8) h3
  obtain ⟨p, hp⟩ := read_pt _ [c9, c10] _ h4
  simp at h0 h1
  simp [encM] at hm
  simp [encP] at hp
  exact ⟨(⟨z0, z1, m, l, p.x, p.y⟩, c8), by simp [encA, h0, h1, hm, hp], hl1⟩
end Go.Proofs.YtkkejjfmidgciaaDoor
/- The walk of Restore. -/
namespace Go.Proofs.YtkkejjfmidgciaaDoor
open Go.RowKit
set_option linter.unusedVariables false
set_option linter.unusedSimpArgs false
/-- A saved level's cells. -/
theorem GsX.at {w : World} {g : Nat} {F : Nat → Prop} {s : GS} {lab : Nat → Nat} {x : LvG} {sv : Value} {xs : List (Lv × LvG)} (h : GsX w g F s lab x sv xs) (hn : 0 < xs.length) :
    ∃ b cap, sv = .slice (some ⟨b, 0, none⟩) xs.length cap ∧ xs.length ≤ cap ∧ cap ≤ 9223372036854775807 ∧ ∀ k (hk : k < xs.length), w.rangeAt b (k * 27) (encL xs[k].1 xs[k].2) := by
  rcases h.o.2 with ⟨_, h0⟩ | ⟨b, cap, cur, hv, hb, h1, h2, h3, h4⟩
  · omega
  · refine ⟨b, cap, hv, h1, h2, fun k hk => hb.range _ _ ?_⟩
    have e : cur.toList = (encLs xs) ++ cur.toList.drop (xs.length * 27) := by rw [← h4, List.take_append_drop]
    have hl := encLs_len xs
    have e2 : (cur.toList.drop (k * 27)).take 27 = encL xs[k].1 xs[k].2 := by
      rw [e, List.drop_append_of_le_length (by omega), List.take_append_of_le_length (by rw [List.length_drop]; omega)]
      exact encLs_at xs k hk
    exact e2
/-- The last level is the one that is. -/
theorem GsX.pop {w w' : World} {g : Nat} {F : Nat → Prop} {s : GS} {lab : Nat → Nat} {x : LvG} {sv : Value} {xs : List (Lv × LvG)} {m : Nat} (h : GsX w g F s lab x sv xs) (hm : xs.length = m + 1) (hf : Fr (fun k => k = g) w w')
    (hb : Blk w' g (encL (xs[m]'(by omega)).1 (xs[m]'(by omega)).2 ++ [.int .i64 s.most, .int .i64 s.segs, takeV sv m]).toArray 124) : GsTo w g F { s with cur := (xs[m]'(by omega)).1, saved := s.saved.take m } w' := by
  have hk0 : ∀ k, k = g → lab k = 1 := fun k e => e ▸ h.g1.2
  obtain ⟨ho, hob⟩ := h.o.takeV m (by omega)
  rw [encLs_take xs m (by omega)] at ho
  have hof : OwnS w' 121 27 (takeV sv m) m (encLs (xs.take m)) := ho.fr hf fun k hk e => ho.ne h.b (by decide) k hk e
  have hfl : ∀ i (hi : i < xs.length), LvIn w' (fun k => F k ∧ lab k = 0) (fun k => F k ∧ lab k = i + 3) xs[i].1 xs[i].2 := fun i hi =>
    (h.s i hi).fr hf (fun k hk e => by have := hk0 k e; have := hk.2; omega) fun k hk e => by have := hk0 k e; have := hk.2; omega
  refine ⟨⟨fun k => if lab k = m + 3 then 2 else if lab k = 2 then 0 else lab k, (xs[m]'(by omega)).2, takeV sv m, xs.take m, by simp [h.l], hb, ⟨.inl h.g1.1, ?_⟩, by rw [List.length_take, Nat.min_eq_left (by omega)]; exact hof, fun k hk => ?_, ?_, fun i hi => ?_⟩, hf.mono fun k hk => hk ▸ h.g1.1⟩
  · have := h.g1.2
    simp [this]
  · rw [hob] at hk
    have := h.o1 k hk
    exact ⟨.inl this.1, by simp [this.2]⟩
  · refine (hfl m (by omega)).mono (fun k hk => ⟨.inl hk.1, ?_⟩) fun k hk _ => ⟨.inl hk.1, ?_⟩
    · rw [if_neg (by omega), if_neg (by omega)]; exact hk.2
    · rw [if_pos hk.2]
  · rw [List.length_take] at hi
    have h1 := hfl i (by omega)
    simp only [List.getElem_take]
    refine h1.mono (fun k hk => ⟨.inl hk.1, ?_⟩) fun k hk _ => ⟨.inl hk.1, ?_⟩
    · rw [if_neg (by omega), if_neg (by omega)]; exact hk.2
    · rw [if_neg (by omega), if_neg (by omega)]; exact hk.2
def restF (s : GS) : GS := if h : 0 < s.saved.length then { s with cur := s.saved[s.saved.length - 1], saved := s.saved.take (s.saved.length - 1) } else s
set_option maxRecDepth 8000 in
set_option maxHeartbeats 1600000 in
theorem grestore_any (g : Nat) (F : Nat → Prop) (s : GS) (w : World) (h : Gs w g F s) (hb : s.saved.length ≤ 1000) :
    Calls Tryd.prog 37 #[.pointer (some ⟨g, 0, none⟩)] w fun e w' => e = .returned (.tuple #[]) ∧ GsTo w g F (restF s) w' := by
  have HD := Lib.hid (gdepth_any g F s w h)
  by_cases h0 : 0 < s.saved.length
  · obtain ⟨lab, x, sv, xs, h⟩ := h
    have hl := h.len
    obtain ⟨m, hm⟩ : ∃ m, xs.length = m + 1 := ⟨xs.length - 1, by omega⟩
    have hr : restF s = { s with cur := (xs[m]'(by omega)).1, saved := s.saved.take m } := by
      unfold restF
      rw [dif_pos h0]
      have e1 : s.saved.length - 1 = m := by omega
      have e2 : s.saved[m]'(by omega) = (xs[m]'(by omega)).1 := by simp [← h.l]
      simp only [e1, e2]
    rw [hr]
    obtain ⟨i0, hi, hz0, hz1, hz2⟩ := info_parts infoLevel
    obtain ⟨b, cap, hsv, hc1, hc2, hat⟩ := h.at (by omega)
    have HAT := Lib.hid (hat m (by omega))
    have HP := Lib.hid (fun w' hf hb => h.pop (w' := w') hm hf hb)
    obtain ⟨⟨Ad, cd, hdv, _⟩, Ac, cc, hcv, _⟩ := And.intro (h.s m (by omega)).g.d.form (h.s m (by omega)).g.c.form
    have HONE := Lib.hid (encL_one (xs[m]'(by omega)).1 (xs[m]'(by omega)).2 ⟨_, _, _, hdv⟩ ⟨_, _, _, hcv⟩)
    generalize (xs[m]'(by omega)).1 = lv at *
    generalize (xs[m]'(by omega)).2 = xv at *
    subst hsv
    have HB := Lib.hid h.cells
    have hne := h.ne
    have c29 := h.cells.cell 29
    simp only [List.getElem?_toArray, List.getElem?_cons_succ, List.getElem?_cons_zero] at c29
    rw [← hl] at HD hb
    clear h h0 hl hr hdv hcv hat hne
    generalize xs.length = n at *
    have e0 : (n : Int) - 1 = m := by omega
    have i1 : (m : Int) < n := by omega
    have i2 : (0 : Int) ≤ m := by omega
    have hmN := Lib.hid hm
    have hcm : m ≤ cap := by omega
    have wm : IntKind.i64.wrap (m : Int) = m := IntWalk.i64_in _ (by omega)
    have i3 : (0 : Int) < n := by omega
    have i4 : decide (0 < n) = true := by simp; omega
    clear hm
    go_enter Tryd.func37, Tryd.ntmps37
    go_wp2_with fail
    refine HD.out.mono ?_
    rintro e w1 ⟨rfl, rfl⟩
    go_wp2_with (first
      | (refine wpList_getAt rfl 121 (.tmp 14) rfl b (m * 27) (by rfl) (encL lv xv) _ HAT.out Tryd.underlying121 rfl sizeL ?_)
      | refine wpList_putAt rfl 121 (.tmp 17) (.tmp 15) rfl g 0 (encL lv xv) (by rfl) (by rfl) 124 _ HB.out (show 27 ≤ 30 by omega) sizeL HONE.out ?_)
    intro w2 hb2 hf2
    replace hb2 : Blk w2 g (encL lv xv ++ [Value.int .i64 s.most, Value.int .i64 s.segs, Value.slice (some ⟨b, 0, none⟩) n cap]).toArray 124 := hb2
    have d29 : w2.cell? ⟨g, 29, none⟩ = some (.slice (some ⟨b, 0, none⟩) n cap) := hb2.cell 29
    have q29 := hb2.free 29
    have HB2 := Lib.hid hb2
    have HF2 := Lib.hid hf2
    have kt : ∀ w : World, (Instr.slice 122 (.slice (some ⟨b, 0, none⟩) n cap) none (some (.int .i64 (m : Int))) none).run Tryd.prog w = .ok (.slice (some ⟨b, 0, none⟩) m cap) w := fun w => run_takeV Tryd.underlying122 hi _ n cap m (by omega) w
    clear hb2 hf2 c29
    go_wp2_with fail
    go_end0
    exact ⟨rfl, HP.out _ (HF2.out.setCell (p := ⟨g, 29, none⟩) (.inl rfl) _) (HB2.out.set 29 _)⟩
  · rw [show restF s = s by unfold restF; rw [dif_neg h0]]
    have e0 : s.saved.length = 0 := by omega
    rw [e0] at HD
    have HH := Lib.hid h
    clear h h0 e0 hb
    go_enter Tryd.func37, Tryd.ntmps37
    go_wp2_with fail
    refine HD.out.mono ?_
    rintro e w1 ⟨rfl, rfl⟩
    go_wp2_with fail
    go_end0
    exact ⟨rfl, GsTo.same HH.out (Fr.refl _ _)⟩
end Go.Proofs.YtkkejjfmidgciaaDoor
/- The walks of SetMatrix, SetFont, Unclip. -/
namespace Go.Proofs.YtkkejjfmidgciaaDoor
open Go.RowKit
set_option linter.unusedVariables false
set_option linter.unusedSimpArgs false
def m6L (m : M6) : List Int := [m.a, m.b, m.c, m.d, m.e, m.f]
theorem sizeM6 : (Tryd.prog.info? 33).map (·.size) = some 6 := by kernel_rfl
theorem encM_one (m : M6) : ∀ u ∈ encM m, u.oneCell' = true := by
  intro u hu
  simp only [encM, List.mem_cons, List.not_mem_nil, or_false] at hu
  rcases hu with rfl | rfl | rfl | rfl | rfl | rfl <;> rfl
theorem Blk.m6 {w : World} {g : Nat} {m : M6} {t : TypeId} (h : Blk w g (encM m).toArray t) : RowIn w (fun k => k = g) 1 (.slice (some ⟨g, 0, none⟩) 6 6) (m6L m).length (YtkkejjfmidgciaaDoor.ints (m6L m)) := h.row (n := 6) (size := 1) rfl (by decide)
/-- Lists anew: what is made since w0 is never written again. -/
theorem GsX.putN {w w1 w' : World} {g : Nat} {F : Nat → Prop} {s : GS} {lab : Nat → Nat} {x : LvG} {sv : Value} {xs : List (Lv × LvG)} (h : GsX w g F s lab x sv xs) (hN : Fr Nob w w1) (hf : Fr (fun k => k = g) w1 w') (st : Gst) (dv cv : Value)
    (hG : GIn w1 (fun k => (F k ∧ lab k = 0) ∨ w.heap.size ≤ k) dv cv st)
    (hb : Blk w' g #[.int .i64 st.ctm.a, .int .i64 st.ctm.b, .int .i64 st.ctm.c, .int .i64 st.ctm.d, .int .i64 st.ctm.e, .int .i64 st.ctm.f, .int .i64 st.col.sp, .int .i64 st.col.p0, .int .i64 st.col.p1, .int .i64 st.col.p2, .int .i64 st.col.p3, .int .i64 st.width, .int .i64 st.cap, .int .i64 st.join, .int .i64 st.miter, dv, .int .i64 st.phase, .int .i64 st.font, .int .i64 st.fm.a, .int .i64 st.fm.b, .int .i64 st.fm.c, .int .i64 st.fm.d, .int .i64 st.fm.e, .int .i64 st.fm.f, cv, .bool st.dark, .pointer (some ⟨x.pg, 0, none⟩), .int .i64 s.most, .int .i64 s.segs, sv] 124) : GsTo w g F { s with cur := { s.cur with st := st } } w' := by
  have hF : Fr F w w' := (hN.mono (T := F) fun _ hh => hh.elim).trans hf fun k hk => .inl (hk ▸ h.g1.1)
  have h2 := h.lab (F' := Ext F w w') (fun k => if k < w.heap.size then lab k else 0) (fun k hk _ => .inl hk) fun k hk => by simp [hk]
  have h3 := h2.nob hN fun _ _ hh => hh
  have hz := hf.size
  refine ⟨⟨_, _, sv, xs, h3.upd st dv cv hb hf (((hG.lts).fr hf fun k hk e => ?_).mono fun k hk => ?_)⟩, hF⟩
  · subst e
    rcases hk.1 with hk | hk
    · have := h.g1.2; omega
    · have := h.b.lt; omega
  · by_cases hkw : k < w.heap.size
    · rcases hk.1 with h1 | h1
      · exact ⟨.inl h1.1, by simp only [hkw, if_true]; exact h1.2⟩
      · omega
    · exact ⟨.inr ⟨by omega, Nat.lt_of_lt_of_le hk.2 hz⟩, by simp only [hkw, if_false]⟩
def matrixF (m : M6) (st : Gst) : Int × Gst := if (m6L m).all fitZ then (0, { st with ctm := m }) else (11, st)
theorem chkI_no {l : List Int} (h : ¬ l.all fitZ = true) : chkI l = 11 := by unfold chkI; rw [if_neg h]
theorem chkI_ok {l : List Int} (h : l.all fitZ = true) : chkI l = 0 := by unfold chkI; rw [if_pos h]
theorem gmatrix_any (g : Nat) (F : Nat → Prop) (s : GS) (m : M6) (w : World) (h : Gs w g F s) :
    Calls Tryd.prog 61 #[.pointer (some ⟨g, 0, none⟩), mV m] w fun e w' => e = .returned (.int .i64 (matrixF m s.cur.st).1) ∧ GsTo w g F { s with cur := { s.cur with st := (matrixF m s.cur.st).2 } } w' := by
  have hf : Fr Nob w (w.alloc (.cells (encM m).toArray 33)) := (Fr.refl Nob w).alloc _
  have HI := Lib.hid (check_any ⟨g, 0, none⟩ (m6L m) _ _ (w.alloc (.cells (encM m).toArray 33)) (Blk.new w (encM m).toArray 33).m6)
  have HF := Lib.hid hf
  unfold matrixF mV
  by_cases h1 : (m6L m).all fitZ = true
  · rw [if_pos h1]
    rw [chkI_ok h1] at HI
    obtain ⟨lab, x, sv, xs, h⟩ := h
    have HB := Lib.hid (h.cells.nob hf)
    have HM := Lib.hid (Blk.new w (encM m).toArray 33)
    have HH := Lib.hid h
    clear h h1 hf
    go_enter Tryd.func61, Tryd.ntmps61
    go_wp2_with fail
    refine HI.out.mono ?_
    rintro e w1 ⟨rfl, rfl⟩
    generalize w.alloc (.cells (encM m).toArray 33) = wa at *
    go_wp2_with (first
      | (refine wpList_getAt rfl 33 (.tmp 3) rfl w.heap.size 0 (by rfl) (encM m) _ (HM.out.range 0 _ (by rfl)) Tryd.underlying33 rfl sizeM6 ?_)
      | (refine wpList_putAt rfl 33 (.tmp 16) (.tmp 12) rfl g 0 (encM m) (by rfl) (by rfl) 124 _ HB.out (show 6 ≤ 30 by omega) sizeM6 (encM_one m) ?_))
    intro w2 hb2 hf2
    have HB2 := Lib.hid hb2
    have HF2 := Lib.hid hf2
    clear hb2 hf2
    go_wp2_with fail
    go_ret
    exact ⟨rfl, HH.out.put HF.out HF2.out { s.cur.st with ctm := m } rfl rfl HB2.out⟩
  · rw [if_neg h1]
    rw [chkI_no h1] at HI
    have HH := Lib.hid h
    clear h h1 hf
    go_enter Tryd.func61, Tryd.ntmps61
    go_wp2_with fail
    refine HI.out.mono ?_
    rintro e w1 ⟨rfl, rfl⟩
    go_wp2_with fail
    go_ret
    exact ⟨rfl, GsTo.same HH.out HF.out⟩
theorem names_ne (n : Nat) (h : n < 14) : (nameS n).toList.isEmpty = false := by
  have hall : (List.range 14).all (fun n => !(nameS n).toList.isEmpty) = true := by decide +kernel
  simpa using List.all_eq_true.1 hall n (by simpa using h)
def fontF (i : Int) (m : M6) (st : Gst) : Int × Gst := if (m6L m).all fitZ then (if 0 ≤ i ∧ i < 14 then (0, { st with font := i, fm := m }) else (7, st)) else (11, st)
theorem gfont_any (g : Nat) (F : Nat → Prop) (s : GS) (i : Int) (m : M6) (w : World) (h : Gs w g F s) (hN : NamesIn w) :
    Calls Tryd.prog 60 #[.pointer (some ⟨g, 0, none⟩), .int .i64 i, mV m] w fun e w' => e = .returned (.int .i64 (fontF i m s.cur.st).1) ∧ GsTo w g F { s with cur := { s.cur with st := (fontF i m s.cur.st).2 } } w' := by
  have hf : Fr Nob w (w.alloc (.cells (encM m).toArray 33)) := (Fr.refl Nob w).alloc _
  have HI := Lib.hid (check_any ⟨g, 0, none⟩ (m6L m) _ _ (w.alloc (.cells (encM m).toArray 33)) (Blk.new w (encM m).toArray 33).m6)
  have HF := Lib.hid hf
  have HNM := Lib.hid (name_any i _ (hN.nob hf))
  clear hN
  unfold fontF mV
  by_cases h1 : (m6L m).all fitZ = true
  · rw [if_pos h1]
    rw [chkI_ok h1] at HI
    by_cases h2 : 0 ≤ i ∧ i < 14
    · rw [if_pos h2]
      obtain ⟨n, rfl⟩ : ∃ n : Nat, i = n := ⟨i.toNat, by omega⟩
      have hne := names_ne n (by omega)
      rw [show nameF (n : Int) = nameS n by simp only [nameF]; rw [if_neg (by omega)]; rfl] at HNM
      generalize nameS n = nm at *
      have hne2 : (!nm.toList.isEmpty) = true := by simp [hne]
      obtain ⟨lab, x, sv, xs, h⟩ := h
      have hB := h.cells.nob hf
      have c17 := hB.cell 17
      have q17 := hB.free 17
      simp only [List.getElem?_toArray, List.getElem?_cons_succ, List.getElem?_cons_zero] at c17
      have hgw : g ≠ w.heap.size := by have := h.b.lt; omega
      have HB := Lib.hid (hB.set 17 (.int .i64 (n : Int)))
      have HM0 := Lib.hid (Blk.new w (encM m).toArray 33)
      have HM := Lib.hid ((Blk.new w (encM m).toArray 33).far (p := ⟨g, 17, none⟩) (fun e => hgw e.symm) (.int .i64 (n : Int)))
      have HFS := Lib.hid ((Fr.refl (fun k => k = g) (w.alloc (.cells (encM m).toArray 33))).setCell (p := ⟨g, 17, none⟩) (.inl rfl) (.int .i64 (n : Int)))
      have HH := Lib.hid h
      clear h h1 h2 hf hB
      go_enter Tryd.func60, Tryd.ntmps60
      go_wp2_with fail
      refine HI.out.mono ?_
      rintro e w1 ⟨rfl, rfl⟩
      generalize w.alloc (.cells (encM m).toArray 33) = wa at *
      go_wp2_with fail
      refine HNM.out.mono ?_
      rintro e w1 ⟨rfl, rfl⟩
      go_wp2_with (first
        | (refine wpList_getAt rfl 33 (.tmp 5) rfl w.heap.size 0 (by rfl) (encM m) _ (HM0.out.range 0 _ (by rfl)) Tryd.underlying33 rfl sizeM6 ?_)
        | (refine wpList_putAt rfl 33 (.tmp 28) (.tmp 20) rfl g 18 (encM m) (by rfl) (by rfl) 124 _ HB.out (show 24 ≤ 30 by omega) sizeM6 (encM_one m) ?_))
      intro w2 hb2 hf2
      have HB2 := Lib.hid hb2
      have HF2 := Lib.hid (HFS.out.trans hf2 fun k hk => .inl hk)
      clear hb2 hf2
      go_wp2_with fail
      go_ret
      exact ⟨rfl, HH.out.put HF.out HF2.out { s.cur.st with font := n, fm := m } rfl rfl HB2.out⟩
    · rw [if_neg h2]
      rw [show nameF i = ⟨#[]⟩ by unfold nameF; rw [if_pos (by omega)]] at HNM
      have HH := Lib.hid h
      clear h h1 h2 hf
      go_enter Tryd.func60, Tryd.ntmps60
      go_wp2_with fail
      refine HI.out.mono ?_
      rintro e w1 ⟨rfl, rfl⟩
      go_wp2_with fail
      refine HNM.out.mono ?_
      rintro e w1 ⟨rfl, rfl⟩
      go_wp2_with fail
      go_ret
      exact ⟨rfl, GsTo.same HH.out HF.out⟩
  · rw [if_neg h1]
    rw [chkI_no h1] at HI
    have HH := Lib.hid h
    clear h h1 hf
    go_enter Tryd.func60, Tryd.ntmps60
    go_wp2_with fail
    refine HI.out.mono ?_
    rintro e w1 ⟨rfl, rfl⟩
    go_wp2_with fail
    go_ret
    exact ⟨rfl, GsTo.same HH.out HF.out⟩
theorem gunclip_any (g : Nat) (F : Nat → Prop) (s : GS) (w : World) (h : Gs w g F s) :
    Calls Tryd.prog 80 #[.pointer (some ⟨g, 0, none⟩)] w fun e w' => e = .returned (.tuple #[]) ∧ GsTo w g F { s with cur := { s.cur with st := { s.cur.st with clips := [], dark := false } } } w' := by
  obtain ⟨lab, x, sv, xs, h⟩ := h
  have hB := h.cells
  have c24 := hB.cell 24
  have q24 := hB.free 24
  have c25 := hB.cell 25
  have q25 := hB.free 25
  simp only [List.getElem?_toArray, List.getElem?_cons_succ, List.getElem?_cons_zero] at c24 c25
  have HH := Lib.hid h
  obtain ⟨A, c, hcv, _⟩ := h.c.g.c.form
  clear h hB
  go_enter Tryd.func80, Tryd.ntmps80
  go_wp2_with fail
  go_end0
  exact ⟨rfl, HH.out.putN (Fr.refl _ _) (((Fr.refl (fun k => k = g) _).setCell (p := ⟨g, 24, none⟩) (.inl rfl) _).setCell (p := ⟨g, 25, none⟩) (.inl rfl) _) { s.cur.st with clips := [], dark := false } x.dv (.slice none 0 0) ⟨HH.out.c.g.d.mono fun k hk => .inl hk, Clps.nil _ _⟩ ((HH.out.cells.set 24 _).set 25 _)⟩
end Go.Proofs.YtkkejjfmidgciaaDoor
/- The walk of SetColor. -/
namespace Go.Proofs.YtkkejjfmidgciaaDoor
open Go.RowKit
set_option linter.unusedVariables false
set_option linter.unusedSimpArgs false
def clampC (x : Int) : Int := if 65536 < (if x < 0 then 0 else x) then 65536 else if x < 0 then 0 else x
def partC (l : List Int) (k : Nat) : Int := match l[k]? with
  | some x => clampC x
  | none => 0
def colOf (l : List Int) : Col := ⟨l.length, partC l 0, partC l 1, partC l 2, partC l 3⟩
def colorF (l : List Int) (st : Gst) : Int × Gst := if l.all fitZ then (if l.length = 1 ∨ l.length = 3 ∨ l.length = 4 then (0, { st with col := colOf l }) else (11, st)) else (11, st)
theorem partC_in {l : List Int} {k : Nat} (h : k < l.length) : partC l k = clampC l[k] := by simp [partC, h]
theorem partC_out {l : List Int} {k : Nat} (h : l.length ≤ k) : partC l k = 0 := by simp [partC, h]
def upC (l : List Int) (k j : Nat) : Int := if j < k then partC l j else 0
theorem upC_all {l : List Int} {k j : Nat} (h : l.length ≤ k) : upC l k j = partC l j := by
  unfold upC
  by_cases hj : j < k
  · rw [if_pos hj]
  · rw [if_neg hj, partC_out (by omega)]
theorem sizeCol : (Tryd.prog.info? 28).map (·.size) = some 5 := by kernel_rfl
def encC (c : Col) : List Value := [.int .i64 c.sp, .int .i64 c.p0, .int .i64 c.p1, .int .i64 c.p2, .int .i64 c.p3]
theorem encC_one (m : Col) : ∀ u ∈ encC m, u.oneCell' = true := by
  intro u hu
  simp only [encC, List.mem_cons, List.not_mem_nil, or_false] at hu
  rcases hu with rfl | rfl | rfl | rfl | rfl <;> rfl
def colA (l : List Int) (k : Nat) : Array Value := #[.int .i64 l.length, .int .i64 (upC l k 0), .int .i64 (upC l k 1), .int .i64 (upC l k 2), .int .i64 (upC l k 3)]
theorem Blk.col0 {w : World} {b : Nat} {l : List Int} {x : Int} {t : TypeId} (h : Blk w b (colA l 0) t) (hx : partC l 0 = clampC x) : Blk (w.setCell ⟨b, 1, none⟩ (.int .i64 (clampC x))) b (colA l 1) t := by
  have := h.set 1 (.int .i64 (clampC x))
  rw [← hx] at this ⊢
  exact this
theorem Blk.col1 {w : World} {b : Nat} {l : List Int} {x : Int} {t : TypeId} (h : Blk w b (colA l 1) t) (hx : partC l 1 = clampC x) : Blk (w.setCell ⟨b, 2, none⟩ (.int .i64 (clampC x))) b (colA l 2) t := by
  have := h.set 2 (.int .i64 (clampC x))
  rw [← hx] at this ⊢
  exact this
theorem Blk.col2 {w : World} {b : Nat} {l : List Int} {x : Int} {t : TypeId} (h : Blk w b (colA l 2) t) (hx : partC l 2 = clampC x) : Blk (w.setCell ⟨b, 3, none⟩ (.int .i64 (clampC x))) b (colA l 3) t := by
  have := h.set 3 (.int .i64 (clampC x))
  rw [← hx] at this ⊢
  exact this
theorem Blk.col3 {w : World} {b : Nat} {l : List Int} {x : Int} {t : TypeId} (h : Blk w b (colA l 3) t) (hx : partC l 3 = clampC x) : Blk (w.setCell ⟨b, 4, none⟩ (.int .i64 (clampC x))) b (colA l 4) t := by
  have := h.set 4 (.int .i64 (clampC x))
  rw [← hx] at this ⊢
  exact this
set_option maxHeartbeats 1600000 in
theorem gcolor_in (g : Nat) (F : Nat → Prop) (s : GS) (v : Value) (l : List Int) (S : Nat → Prop) (w : World) (h : Gs w g F s) (hr : RowIn w S 1 v l.length (ints l)) (h1 : l.all fitZ = true) (h2 : l.length = 1 ∨ l.length = 3 ∨ l.length = 4) :
    Calls Tryd.prog 75 #[.pointer (some ⟨g, 0, none⟩), v] w fun e w' => e = .returned (.int .i64 0) ∧ GsTo w g F { s with cur := { s.cur with st := { s.cur.st with col := colOf l } } } w' := by
  have HI := Lib.hid (check_any ⟨g, 0, none⟩ l v S w hr)
  rw [chkI_ok h1] at HI
  obtain ⟨b, off, cap, rfl, hc1, hc2, _, hA⟩ := hr.int (by omega)
  have HA := Lib.hid hA
  have HL := Lib.hid h2
  have HH := Lib.hid h
  have hn0 : 0 < l.length := by omega
  have hn4 : l.length ≤ 4 := by omega
  have HC0 := Lib.hid (show Blk (w.alloc (.cells #[.int .i64 l.length, .int .i64 0, .int .i64 0, .int .i64 0, .int .i64 0] 28)) w.heap.size (colA l 0) 28 from Blk.new w _ _)
  have HF0 := Lib.hid ((Fr.refl Nob w).alloc (.cells #[.int .i64 l.length, .int .i64 0, .int .i64 0, .int .i64 0, .int .i64 0] 28))
  have g1 : ((l.length : Int) != 1) = true ∧ ((l.length : Int) != 3) = false ∨ ((l.length : Int) != 1) = true ∧ ((l.length : Int) != 3) = true ∧ ((l.length : Int) != 4) = false ∨ ((l.length : Int) != 1) = false := by
    rcases h2 with e | e | e <;> simp [e]
  clear hr h h1 h2 hA
  rcases g1 with ⟨ga, gb⟩ | ⟨ga, gb, gc⟩ | ga
  all_goals
    go_enter Tryd.func75, Tryd.ntmps75
    go_wp2_with fail
    refine HI.out.mono ?_
    rintro e w1 ⟨rfl, rfl⟩
    go_upto_region 8 with (fail)
    generalize w.alloc (.cells #[.int .i64 l.length, .int .i64 0, .int .i64 0, .int .i64 0, .int .i64 0] 28) = wa at *
    go_wp2_with fail
    go_loopw [32] (fun q wr => ∃ k : Nat, k ≤ l.length ∧ q = .int .i64 k ∧ Hid (Blk wr w.heap.size (colA l k) 28) ∧ Hid (Fr Nob w wr)) (fun q _ => l.length - (intOf q).toNat)
    case atStart => exact ⟨0, by omega, rfl, HC0.out, HF0.out⟩
    case round =>
      obtain ⟨k, hk, rfl, HC, HF⟩ := hrel
      by_cases hlt : k < l.length
      · have a0 := cell_nob (HA.out k hlt) HF.out
        have i1 : (k : Int) < l.length := by omega
        have hpart := Lib.hid (partC_in hlt)
        generalize l[k] = x at *
        have h4 : k = 0 ∨ k = 1 ∨ k = 2 ∨ k = 3 := by omega
        rcases h4 with ek | ek | ek | ek
        · have ei : (k : Int) = 0 := by omega
          have HLT := Lib.hid hlt
          rw [ek] at a0 hpart HC
          rw [Nat.add_zero] at a0
          have i1 : (0 : Int) < l.length := by omega
          have ml : l.length - 1 < l.length - 0 := by omega
          have ll : 1 ≤ l.length := by omega
          clear ek hlt hk
          have k1 : wr.cell? ⟨w.heap.size, 1, none⟩ = some (.int .i64 (upC l 0 0)) := HC.out.cell 1
          have q1 := HC.out.free 1
          go_wp2_with fail
          go_roundw
          case rel => exact ⟨1, ll, rfl, HC.out.col0 hpart.out, HF.out.setCell (.inr (Nat.le_refl _)) _⟩
          case measure => simpa [intOf, ei] using ml
        · have ei : (k : Int) = 1 := by omega
          have HLT := Lib.hid hlt
          rw [ek] at a0 hpart HC
          skip
          have i1 : (1 : Int) < l.length := by omega
          have ml : l.length - 2 < l.length - 1 := by omega
          have ll : 2 ≤ l.length := by omega
          clear ek hlt hk
          have k1 : wr.cell? ⟨w.heap.size, 2, none⟩ = some (.int .i64 (upC l 1 1)) := HC.out.cell 2
          have q1 := HC.out.free 2
          go_wp2_with fail
          go_roundw
          case rel => exact ⟨2, ll, rfl, HC.out.col1 hpart.out, HF.out.setCell (.inr (Nat.le_refl _)) _⟩
          case measure => simpa [intOf, ei] using ml
        · have ei : (k : Int) = 2 := by omega
          have HLT := Lib.hid hlt
          rw [ek] at a0 hpart HC
          skip
          have i1 : (2 : Int) < l.length := by omega
          have ml : l.length - 3 < l.length - 2 := by omega
          have ll : 3 ≤ l.length := by omega
          clear ek hlt hk
          have k1 : wr.cell? ⟨w.heap.size, 3, none⟩ = some (.int .i64 (upC l 2 2)) := HC.out.cell 3
          have q1 := HC.out.free 3
          go_wp2_with fail
          go_roundw
          case rel => exact ⟨3, ll, rfl, HC.out.col2 hpart.out, HF.out.setCell (.inr (Nat.le_refl _)) _⟩
          case measure => simpa [intOf, ei] using ml
        · have ei : (k : Int) = 3 := by omega
          have HLT := Lib.hid hlt
          rw [ek] at a0 hpart HC
          skip
          have i1 : (3 : Int) < l.length := by omega
          have ml : l.length - 4 < l.length - 3 := by omega
          have ll : 4 ≤ l.length := by omega
          clear ek hlt hk
          have k1 : wr.cell? ⟨w.heap.size, 4, none⟩ = some (.int .i64 (upC l 3 3)) := HC.out.cell 4
          have q1 := HC.out.free 4
          go_wp2_with fail
          go_roundw
          case rel => exact ⟨4, ll, rfl, HC.out.col3 hpart.out, HF.out.setCell (.inr (Nat.le_refl _)) _⟩
          case measure => simpa [intOf, ei] using ml
      · have hge : l.length ≤ k := by omega
        have HCE := Lib.hid (show Blk wr w.heap.size (encC (colOf l)).toArray 28 from by
          have := HC.out
          unfold colA at this
          rw [upC_all hge, upC_all hge, upC_all hge, upC_all hge] at this
          exact this)
        obtain ⟨lab, x, sv, xs, h⟩ := HH.out
        have HB := Lib.hid (h.cells.nob HF.out)
        have HX := Lib.hid h
        clear h
        have ge : ¬ (k : Int) < l.length := by omega
        go_wp2_with (first
          | (refine wpList_getAt rfl 28 (.tmp 7) rfl w.heap.size 0 (by rfl) (encC (colOf l)) _ (HCE.out.range 0 _ (by rfl)) Tryd.underlying28 rfl sizeCol ?_)
          | (refine wpList_putAt rfl 28 (.tmp 49) (.tmp 45) rfl g 6 (encC (colOf l)) (by rfl) (by rfl) 124 _ HB.out (show 11 ≤ 30 by omega) sizeCol (encC_one _) ?_))
        intro w2 hb2 hf2
        have HB2 := Lib.hid hb2
        have HF2 := Lib.hid hf2
        clear hb2 hf2
        go_wp2_with fail
        go_ret
        exact ⟨rfl, HX.out.put HF.out HF2.out { s.cur.st with col := colOf l } rfl rfl HB2.out⟩
theorem gcolor_any (g : Nat) (F : Nat → Prop) (s : GS) (v : Value) (l : List Int) (S : Nat → Prop) (w : World) (h : Gs w g F s) (hr : RowIn w S 1 v l.length (ints l)) :
    Calls Tryd.prog 75 #[.pointer (some ⟨g, 0, none⟩), v] w fun e w' => e = .returned (.int .i64 (colorF l s.cur.st).1) ∧ GsTo w g F { s with cur := { s.cur with st := (colorF l s.cur.st).2 } } w' := by
  unfold colorF
  by_cases h1 : l.all fitZ = true
  · rw [if_pos h1]
    by_cases h2 : l.length = 1 ∨ l.length = 3 ∨ l.length = 4
    · rw [if_pos h2]
      exact gcolor_in g F s v l S w h hr h1 h2
    · rw [if_neg h2]
      have HI := Lib.hid (check_any ⟨g, 0, none⟩ l v S w hr)
      rw [chkI_ok h1] at HI
      obtain ⟨A, cap, rfl, _⟩ := hr.form
      have HH := Lib.hid h
      have g1 : ((l.length : Int) != 1) = true := by simp; omega
      have g2 : ((l.length : Int) != 3) = true := by simp; omega
      have g3 : ((l.length : Int) != 4) = true := by simp; omega
      clear h h1 h2 hr
      go_enter Tryd.func75, Tryd.ntmps75
      go_wp2_with fail
      refine HI.out.mono ?_
      rintro e w1 ⟨rfl, rfl⟩
      go_wp2_with fail
      go_ret
      exact ⟨rfl, GsTo.same HH.out (Fr.refl _ _)⟩
  · rw [if_neg h1]
    have HI := Lib.hid (check_any ⟨g, 0, none⟩ l v S w hr)
    rw [chkI_no h1] at HI
    obtain ⟨A, cap, rfl, _⟩ := hr.form
    have HH := Lib.hid h
    clear h h1 hr
    go_enter Tryd.func75, Tryd.ntmps75
    go_wp2_with fail
    refine HI.out.mono ?_
    rintro e w1 ⟨rfl, rfl⟩
    go_wp2_with fail
    go_ret
    exact ⟨rfl, GsTo.same HH.out (Fr.refl _ _)⟩
end Go.Proofs.YtkkejjfmidgciaaDoor
/- The walk of SetDash. -/
namespace Go.Proofs.YtkkejjfmidgciaaDoor
open Go.RowKit
set_option linter.unusedVariables false
set_option linter.unusedSimpArgs false
def posI (n : Int) : Int := if n < 0 then 0 else n
def sumK (l : List Int) (k : Nat) : Int := ((l.take k).map posI).sum
theorem sumK_succ {l : List Int} {k : Nat} (h : k < l.length) : sumK l (k + 1) = sumK l k + posI l[k] := by
  unfold sumK
  rw [List.take_succ_eq_append_getElem h, List.map_append, List.sum_append]
  simp
theorem sumK_zero (l : List Int) : sumK l 0 = 0 := by simp [sumK]
theorem fitZ_le {n : Int} (h : fitZ n = true) : -2147483648 ≤ n ∧ n ≤ 2147483647 := by simpa [fitZ] using h
theorem sumK_le {l : List Int} (h : l.all fitZ = true) (k : Nat) (hk : k ≤ l.length) : 0 ≤ sumK l k ∧ sumK l k ≤ 2147483647 * k := by
  induction k with
  | zero => rw [sumK_zero]; omega
  | succ k ih =>
    have h1 := ih (by omega)
    rw [sumK_succ (by omega)]
    have h2 := fitZ_le (List.all_eq_true.1 h _ (List.getElem_mem (show k < l.length by omega)))
    unfold posI
    split <;> omega
def dashF (l : List Int) (ph : Int) (st : Gst) : Int × Gst :=
  if (ph :: l).all fitZ then (if 11 < l.length then (9, st) else if ph < 0 ∨ l.any (fun n => decide (n < 0)) = true ∨ (0 < l.length ∧ sumK l l.length = 0) then (11, st) else (0, { st with dash := l, phase := ph })) else (11, st)
theorem wrap_sum {l : List Int} {k : Nat} (h : l.all fitZ = true) (hl : l.length ≤ 1000) (hk : k < l.length) : IntKind.i64.wrap (sumK l k + (if l[k] < 0 then 0 else l[k])) = sumK l (k + 1) := by
  have h1 := sumK_le h (k + 1) (by omega)
  rw [sumK_succ hk] at h1 ⊢
  exact IntWalk.i64_in _ (by unfold posI at h1; omega)
set_option maxRecDepth 8000 in
set_option maxHeartbeats 1600000 in
theorem gdash_no (g : Nat) (F : Nat → Prop) (s : GS) (v : Value) (l : List Int) (ph : Int) (S : Nat → Prop) (w : World) (h : Gs w g F s) (hr : RowIn w S 1 v l.length (ints l)) (hl : l.length ≤ 1000) (h1 : ¬ (ph :: l).all fitZ = true) :
    Calls Tryd.prog 76 #[.pointer (some ⟨g, 0, none⟩), v, .int .i64 ph] w fun e w' => e = .returned (.int .i64 11) ∧ GsTo w g F s w' := by
  obtain ⟨i0, hi, hz0, hz1, hz2⟩ := info_parts infoInt
  obtain ⟨A, cap, rfl, hc1, hc2⟩ := hr.form
  unfold maxLen at hc2
  have hf : Fr Nob w (w.alloc (.cells #[.int .i64 ph] 3)) := (Fr.refl Nob w).alloc _
  have HR := Lib.hid (hr.nob hf)
  have HR0 := Lib.hid hr
  have HO := Lib.hid (OwnS.one w ph)
  have HF := Lib.hid hf
  have HH := Lib.hid h
  have HFIT := Lib.hid h1
  clear h hr hf h1
  go_enter Tryd.func76, Tryd.ntmps76
  go_wp2_with (at_builtin; refine wpList_app _ rfl _ _ 30 rfl 3 i0 _ 1 8 Tryd.underlying30 hi hz0 hz1 hz2 rfl (by decide) _ 1 (ints [ph]) rfl HO.out S _ l.length (ints l) rfl HR.out (ints_one l) (by unfold maxLen; omega) (by omega) ?_)
  intro v' w1 hown hfr hat
  have HF1 := Lib.hid (HF.out.trans hfr fun k hk => .inr (by simp [inB, Value.ownBlock] at hk; omega))
  have HRN := Lib.hid (show RowIn w1 (inB v') 1 v' (ph :: l).length (ints (ph :: l)) from (show 1 + l.length = (ph :: l).length by simp [Nat.add_comm]) ▸ hown.row)
  obtain ⟨A1, c1, rfl, _⟩ := hown.form
  have HI := Lib.hid (check_any ⟨g, 0, none⟩ (ph :: l) _ _ w1 HRN.out)
  rw [chkI_no HFIT.out] at HI
  clear hown hfr hat
  go_wp2_with fail
  refine HI.out.mono ?_
  rintro e w2 ⟨rfl, rfl⟩
  go_wp2_with fail
  go_ret
  exact ⟨rfl, GsTo.same HH.out HF1.out⟩
set_option maxRecDepth 8000 in
set_option maxHeartbeats 1600000 in
theorem gdash_long (g : Nat) (F : Nat → Prop) (s : GS) (v : Value) (l : List Int) (ph : Int) (S : Nat → Prop) (w : World) (h : Gs w g F s) (hr : RowIn w S 1 v l.length (ints l)) (hl : l.length ≤ 1000) (hpos : 0 < l.length) (h1 : (ph :: l).all fitZ = true) (h2 : 11 < l.length) :
    Calls Tryd.prog 76 #[.pointer (some ⟨g, 0, none⟩), v, .int .i64 ph] w fun e w' => e = .returned (.int .i64 9) ∧ GsTo w g F s w' := by
  have i2 : (11 : Int) < l.length := by omega
  obtain ⟨i0, hi, hz0, hz1, hz2⟩ := info_parts infoInt
  obtain ⟨b, off, cap, rfl, hc1, hc2, _, hA⟩ := hr.int hpos
  have HA := Lib.hid hA
  have hf : Fr Nob w (w.alloc (.cells #[.int .i64 ph] 3)) := (Fr.refl Nob w).alloc _
  have HR := Lib.hid (hr.nob hf)
  have HR0 := Lib.hid hr
  have HO := Lib.hid (OwnS.one w ph)
  have HF := Lib.hid hf
  have HH := Lib.hid h
  have HFIT := Lib.hid h1
  clear h hr hf h1 hA
  go_enter Tryd.func76, Tryd.ntmps76
  go_wp2_with (at_builtin; refine wpList_app _ rfl _ _ 30 rfl 3 i0 _ 1 8 Tryd.underlying30 hi hz0 hz1 hz2 rfl (by decide) _ 1 (ints [ph]) rfl HO.out S _ l.length (ints l) rfl HR.out (ints_one l) (by unfold maxLen; omega) (by omega) ?_)
  intro v' w1 hown hfr hat
  have HF1 := Lib.hid (HF.out.trans hfr fun k hk => .inr (by simp [inB, Value.ownBlock] at hk; omega))
  have HRN := Lib.hid (show RowIn w1 (inB v') 1 v' (ph :: l).length (ints (ph :: l)) from (show 1 + l.length = (ph :: l).length by simp [Nat.add_comm]) ▸ hown.row)
  obtain ⟨A1, c1, rfl, _⟩ := hown.form
  have HI := Lib.hid (check_any ⟨g, 0, none⟩ (ph :: l) _ _ w1 HRN.out)
  rw [chkI_ok HFIT.out] at HI
  clear hown hfr hat
  go_wp2_with fail
  refine HI.out.mono ?_
  rintro e w2 ⟨rfl, rfl⟩
  have HA1 := Lib.hid (fun k hk => cell_nob (HA.out k hk) HF1.out)
  have HFL := Lib.hid (show l.all fitZ = true by have := HFIT.out; simp only [List.all_cons, Bool.and_eq_true] at this; exact this.2)
  go_wp2_with fail
  go_loopw [8, 22] (fun sm q wr => ∃ k : Nat, k ≤ l.length ∧ q = .int .i64 k ∧ sm = .int .i64 (sumK l k) ∧ wr = w1) (fun _ q _ => l.length - (intOf q).toNat)
  case atStart => exact ⟨0, by omega, rfl, by rw [sumK_zero], rfl⟩
  case round =>
    obtain ⟨k, hk, rfl, rfl, rfl⟩ := hrel
    by_cases hlt : k < l.length
    · have a0 := HA1.out k hlt
      have i1 : (k : Int) < l.length := by omega
      have hw := wrap_sum HFL.out hl hlt
      generalize l[k] = x at *
      go_wp2_with fail
      go_roundw
      case rel => exact ⟨k + 1, by omega, by go_num, rfl, by first | rfl | trivial⟩
      case measure => simp [intOf]; omega
    · obtain rfl : k = l.length := by omega
      go_wp2_with fail
      go_ret
      exact ⟨rfl, GsTo.same HH.out HF1.out⟩
set_option maxRecDepth 8000 in
set_option maxHeartbeats 1600000 in
theorem gdash_neg (g : Nat) (F : Nat → Prop) (s : GS) (v : Value) (l : List Int) (ph : Int) (S : Nat → Prop) (w : World) (h : Gs w g F s) (hr : RowIn w S 1 v l.length (ints l)) (hl : l.length ≤ 1000) (hpos : 0 < l.length) (h1 : (ph :: l).all fitZ = true) (h2 : ¬ 11 < l.length) (h3 : ph < 0) :
    Calls Tryd.prog 76 #[.pointer (some ⟨g, 0, none⟩), v, .int .i64 ph] w fun e w' => e = .returned (.int .i64 11) ∧ GsTo w g F s w' := by
  have i2 : ¬ (11 : Int) < l.length := by omega
  have i3 : (0 : Int) < l.length := by omega
  obtain ⟨i0, hi, hz0, hz1, hz2⟩ := info_parts infoInt
  obtain ⟨b, off, cap, rfl, hc1, hc2, _, hA⟩ := hr.int hpos
  have HA := Lib.hid hA
  have hf : Fr Nob w (w.alloc (.cells #[.int .i64 ph] 3)) := (Fr.refl Nob w).alloc _
  have HR := Lib.hid (hr.nob hf)
  have HR0 := Lib.hid hr
  have HO := Lib.hid (OwnS.one w ph)
  have HF := Lib.hid hf
  have HH := Lib.hid h
  have HFIT := Lib.hid h1
  clear h hr hf h1 hA
  go_enter Tryd.func76, Tryd.ntmps76
  go_wp2_with (at_builtin; refine wpList_app _ rfl _ _ 30 rfl 3 i0 _ 1 8 Tryd.underlying30 hi hz0 hz1 hz2 rfl (by decide) _ 1 (ints [ph]) rfl HO.out S _ l.length (ints l) rfl HR.out (ints_one l) (by unfold maxLen; omega) (by omega) ?_)
  intro v' w1 hown hfr hat
  have HF1 := Lib.hid (HF.out.trans hfr fun k hk => .inr (by simp [inB, Value.ownBlock] at hk; omega))
  have HRN := Lib.hid (show RowIn w1 (inB v') 1 v' (ph :: l).length (ints (ph :: l)) from (show 1 + l.length = (ph :: l).length by simp [Nat.add_comm]) ▸ hown.row)
  obtain ⟨A1, c1, rfl, _⟩ := hown.form
  have HI := Lib.hid (check_any ⟨g, 0, none⟩ (ph :: l) _ _ w1 HRN.out)
  rw [chkI_ok HFIT.out] at HI
  clear hown hfr hat
  go_wp2_with fail
  refine HI.out.mono ?_
  rintro e w2 ⟨rfl, rfl⟩
  have HA1 := Lib.hid (fun k hk => cell_nob (HA.out k hk) HF1.out)
  have HFL := Lib.hid (show l.all fitZ = true by have := HFIT.out; simp only [List.all_cons, Bool.and_eq_true] at this; exact this.2)
  go_wp2_with fail
  go_loopw [8, 22] (fun sm q wr => ∃ k : Nat, k ≤ l.length ∧ q = .int .i64 k ∧ sm = .int .i64 (sumK l k) ∧ wr = w1) (fun _ q _ => l.length - (intOf q).toNat)
  case atStart => exact ⟨0, by omega, rfl, by rw [sumK_zero], rfl⟩
  case round =>
    obtain ⟨k, hk, rfl, rfl, rfl⟩ := hrel
    by_cases hlt : k < l.length
    · have a0 := HA1.out k hlt
      have i1 : (k : Int) < l.length := by omega
      have hw := wrap_sum HFL.out hl hlt
      generalize l[k] = x at *
      go_wp2_with fail
      go_roundw
      case rel => exact ⟨k + 1, by omega, by go_num, rfl, by first | rfl | trivial⟩
      case measure => simp [intOf]; omega
    · obtain rfl : k = l.length := by omega
      go_wp2_with fail
      go_ret
      exact ⟨rfl, GsTo.same HH.out HF1.out⟩
set_option maxRecDepth 8000 in
set_option maxHeartbeats 1600000 in
theorem gdash_some (g : Nat) (F : Nat → Prop) (s : GS) (v : Value) (l : List Int) (ph : Int) (S : Nat → Prop) (w : World) (h : Gs w g F s) (hr : RowIn w S 1 v l.length (ints l)) (hl : l.length ≤ 1000) (hpos : 0 < l.length) (h1 : (ph :: l).all fitZ = true) (h2 : ¬ 11 < l.length) (h3 : ¬ ph < 0) (hany : l.any (fun n => decide (n < 0)) = true) :
    Calls Tryd.prog 76 #[.pointer (some ⟨g, 0, none⟩), v, .int .i64 ph] w fun e w' => e = .returned (.int .i64 11) ∧ GsTo w g F s w' := by
  have i2 : ¬ (11 : Int) < l.length := by omega
  have i3 : (0 : Int) < l.length := by omega
  obtain ⟨i0, hi, hz0, hz1, hz2⟩ := info_parts infoInt
  obtain ⟨b, off, cap, rfl, hc1, hc2, _, hA⟩ := hr.int hpos
  have HA := Lib.hid hA
  have hf : Fr Nob w (w.alloc (.cells #[.int .i64 ph] 3)) := (Fr.refl Nob w).alloc _
  have HR := Lib.hid (hr.nob hf)
  have HR0 := Lib.hid hr
  have HO := Lib.hid (OwnS.one w ph)
  have HF := Lib.hid hf
  have HH := Lib.hid h
  have HFIT := Lib.hid h1
  clear h hr hf h1 hA
  go_enter Tryd.func76, Tryd.ntmps76
  go_wp2_with (at_builtin; refine wpList_app _ rfl _ _ 30 rfl 3 i0 _ 1 8 Tryd.underlying30 hi hz0 hz1 hz2 rfl (by decide) _ 1 (ints [ph]) rfl HO.out S _ l.length (ints l) rfl HR.out (ints_one l) (by unfold maxLen; omega) (by omega) ?_)
  intro v' w1 hown hfr hat
  have HF1 := Lib.hid (HF.out.trans hfr fun k hk => .inr (by simp [inB, Value.ownBlock] at hk; omega))
  have HRN := Lib.hid (show RowIn w1 (inB v') 1 v' (ph :: l).length (ints (ph :: l)) from (show 1 + l.length = (ph :: l).length by simp [Nat.add_comm]) ▸ hown.row)
  obtain ⟨A1, c1, rfl, _⟩ := hown.form
  have HI := Lib.hid (check_any ⟨g, 0, none⟩ (ph :: l) _ _ w1 HRN.out)
  rw [chkI_ok HFIT.out] at HI
  clear hown hfr hat
  go_wp2_with fail
  refine HI.out.mono ?_
  rintro e w2 ⟨rfl, rfl⟩
  have HA1 := Lib.hid (fun k hk => cell_nob (HA.out k hk) HF1.out)
  have HFL := Lib.hid (show l.all fitZ = true by have := HFIT.out; simp only [List.all_cons, Bool.and_eq_true] at this; exact this.2)
  go_wp2_with fail
  go_loopw [8, 22] (fun sm q wr => ∃ k : Nat, k ≤ l.length ∧ q = .int .i64 k ∧ sm = .int .i64 (sumK l k) ∧ wr = w1) (fun _ q _ => l.length - (intOf q).toNat)
  case atStart => exact ⟨0, by omega, rfl, by rw [sumK_zero], rfl⟩
  case round =>
    obtain ⟨k, hk, rfl, rfl, rfl⟩ := hrel
    by_cases hlt : k < l.length
    · have a0 := HA1.out k hlt
      have i1 : (k : Int) < l.length := by omega
      have hw := wrap_sum HFL.out hl hlt
      generalize l[k] = x at *
      go_wp2_with fail
      go_roundw
      case rel => exact ⟨k + 1, by omega, by go_num, rfl, by first | rfl | trivial⟩
      case measure => simp [intOf]; omega
    · obtain rfl : k = l.length := by omega
      have HCN := Lib.hid (conti_any 116 _ (.inr rfl) asks_dash _ l S wr (HR0.out.nob HF1.out))
      rw [hany] at HCN
      go_wp2_with fail
      refine HCN.out.mono ?_
      rintro e w3 ⟨rfl, rfl⟩
      go_wp2_with fail
      go_ret
      exact ⟨rfl, GsTo.same HH.out HF1.out⟩
set_option maxRecDepth 8000 in
set_option maxHeartbeats 1600000 in
theorem gdash_zero (g : Nat) (F : Nat → Prop) (s : GS) (v : Value) (l : List Int) (ph : Int) (S : Nat → Prop) (w : World) (h : Gs w g F s) (hr : RowIn w S 1 v l.length (ints l)) (hl : l.length ≤ 1000) (hpos : 0 < l.length) (h1 : (ph :: l).all fitZ = true) (h2 : ¬ 11 < l.length) (h3 : ¬ ph < 0) (hany : l.any (fun n => decide (n < 0)) = false) (hs : sumK l l.length = 0) :
    Calls Tryd.prog 76 #[.pointer (some ⟨g, 0, none⟩), v, .int .i64 ph] w fun e w' => e = .returned (.int .i64 11) ∧ GsTo w g F s w' := by
  have i2 : ¬ (11 : Int) < l.length := by omega
  have i3 : (0 : Int) < l.length := by omega
  obtain ⟨i0, hi, hz0, hz1, hz2⟩ := info_parts infoInt
  obtain ⟨b, off, cap, rfl, hc1, hc2, _, hA⟩ := hr.int hpos
  have HA := Lib.hid hA
  have hf : Fr Nob w (w.alloc (.cells #[.int .i64 ph] 3)) := (Fr.refl Nob w).alloc _
  have HR := Lib.hid (hr.nob hf)
  have HR0 := Lib.hid hr
  have HO := Lib.hid (OwnS.one w ph)
  have HF := Lib.hid hf
  have HH := Lib.hid h
  have HFIT := Lib.hid h1
  clear h hr hf h1 hA
  go_enter Tryd.func76, Tryd.ntmps76
  go_wp2_with (at_builtin; refine wpList_app _ rfl _ _ 30 rfl 3 i0 _ 1 8 Tryd.underlying30 hi hz0 hz1 hz2 rfl (by decide) _ 1 (ints [ph]) rfl HO.out S _ l.length (ints l) rfl HR.out (ints_one l) (by unfold maxLen; omega) (by omega) ?_)
  intro v' w1 hown hfr hat
  have HF1 := Lib.hid (HF.out.trans hfr fun k hk => .inr (by simp [inB, Value.ownBlock] at hk; omega))
  have HRN := Lib.hid (show RowIn w1 (inB v') 1 v' (ph :: l).length (ints (ph :: l)) from (show 1 + l.length = (ph :: l).length by simp [Nat.add_comm]) ▸ hown.row)
  obtain ⟨A1, c1, rfl, _⟩ := hown.form
  have HI := Lib.hid (check_any ⟨g, 0, none⟩ (ph :: l) _ _ w1 HRN.out)
  rw [chkI_ok HFIT.out] at HI
  clear hown hfr hat
  go_wp2_with fail
  refine HI.out.mono ?_
  rintro e w2 ⟨rfl, rfl⟩
  have HA1 := Lib.hid (fun k hk => cell_nob (HA.out k hk) HF1.out)
  have HFL := Lib.hid (show l.all fitZ = true by have := HFIT.out; simp only [List.all_cons, Bool.and_eq_true] at this; exact this.2)
  go_wp2_with fail
  go_loopw [8, 22] (fun sm q wr => ∃ k : Nat, k ≤ l.length ∧ q = .int .i64 k ∧ sm = .int .i64 (sumK l k) ∧ wr = w1) (fun _ q _ => l.length - (intOf q).toNat)
  case atStart => exact ⟨0, by omega, rfl, by rw [sumK_zero], rfl⟩
  case round =>
    obtain ⟨k, hk, rfl, rfl, rfl⟩ := hrel
    by_cases hlt : k < l.length
    · have a0 := HA1.out k hlt
      have i1 : (k : Int) < l.length := by omega
      have hw := wrap_sum HFL.out hl hlt
      generalize l[k] = x at *
      go_wp2_with fail
      go_roundw
      case rel => exact ⟨k + 1, by omega, by go_num, rfl, by first | rfl | trivial⟩
      case measure => simp [intOf]; omega
    · obtain rfl : k = l.length := by omega
      have HCN := Lib.hid (conti_any 116 _ (.inr rfl) asks_dash _ l S wr (HR0.out.nob HF1.out))
      rw [hany] at HCN
      go_wp2_with fail
      refine HCN.out.mono ?_
      rintro e w3 ⟨rfl, rfl⟩
      go_wp2_with fail
      go_ret
      exact ⟨rfl, GsTo.same HH.out HF1.out⟩
set_option maxRecDepth 8000 in
set_option maxHeartbeats 1600000 in
theorem gdash_ok (g : Nat) (F : Nat → Prop) (s : GS) (v : Value) (l : List Int) (ph : Int) (S : Nat → Prop) (w : World) (h : Gs w g F s) (hr : RowIn w S 1 v l.length (ints l)) (hl : l.length ≤ 1000) (hpos : 0 < l.length) (h1 : (ph :: l).all fitZ = true) (h2 : ¬ 11 < l.length) (h3 : ¬ ph < 0) (hany : l.any (fun n => decide (n < 0)) = false) (hs : ¬ sumK l l.length = 0) :
    Calls Tryd.prog 76 #[.pointer (some ⟨g, 0, none⟩), v, .int .i64 ph] w fun e w' => e = .returned (.int .i64 0) ∧ GsTo w g F { s with cur := { s.cur with st := { s.cur.st with dash := l, phase := ph } } } w' := by
  have i2 : ¬ (11 : Int) < l.length := by omega
  have i3 : (0 : Int) < l.length := by omega
  have hs2 : (sumK l l.length == 0) = false := by simpa using hs
  obtain ⟨i0, hi, hz0, hz1, hz2⟩ := info_parts infoInt
  obtain ⟨b, off, cap, rfl, hc1, hc2, _, hA⟩ := hr.int hpos
  have HA := Lib.hid hA
  have hf : Fr Nob w (w.alloc (.cells #[.int .i64 ph] 3)) := (Fr.refl Nob w).alloc _
  have HR := Lib.hid (hr.nob hf)
  have HR0 := Lib.hid hr
  have HO := Lib.hid (OwnS.one w ph)
  have HF := Lib.hid hf
  have HH := Lib.hid h
  have HFIT := Lib.hid h1
  clear h hr hf h1 hA
  go_enter Tryd.func76, Tryd.ntmps76
  go_wp2_with (at_builtin; refine wpList_app _ rfl _ _ 30 rfl 3 i0 _ 1 8 Tryd.underlying30 hi hz0 hz1 hz2 rfl (by decide) _ 1 (ints [ph]) rfl HO.out S _ l.length (ints l) rfl HR.out (ints_one l) (by unfold maxLen; omega) (by omega) ?_)
  intro v' w1 hown hfr hat
  have HF1 := Lib.hid (HF.out.trans hfr fun k hk => .inr (by simp [inB, Value.ownBlock] at hk; omega))
  have HRN := Lib.hid (show RowIn w1 (inB v') 1 v' (ph :: l).length (ints (ph :: l)) from (show 1 + l.length = (ph :: l).length by simp [Nat.add_comm]) ▸ hown.row)
  obtain ⟨A1, c1, rfl, _⟩ := hown.form
  have HI := Lib.hid (check_any ⟨g, 0, none⟩ (ph :: l) _ _ w1 HRN.out)
  rw [chkI_ok HFIT.out] at HI
  clear hown hfr hat
  go_wp2_with fail
  refine HI.out.mono ?_
  rintro e w2 ⟨rfl, rfl⟩
  have HA1 := Lib.hid (fun k hk => cell_nob (HA.out k hk) HF1.out)
  have HFL := Lib.hid (show l.all fitZ = true by have := HFIT.out; simp only [List.all_cons, Bool.and_eq_true] at this; exact this.2)
  go_wp2_with fail
  go_loopw [8, 22] (fun sm q wr => ∃ k : Nat, k ≤ l.length ∧ q = .int .i64 k ∧ sm = .int .i64 (sumK l k) ∧ wr = w1) (fun _ q _ => l.length - (intOf q).toNat)
  case atStart => exact ⟨0, by omega, rfl, by rw [sumK_zero], rfl⟩
  case round =>
    obtain ⟨k, hk, rfl, rfl, rfl⟩ := hrel
    by_cases hlt : k < l.length
    · have a0 := HA1.out k hlt
      have i1 : (k : Int) < l.length := by omega
      have hw := wrap_sum HFL.out hl hlt
      generalize l[k] = x at *
      go_wp2_with fail
      go_roundw
      case rel => exact ⟨k + 1, by omega, by go_num, rfl, by first | rfl | trivial⟩
      case measure => simp [intOf]; omega
    · obtain rfl : k = l.length := by omega
      have HCN := Lib.hid (conti_any 116 _ (.inr rfl) asks_dash _ l S wr (HR0.out.nob HF1.out))
      rw [hany] at HCN
      go_wp2_with fail
      refine HCN.out.mono ?_
      rintro e w3 ⟨rfl, rfl⟩
      go_wp2_with fail
      refine (clonei_any _ l S wr (HR0.out.nob HF1.out) (by omega)).mono ?_
      rintro e w4 ⟨vo, rfl, ho, hf4, hn4⟩
      obtain ⟨lab, x, sv, xs, hx⟩ := HH.out
      have HX := Lib.hid hx
      have HN4 := Lib.hid (HF1.out.trans0 hf4)
      have hB := hx.cells.nob HN4.out
      have k15 := hB.cell 15
      have q15 := hB.free 15
      have k16 := hB.cell 16
      have q16 := hB.free 16
      simp only [List.getElem?_toArray, List.getElem?_cons_succ, List.getElem?_cons_zero] at k15 k16
      have HB := Lib.hid hB
      have HO4 := Lib.hid (ho.rowIn (S := fun k => (F k ∧ lab k = 0) ∨ w.heap.size ≤ k) fun k hk => .inr (Nat.le_trans HF1.out.size (hn4 k hk)))
      have HCL := Lib.hid ((hx.c.g.c.fr HN4.out fun _ _ hh => hh).mono (T := fun k => (F k ∧ lab k = 0) ∨ w.heap.size ≤ k) fun k hk => .inl hk)
      obtain ⟨A4, c4, rfl, _⟩ := ho.form
      clear hx hB ho hf4 hn4
      go_wp2_with fail
      go_ret
      exact ⟨rfl, HX.out.putN HN4.out (((Fr.refl (fun k => k = g) _).setCell (p := ⟨g, 15, none⟩) (.inl rfl) _).setCell (p := ⟨g, 16, none⟩) (.inl rfl) _) { s.cur.st with dash := l, phase := ph } (.slice A4 l.length c4) x.cv ⟨HO4.out, HCL.out⟩ ((HB.out.set 15 _).set 16 _)⟩
set_option maxRecDepth 8000 in
set_option maxHeartbeats 1600000 in
theorem gdash_nneg (g : Nat) (F : Nat → Prop) (s : GS) (v : Value) (l : List Int) (ph : Int) (S : Nat → Prop) (w : World) (h : Gs w g F s) (hr : RowIn w S 1 v l.length (ints l)) (hl : l.length ≤ 1000) (h0 : l.length = 0) (h1 : (ph :: l).all fitZ = true) (h3 : ph < 0) :
    Calls Tryd.prog 76 #[.pointer (some ⟨g, 0, none⟩), v, .int .i64 ph] w fun e w' => e = .returned (.int .i64 11) ∧ GsTo w g F s w' := by
  have hz : (l.length : Int) = 0 := by omega
  clear h0
  obtain ⟨i0, hi, hz0, hz1, hz2⟩ := info_parts infoInt
  obtain ⟨A, cap, rfl, hc1, hc2⟩ := hr.form
  unfold maxLen at hc2
  have hf : Fr Nob w (w.alloc (.cells #[.int .i64 ph] 3)) := (Fr.refl Nob w).alloc _
  have HR := Lib.hid (hr.nob hf)
  have HR0 := Lib.hid hr
  have HO := Lib.hid (OwnS.one w ph)
  have HF := Lib.hid hf
  have HH := Lib.hid h
  have HFIT := Lib.hid h1
  clear h hr hf h1
  go_enter Tryd.func76, Tryd.ntmps76
  go_wp2_with (at_builtin; refine wpList_app _ rfl _ _ 30 rfl 3 i0 _ 1 8 Tryd.underlying30 hi hz0 hz1 hz2 rfl (by decide) _ 1 (ints [ph]) rfl HO.out S _ l.length (ints l) rfl HR.out (ints_one l) (by unfold maxLen; omega) (by omega) ?_)
  intro v' w1 hown hfr hat
  have HF1 := Lib.hid (HF.out.trans hfr fun k hk => .inr (by simp [inB, Value.ownBlock] at hk; omega))
  have HRN := Lib.hid (show RowIn w1 (inB v') 1 v' (ph :: l).length (ints (ph :: l)) from (show 1 + l.length = (ph :: l).length by simp [Nat.add_comm]) ▸ hown.row)
  obtain ⟨A1, c1, rfl, _⟩ := hown.form
  have HI := Lib.hid (check_any ⟨g, 0, none⟩ (ph :: l) _ _ w1 HRN.out)
  rw [chkI_ok HFIT.out] at HI
  clear hown hfr hat
  go_wp2_with fail
  refine HI.out.mono ?_
  rintro e w2 ⟨rfl, rfl⟩
  go_wp2_with fail
  go_loopw [8, 22] (fun sm q wr => q = .int .i64 0 ∧ sm = .int .i64 0 ∧ wr = w1) (fun _ _ _ => 0)
  case atStart => exact ⟨rfl, rfl, rfl⟩
  case round =>
    obtain ⟨rfl, rfl, rfl⟩ := hrel
    go_wp2_with fail
    go_ret
    exact ⟨rfl, GsTo.same HH.out HF1.out⟩
set_option maxRecDepth 8000 in
set_option maxHeartbeats 1600000 in
theorem gdash_nok (g : Nat) (F : Nat → Prop) (s : GS) (v : Value) (l : List Int) (ph : Int) (S : Nat → Prop) (w : World) (h : Gs w g F s) (hr : RowIn w S 1 v l.length (ints l)) (hl : l.length ≤ 1000) (h0 : l.length = 0) (h1 : (ph :: l).all fitZ = true) (h3 : ¬ ph < 0) (hany : l.any (fun n => decide (n < 0)) = false) :
    Calls Tryd.prog 76 #[.pointer (some ⟨g, 0, none⟩), v, .int .i64 ph] w fun e w' => e = .returned (.int .i64 0) ∧ GsTo w g F { s with cur := { s.cur with st := { s.cur.st with dash := l, phase := ph } } } w' := by
  have hz : (l.length : Int) = 0 := by omega
  clear h0
  obtain ⟨i0, hi, hz0, hz1, hz2⟩ := info_parts infoInt
  obtain ⟨A, cap, rfl, hc1, hc2⟩ := hr.form
  unfold maxLen at hc2
  have hf : Fr Nob w (w.alloc (.cells #[.int .i64 ph] 3)) := (Fr.refl Nob w).alloc _
  have HR := Lib.hid (hr.nob hf)
  have HR0 := Lib.hid hr
  have HO := Lib.hid (OwnS.one w ph)
  have HF := Lib.hid hf
  have HH := Lib.hid h
  have HFIT := Lib.hid h1
  clear h hr hf h1
  go_enter Tryd.func76, Tryd.ntmps76
  go_wp2_with (at_builtin; refine wpList_app _ rfl _ _ 30 rfl 3 i0 _ 1 8 Tryd.underlying30 hi hz0 hz1 hz2 rfl (by decide) _ 1 (ints [ph]) rfl HO.out S _ l.length (ints l) rfl HR.out (ints_one l) (by unfold maxLen; omega) (by omega) ?_)
  intro v' w1 hown hfr hat
  have HF1 := Lib.hid (HF.out.trans hfr fun k hk => .inr (by simp [inB, Value.ownBlock] at hk; omega))
  have HRN := Lib.hid (show RowIn w1 (inB v') 1 v' (ph :: l).length (ints (ph :: l)) from (show 1 + l.length = (ph :: l).length by simp [Nat.add_comm]) ▸ hown.row)
  obtain ⟨A1, c1, rfl, _⟩ := hown.form
  have HI := Lib.hid (check_any ⟨g, 0, none⟩ (ph :: l) _ _ w1 HRN.out)
  rw [chkI_ok HFIT.out] at HI
  clear hown hfr hat
  go_wp2_with fail
  refine HI.out.mono ?_
  rintro e w2 ⟨rfl, rfl⟩
  go_wp2_with fail
  go_loopw [8, 22] (fun sm q wr => q = .int .i64 0 ∧ sm = .int .i64 0 ∧ wr = w1) (fun _ _ _ => 0)
  case atStart => exact ⟨rfl, rfl, rfl⟩
  case round =>
    obtain ⟨rfl, rfl, rfl⟩ := hrel
    have HCN := Lib.hid (conti_any 116 _ (.inr rfl) asks_dash _ l S wr (HR0.out.nob HF1.out))
    rw [hany] at HCN
    go_wp2_with fail
    refine HCN.out.mono ?_
    rintro e w3 ⟨rfl, rfl⟩
    go_wp2_with fail
    refine (clonei_any _ l S wr (HR0.out.nob HF1.out) (by omega)).mono ?_
    rintro e w4 ⟨vo, rfl, ho, hf4, hn4⟩
    obtain ⟨lab, x, sv, xs, hx⟩ := HH.out
    have HX := Lib.hid hx
    have HN4 := Lib.hid (HF1.out.trans0 hf4)
    have hB := hx.cells.nob HN4.out
    have k15 := hB.cell 15
    have q15 := hB.free 15
    have k16 := hB.cell 16
    have q16 := hB.free 16
    simp only [List.getElem?_toArray, List.getElem?_cons_succ, List.getElem?_cons_zero] at k15 k16
    have HB := Lib.hid hB
    have HO4 := Lib.hid (ho.rowIn (S := fun k => (F k ∧ lab k = 0) ∨ w.heap.size ≤ k) fun k hk => .inr (Nat.le_trans HF1.out.size (hn4 k hk)))
    have HCL := Lib.hid ((hx.c.g.c.fr HN4.out fun _ _ hh => hh).mono (T := fun k => (F k ∧ lab k = 0) ∨ w.heap.size ≤ k) fun k hk => .inl hk)
    obtain ⟨A4, c4, rfl, _⟩ := ho.form
    clear hx hB ho hf4 hn4
    go_wp2_with fail
    go_ret
    exact ⟨rfl, HX.out.putN HN4.out (((Fr.refl (fun k => k = g) _).setCell (p := ⟨g, 15, none⟩) (.inl rfl) _).setCell (p := ⟨g, 16, none⟩) (.inl rfl) _) { s.cur.st with dash := l, phase := ph } (.slice A4 l.length c4) x.cv ⟨HO4.out, HCL.out⟩ ((HB.out.set 15 _).set 16 _)⟩
theorem gdash_any (g : Nat) (F : Nat → Prop) (s : GS) (v : Value) (l : List Int) (ph : Int) (S : Nat → Prop) (w : World) (h : Gs w g F s) (hr : RowIn w S 1 v l.length (ints l)) (hl : l.length ≤ 1000) :
    Calls Tryd.prog 76 #[.pointer (some ⟨g, 0, none⟩), v, .int .i64 ph] w fun e w' => e = .returned (.int .i64 (dashF l ph s.cur.st).1) ∧ GsTo w g F { s with cur := { s.cur with st := (dashF l ph s.cur.st).2 } } w' := by
  unfold dashF
  by_cases h1 : (ph :: l).all fitZ = true
  · rw [if_pos h1]
    by_cases h2 : 11 < l.length
    · rw [if_pos h2]; exact gdash_long g F s v l ph S w h hr hl (by omega) h1 h2
    · rw [if_neg h2]
      by_cases h3 : ph < 0
      · rw [if_pos (.inl h3)]
        by_cases h0 : l.length = 0
        · exact gdash_nneg g F s v l ph S w h hr hl h0 h1 h3
        · exact gdash_neg g F s v l ph S w h hr hl (by omega) h1 h2 h3
      · by_cases h4 : l.any (fun n => decide (n < 0)) = true
        · rw [if_pos (.inr (.inl h4))]
          exact gdash_some g F s v l ph S w h hr hl (by cases l with | nil => simp at h4 | cons a r => simp) h1 h2 h3 h4
        · have h4' : l.any (fun n => decide (n < 0)) = false := by simpa using h4
          by_cases h0 : l.length = 0
          · rw [if_neg (by rintro (h | h | h); exact h3 h; exact h4 h; omega)]
            exact gdash_nok g F s v l ph S w h hr hl h0 h1 h3 h4'
          · by_cases h5 : sumK l l.length = 0
            · rw [if_pos (.inr (.inr ⟨by omega, h5⟩))]
              exact gdash_zero g F s v l ph S w h hr hl (by omega) h1 h2 h3 h4' h5
            · rw [if_neg (by rintro (h | h | h); exact h3 h; exact h4 h; exact h5 h.2)]
              exact gdash_ok g F s v l ph S w h hr hl (by omega) h1 h2 h3 h4' h5
  · rw [if_neg h1]
    exact gdash_no g F s v l ph S w h hr hl h1
end Go.Proofs.YtkkejjfmidgciaaDoor
/- The walks of package fix: all, within, over, Add, Mul, Sum. -/
namespace Go.Proofs.YtkkejjfmidgciaaDoor
open Go.RowKit
set_option linter.unusedVariables false
set_option linter.unusedSimpArgs false
theorem fall_any (v : Value) (l : List Int) (S : Nat → Prop) (w : World) (h : RowIn w S 1 v l.length (ints l)) :
    Calls Tryd.prog 141 #[v] w fun e w' => e = .returned (.bool (l.all fitZ)) ∧ w = w' := by
  by_cases h0 : l.length = 0
  · obtain rfl : l = [] := List.length_eq_zero_iff.1 h0
    obtain ⟨_, A, c, rfl, _⟩ := h
    go_enter Tryd.func141, Tryd.ntmps141
    go_wp2
    go_loopw [7] (fun q wr => q = .int .i64 0 ∧ wr = w) (fun _ _ => 0)
    case atStart => exact ⟨rfl, rfl⟩
    case round =>
      obtain ⟨rfl, rfl⟩ := hrel
      go_wp2
      go_ret
      exact ⟨rfl, rfl⟩
  · obtain ⟨b, off, cap, rfl, h1, h2, _, hA⟩ := h.int (by omega)
    have HA := Lib.hid hA
    clear h hA
    go_enter Tryd.func141, Tryd.ntmps141
    go_wp2
    go_loopw [7] (fun q wr => ∃ k : Nat, k ≤ l.length ∧ q = .int .i64 k ∧ Hid (∀ j (hj : j < l.length), j < k → fitZ l[j] = true) ∧ wr = w) (fun q _ => l.length - (intOf q).toNat)
    case atStart => exact ⟨0, by omega, rfl, fun j _ h => by omega, rfl⟩
    case round =>
      obtain ⟨k, hk, rfl, HT, rfl⟩ := hrel
      by_cases hlt : k < l.length
      · have a0 := HA.out k hlt
        have i1 : (k : Int) < l.length := by omega
        have HS := Lib.hid (fix_fits l[k] wr)
        by_cases hp : fitZ l[k] = true
        · rw [hp] at HS
          have HT2 := Lib.hid (show ∀ j (hj : j < l.length), j < k + 1 → fitZ l[j] = true by
            intro j hj hjk
            rcases Nat.lt_or_ge j k with h | h
            · exact HT.out j hj h
            · obtain rfl : j = k := by omega
              exact hp)
          clear hp
          generalize l[k] = x at *
          go_wp2_with fail
          refine HS.out.mono ?_
          rintro e w1 ⟨rfl, rfl⟩
          go_wp2_with fail
          go_roundw
          case rel => exact ⟨k + 1, by omega, by go_num, HT2, trivial⟩
          case measure => simp [intOf]; omega
        · have hp' : fitZ l[k] = false := by simpa using hp
          rw [hp'] at HS
          have HE := Lib.hid (show false = l.all fitZ by
            symm
            rw [List.all_eq_false]
            exact ⟨_, List.getElem_mem hlt, hp⟩)
          clear hp hp'
          generalize l[k] = x at *
          go_wp2_with fail
          refine HS.out.mono ?_
          rintro e w1 ⟨rfl, rfl⟩
          go_wp2_with fail
          go_ret
          exact ⟨ret_bool HE.out, rfl⟩
      · have HE := Lib.hid (show true = l.all fitZ by
          symm
          rw [List.all_eq_true]
          intro x hx
          obtain ⟨i, hi, rfl⟩ := List.mem_iff_getElem.1 hx
          exact HT.out i hi (by omega))
        have hge : l.length ≤ k := by omega
        go_wp2
        go_ret
        exact ⟨ret_bool HE.out, rfl⟩
def withinF (n : Int) : Int × Int := if fitZ n then (n, 0) else (0, 18)
theorem fwithin_any (n : Int) (w : World) : Calls Tryd.prog 142 #[.int .i64 n] w fun e w' => e = .returned (.tuple #[.int .i64 (withinF n).1, .int .i64 (withinF n).2]) ∧ w = w' := by
  have HS := Lib.hid (fix_fits n w)
  unfold withinF
  by_cases hp : fitZ n = true
  · rw [hp] at HS
    rw [if_pos hp]
    clear hp
    go_enter Tryd.func142, Tryd.ntmps142
    go_wp2_with fail
    refine HS.out.mono ?_
    rintro e w1 ⟨rfl, rfl⟩
    go_wp2_with fail
    go_ret2
    exact ⟨rfl, rfl⟩
  · have hp' : fitZ n = false := by simpa using hp
    rw [hp'] at HS
    rw [if_neg hp]
    clear hp hp'
    go_enter Tryd.func142, Tryd.ntmps142
    go_wp2_with fail
    refine HS.out.mono ?_
    rintro e w1 ⟨rfl, rfl⟩
    go_wp2_with fail
    go_ret2
    exact ⟨rfl, rfl⟩
def overF (a : Int) : Int := if 65536 ≤ 2 * a.tmod 65536 then a.tdiv 65536 + 1 else if 65536 ≤ -2 * a.tmod 65536 then a.tdiv 65536 - 1 else a.tdiv 65536
theorem fover_any (a : Int) (w : World) (h : -4611686018427387904 ≤ a ∧ a ≤ 4611686018427387904) : Calls Tryd.prog 152 #[.int .i64 a, .int .i64 65536] w fun e w' => e = .returned (.int .i64 (overF a)) ∧ Fr Nob w w' := by
  have h1 := Int.tmod_lt_of_pos a (show (0 : Int) < 65536 by decide)
  have h2 := Int.lt_tmod_of_pos a (show (0 : Int) < 65536 by decide)
  have h3 := Int.mul_tdiv_add_tmod a 65536
  have HO := Lib.hid (show overF a = if 65536 ≤ 2 * a.tmod 65536 then a.tdiv 65536 + 1 else if 65536 ≤ -2 * a.tmod 65536 then a.tdiv 65536 - 1 else a.tdiv 65536 from rfl)
  have w1 : wrap64 (2 * a.tmod 65536) = 2 * a.tmod 65536 := IntWalk.wrap64_in _ (by omega)
  have w2 : wrap64 (-2 * a.tmod 65536) = -2 * a.tmod 65536 := IntWalk.wrap64_in _ (by omega)
  have w3 : wrap64 (a.tdiv 65536 + 1) = a.tdiv 65536 + 1 := IntWalk.wrap64_in _ (by omega)
  have w5 : wrap64 (a.tdiv 65536) = a.tdiv 65536 := IntWalk.wrap64_in _ (by omega)
  have w4 : wrap64 (a.tdiv 65536 - 1) = a.tdiv 65536 - 1 := IntWalk.wrap64_in _ (by omega)
  clear h1 h2 h3 h
  by_cases c1 : 65536 ≤ 2 * a.tmod 65536
  · rw [show overF a = a.tdiv 65536 + 1 by rw [HO.out, if_pos c1]]
    go_enter Tryd.func152, Tryd.ntmps152
    go_wp2_with fail
    go_quiet (fail)
    go_wp2_with fail
    go_ret
    exact ⟨ret_i64 w3, (Fr.refl _ _).drewN _⟩
  · by_cases c2 : 65536 ≤ -2 * a.tmod 65536
    · rw [show overF a = a.tdiv 65536 - 1 by rw [HO.out, if_neg c1, if_pos c2]]
      go_enter Tryd.func152, Tryd.ntmps152
      go_wp2_with fail
      go_quiet (fail)
      go_wp2_with fail
      go_ret
      exact ⟨ret_i64 w4, (Fr.refl _ _).drewN _⟩
    · rw [show overF a = a.tdiv 65536 by rw [HO.out, if_neg c1, if_neg c2]]
      go_enter Tryd.func152, Tryd.ntmps152
      go_wp2_with fail
      go_quiet (fail)
      go_wp2_with fail
      go_ret
      exact ⟨ret_i64 w5, (Fr.refl _ _).drewN _⟩
theorem mul_le (a b : Int) (ha : -2147483648 ≤ a ∧ a ≤ 2147483647) (hb : -2147483648 ≤ b ∧ b ≤ 2147483647) : -4611686018427387904 ≤ a * b ∧ a * b ≤ 4611686018427387904 := by
  have h : (a * b).natAbs ≤ 2147483648 * 2147483648 := by
    rw [Int.natAbs_mul]
    exact Nat.mul_le_mul (by omega) (by omega)
  omega
def addZ (a b : Int) : Int × Int := if fitZ a && fitZ b then withinF (a + b) else (0, 11)
def mulZ (a b : Int) : Int × Int := if fitZ a && fitZ b then withinF (overF (a * b)) else (0, 11)
theorem all_two (a b : Int) : [a, b].all fitZ = (fitZ a && fitZ b) := by simp
theorem fadd_any (a b : Int) (w : World) : Calls Tryd.prog 121 #[.int .i64 a, .int .i64 b] w fun e w' => e = .returned (.tuple #[.int .i64 (addZ a b).1, .int .i64 (addZ a b).2]) ∧ Fr Nob w w' := by
  have HA := Lib.hid (fall_any _ [a, b] _ (w.alloc (.cells #[.int .i64 a, .int .i64 b] 3)) ((show Blk (w.alloc (.cells #[.int .i64 a, .int .i64 b] 3)) w.heap.size (ints [a, b]).toArray 3 from Blk.new _ _ _).ints (by simp [maxLen])))
  have HF := Lib.hid ((Fr.refl Nob w).alloc (.cells #[.int .i64 a, .int .i64 b] 3))
  rw [all_two] at HA
  unfold addZ
  cases hc : fitZ a && fitZ b with
  | true =>
    rw [hc] at HA
    rw [if_pos rfl]
    have h1 := fitZ_le (show fitZ a = true by simp at hc; exact hc.1)
    have h2 := fitZ_le (show fitZ b = true by simp at hc; exact hc.2)
    have hw : wrap64 (a + b) = a + b := IntWalk.wrap64_in _ (by omega)
    have HW := Lib.hid (fun w => fwithin_any (a + b) w)
    generalize withinF (a + b) = r at *
    clear hc h1 h2
    go_enter Tryd.func121, Tryd.ntmps121
    go_wp2_with fail
    refine HA.out.mono ?_
    rintro e w1 ⟨rfl, rfl⟩
    go_wp2_with fail
    refine (HW.out _).mono ?_
    rintro e w1 ⟨rfl, rfl⟩
    go_wp2_with fail
    go_ret2
    exact ⟨rfl, HF.out⟩
  | false =>
    rw [hc] at HA
    rw [if_neg (by decide)]
    clear hc
    go_enter Tryd.func121, Tryd.ntmps121
    go_wp2_with fail
    refine HA.out.mono ?_
    rintro e w1 ⟨rfl, rfl⟩
    go_wp2_with fail
    go_ret2
    exact ⟨rfl, HF.out⟩
theorem fmul_any (a b : Int) (w : World) : Calls Tryd.prog 150 #[.int .i64 a, .int .i64 b] w fun e w' => e = .returned (.tuple #[.int .i64 (mulZ a b).1, .int .i64 (mulZ a b).2]) ∧ Fr Nob w w' := by
  have HA := Lib.hid (fall_any _ [a, b] _ (w.alloc (.cells #[.int .i64 a, .int .i64 b] 3)) ((show Blk (w.alloc (.cells #[.int .i64 a, .int .i64 b] 3)) w.heap.size (ints [a, b]).toArray 3 from Blk.new _ _ _).ints (by simp [maxLen])))
  have HF := Lib.hid ((Fr.refl Nob w).alloc (.cells #[.int .i64 a, .int .i64 b] 3))
  rw [all_two] at HA
  unfold mulZ
  cases hc : fitZ a && fitZ b with
  | true =>
    rw [hc] at HA
    rw [if_pos rfl]
    have h1 := fitZ_le (show fitZ a = true by simp at hc; exact hc.1)
    have h2 := fitZ_le (show fitZ b = true by simp at hc; exact hc.2)
    have h3 := mul_le a b h1 h2
    obtain ⟨h4, h5⟩ := h3
    have HO := Lib.hid (fun w => fover_any (a * b) w ⟨h4, h5⟩)
    clear hc h1 h2
    have HW := Lib.hid (fun w => fwithin_any (overF (a * b)) w)
    generalize withinF (overF (a * b)) = r at *
    generalize overF (a * b) = ov at *
    go_enter Tryd.func150, Tryd.ntmps150
    go_wp2_with fail
    refine HA.out.mono ?_
    rintro e w1 ⟨rfl, rfl⟩
    go_wp2_with fail
    refine (HO.out _).mono ?_
    rintro e w2 ⟨rfl, h2⟩
    have HF2 := Lib.hid (HF.out.trans0 h2)
    clear h2
    go_wp2_with fail
    refine (HW.out _).mono ?_
    rintro e w1 ⟨rfl, rfl⟩
    go_wp2_with fail
    go_ret2
    exact ⟨rfl, HF2.out⟩
  | false =>
    rw [hc] at HA
    rw [if_neg (by decide)]
    clear hc
    go_enter Tryd.func150, Tryd.ntmps150
    go_wp2_with fail
    refine HA.out.mono ?_
    rintro e w1 ⟨rfl, rfl⟩
    go_wp2_with fail
    go_ret2
    exact ⟨rfl, HF.out⟩
end Go.Proofs.YtkkejjfmidgciaaDoor
/- The walks of fix.Sum and of the steps of package mat. -/
namespace Go.Proofs.YtkkejjfmidgciaaDoor
open Go.RowKit
set_option linter.unusedVariables false
set_option linter.unusedSimpArgs false
def sumGo (t : Int) : List Int → Int × Int
  | [] => (t, 0)
  | n :: r => if (addZ t n).2 = 0 then sumGo (addZ t n).1 r else (0, (addZ t n).2)
def sumZ (l : List Int) : Int × Int := sumGo 0 l
theorem sumGo_stop {l : List Int} {k : Nat} {t : Int} (h : k < l.length) (he : ¬ (addZ t l[k]).2 = 0) : sumGo t (l.drop k) = (0, (addZ t l[k]).2) := by
  rw [List.drop_eq_getElem_cons h, sumGo, if_neg he]
theorem sumGo_step {l : List Int} {k : Nat} {t : Int} (h : k < l.length) (he : (addZ t l[k]).2 = 0) : sumGo t (l.drop k) = sumGo (addZ t l[k]).1 (l.drop (k + 1)) := by
  rw [List.drop_eq_getElem_cons h, sumGo, if_pos he]
theorem sumGo_end {l : List Int} {k : Nat} {t : Int} (h : l.length ≤ k) : sumGo t (l.drop k) = (t, 0) := by
  rw [List.drop_of_length_le h, sumGo]
theorem ret_two {a b c d : Int} (p : Int × Int) (h : p = (a, b)) : Ending.returned (.tuple #[.int .i64 a, .int .i64 b]) = .returned (.tuple #[.int .i64 p.1, .int .i64 p.2]) := by rw [h]
theorem fsum_any (v : Value) (l : List Int) (S : Nat → Prop) (w : World) (h : RowIn w S 1 v l.length (ints l)) :
    Calls Tryd.prog 151 #[v] w fun e w' => e = .returned (.tuple #[.int .i64 (sumZ l).1, .int .i64 (sumZ l).2]) ∧ Fr Nob w w' := by
  obtain ⟨r, hr⟩ : ∃ r, sumZ l = r := ⟨_, rfl⟩
  rw [hr]
  have HR := Lib.hid hr
  clear hr
  by_cases h0 : l.length = 0
  · obtain rfl : l = [] := List.length_eq_zero_iff.1 h0
    obtain rfl : r = (0, 0) := HR.out.symm
    obtain ⟨_, A, c, rfl, _⟩ := h
    go_enter Tryd.func151, Tryd.ntmps151
    go_wp2
    go_loopw [4, 10] (fun t q wr => t = .int .i64 0 ∧ q = .int .i64 0 ∧ wr = w) (fun _ _ _ => 0)
    case atStart => exact ⟨rfl, rfl, rfl⟩
    case round =>
      obtain ⟨rfl, rfl, rfl⟩ := hrel
      go_wp2
      go_ret2
      exact ⟨rfl, Fr.refl _ _⟩
  · obtain ⟨b, off, cap, rfl, h1, h2, _, hA⟩ := h.int (by omega)
    have HA := Lib.hid hA
    clear h hA h0
    go_enter Tryd.func151, Tryd.ntmps151
    go_wp2
    go_loopw [4, 10] (fun tv q wr => ∃ (k : Nat) (t : Int), k ≤ l.length ∧ q = .int .i64 k ∧ tv = .int .i64 t ∧ Hid (sumGo t (l.drop k) = r) ∧ Hid (Fr Nob w wr)) (fun _ q _ => l.length - (intOf q).toNat)
    case atStart => exact ⟨0, 0, by omega, rfl, rfl, HR.out, Fr.refl _ _⟩
    case round =>
      obtain ⟨k, t, hk, rfl, rfl, HT, HF⟩ := hrel
      by_cases hlt : k < l.length
      · have a0 := cell_nob (HA.out k hlt) HF.out
        have i1 : (k : Int) < l.length := by omega
        have HS := Lib.hid (fun w => fadd_any t l[k] w)
        by_cases hp : (addZ t l[k]).2 = 0
        · have HT2 := Lib.hid ((sumGo_step hlt hp).symm.trans HT.out)
          rw [hp] at HS
          generalize (addZ t l[k]).1 = t2 at *
          clear hp
          generalize l[k] = x at *
          go_wp2_with fail
          refine (HS.out _).mono ?_
          rintro e w1 ⟨rfl, hf⟩
          have HF2 := Lib.hid (HF.out.trans0 hf)
          clear hf
          go_wp2_with fail
          go_roundw
          case rel => exact ⟨k + 1, t2, by omega, by go_num, rfl, HT2.out, HF2.out⟩
          case measure => simp [intOf]; omega
        · have HT2 := Lib.hid ((sumGo_stop hlt hp).symm.trans HT.out)
          have hne : ((addZ t l[k]).2 == 0) = false := by simpa using hp
          have hne2 : ((addZ t l[k]).2 != 0) = true := by simpa using hp
          generalize (addZ t l[k]).2 = e2 at *
          generalize (addZ t l[k]).1 = t2 at *
          clear hp
          generalize l[k] = x at *
          go_wp2_with fail
          refine (HS.out _).mono ?_
          rintro e w1 ⟨rfl, hf⟩
          have HF2 := Lib.hid (HF.out.trans0 hf)
          clear hf
          go_wp2_with fail
          go_ret2
          exact ⟨ret_two (c := 0) (d := 0) r HT2.out.symm, HF2.out⟩
      · have HT2 := Lib.hid ((sumGo_end (by omega)).symm.trans HT.out)
        have hge : l.length ≤ k := by omega
        go_wp2
        go_ret2
        exact ⟨ret_two (c := 0) (d := 0) r HT2.out.symm, HF.out⟩
def eN (e e1 : Int) : Int := if e = 0 then e1 else e
theorem mtook_any (b : Nat) (e n e1 : Int) (w : World) (h : Blk w b #[.int .i64 e] 169) :
    Calls Tryd.prog 149 #[.pointer (some ⟨b, 0, none⟩), .int .i64 n, .int .i64 e1] w fun x w' => x = .returned (.int .i64 n) ∧ Blk w' b #[.int .i64 (eN e e1)] 169 ∧ Fr (fun k => k = b) w w' := by
  have c0 := h.cell 0
  have q0 := h.free 0
  simp only [List.getElem?_toArray, List.getElem?_cons_zero] at c0
  have HB := Lib.hid h
  clear h
  by_cases h0 : e = 0
  · rw [show eN e e1 = e1 by unfold eN; rw [if_pos h0]]
    subst h0
    go_enter Tryd.func149, Tryd.ntmps149
    go_wp2
    go_ret
    exact ⟨rfl, HB.out.set 0 _, (Fr.refl (fun k => k = b) _).setCell (p := ⟨b, 0, none⟩) (.inl rfl) _⟩
  · rw [show eN e e1 = e by unfold eN; rw [if_neg h0]]
    have hne : (e == 0) = false := by simpa using h0
    go_enter Tryd.func149, Tryd.ntmps149
    go_wp2
    go_ret
    exact ⟨rfl, HB.out, Fr.refl _ _⟩
theorem mmul_any (b : Nat) (e x y : Int) (w : World) (h : Blk w b #[.int .i64 e] 169) :
    Calls Tryd.prog 146 #[.pointer (some ⟨b, 0, none⟩), .int .i64 x, .int .i64 y] w fun r w' => r = .returned (.int .i64 (mulZ x y).1) ∧ Blk w' b #[.int .i64 (eN e (mulZ x y).2)] 169 ∧ Fr (fun k => k = b) w w' := by
  have HB := Lib.hid h
  have HM := Lib.hid (fun w => fmul_any x y w)
  generalize mulZ x y = r at *
  clear h
  go_enter Tryd.func146, Tryd.ntmps146
  go_wp2_with fail
  refine (HM.out _).mono ?_
  rintro _ w1 ⟨rfl, h1⟩
  have H1 := Lib.hid h1
  clear h1
  go_wp2_with fail
  refine (mtook_any b e _ _ _ (HB.out.nob H1.out)).mono ?_
  rintro _ w2 ⟨rfl, h2, h3⟩
  have H2 := Lib.hid h2
  have H3 := Lib.hid ((H1.out.mono (T := fun k => k = b) fun _ hh => hh.elim).trans h3 fun k hk => .inl hk)
  clear h2 h3
  go_wp2_with fail
  go_ret
  exact ⟨rfl, H2.out, H3.out⟩
theorem msum_any (b : Nat) (e : Int) (v : Value) (l : List Int) (S : Nat → Prop) (w : World) (h : Blk w b #[.int .i64 e] 169) (hr : RowIn w S 1 v l.length (ints l)) :
    Calls Tryd.prog 147 #[.pointer (some ⟨b, 0, none⟩), v] w fun r w' => r = .returned (.int .i64 (sumZ l).1) ∧ Blk w' b #[.int .i64 (eN e (sumZ l).2)] 169 ∧ Fr (fun k => k = b) w w' := by
  have HB := Lib.hid h
  have HM := Lib.hid (fsum_any v l S w hr)
  obtain ⟨A, c, rfl, _⟩ := hr.form
  generalize sumZ l = r at *
  clear h hr
  go_enter Tryd.func147, Tryd.ntmps147
  go_wp2_with fail
  refine HM.out.mono ?_
  rintro _ w1 ⟨rfl, h1⟩
  have H1 := Lib.hid h1
  clear h1
  go_wp2_with fail
  refine (mtook_any b e _ _ _ (HB.out.nob H1.out)).mono ?_
  rintro _ w2 ⟨rfl, h2, h3⟩
  have H2 := Lib.hid h2
  have H3 := Lib.hid ((H1.out.mono (T := fun k => k = b) fun _ hh => hh.elim).trans h3 fun k hk => .inl hk)
  clear h2 h3
  go_wp2_with fail
  go_ret
  exact ⟨rfl, H2.out, H3.out⟩
end Go.Proofs.YtkkejjfmidgciaaDoor
