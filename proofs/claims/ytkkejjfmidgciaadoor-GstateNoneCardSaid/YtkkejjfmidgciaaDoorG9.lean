/-
  The walk of Save.
-/
import Derived.Test.YtkkejjfmidgciaaDoorG8
namespace Go.Proofs.YtkkejjfmidgciaaDoor
open Go.RowKit
set_option linter.unusedVariables false
set_option linter.unusedSimpArgs false
theorem infoLevel : (Tryd.prog.info? 121).map (fun i => (i.zero, i.size, i.bytes)) = some (some (.agg #[.int .i64 0, .int .i64 0, .int .i64 0, .int .i64 0, .int .i64 0, .int .i64 0, .int .i64 0, .int .i64 0, .int .i64 0, .int .i64 0, .int .i64 0, .int .i64 0, .int .i64 0, .int .i64 0, .int .i64 0, .slice none 0 0, .int .i64 0, .int .i64 0, .int .i64 0, .int .i64 0, .int .i64 0, .int .i64 0, .int .i64 0, .int .i64 0, .slice none 0 0, .bool false, .pointer none]), 27, 248) := by kernel_rfl
theorem gsave_none (w : World) : Calls Tryd.prog 36 #[.pointer none] w fun e w' => e = .returned (.int .i64 21) ∧ w = w' := by
  go_enter Tryd.func36, Tryd.ntmps36
  go_wp2
  go_ret
  exact ⟨rfl, rfl⟩
theorem gsave_over (g : Nat) (F : Nat → Prop) (s : GS) (w : World) (h : Gs w g F s) (hb : SmallS s) (ho : s.most ≤ s.saved.length) :
    Calls Tryd.prog 36 #[.pointer (some ⟨g, 0, none⟩)] w fun e w' => e = .returned (.int .i64 9) ∧ Fr Nob w w' := by
  obtain ⟨lab, x, sv, xs, h⟩ := h
  have c29 : w.cell? ⟨g, 29, none⟩ = some sv := h.cells.cell 29
  have c27 : w.cell? ⟨g, 27, none⟩ = some (.int .i64 s.most) := h.cells.cell 27
  obtain ⟨A, cap, rfl, _, _⟩ := h.o.form
  have hn := h.len
  rw [hn] at c29
  have hdec : decide (s.most ≤ (s.saved.length : Int)) = true := by simpa using ho
  have hbn := hb.n
  have hbm := hb.m
  clear h hn hb
  go_enter Tryd.func36, Tryd.ntmps36
  go_wp2
  go_quiet (fail)
  go_wp2
  go_ret
  exact ⟨rfl, (Fr.refl Nob w).drewN _⟩
set_option maxRecDepth 8000 in
set_option maxHeartbeats 6400000 in
theorem gsave_in (g : Nat) (F : Nat → Prop) (s : GS) (w : World) (h : Gs w g F s) (hb : SmallS s) (ho : ¬ s.most ≤ s.saved.length) :
    Calls Tryd.prog 36 #[.pointer (some ⟨g, 0, none⟩)] w fun e w' => e = .returned (.int .i64 0) ∧ GsTo w g F { s with saved := s.saved ++ [s.cur] } w' := by
  obtain ⟨i0, hi, hz0, hz1, hz2⟩ := info_parts infoLevel
  replace hi := Lib.hid hi
  replace hz0 := Lib.hid hz0
  replace hz1 := Lib.hid hz1
  replace hz2 := Lib.hid hz2
  obtain ⟨lab, x, sv, xs, h⟩ := h
  have c29 : w.cell? ⟨g, 29, none⟩ = some sv := h.cells.cell 29
  have c27 : w.cell? ⟨g, 27, none⟩ = some (.int .i64 s.most) := h.cells.cell 27
  obtain ⟨A, cap, hsv, _, _⟩ := h.o.form
  subst hsv
  have hn := h.len
  have hdec : decide (s.most ≤ (xs.length : Int)) = false := by rw [hn]; simpa using ho
  have hbn := hb.n
  rw [← hn] at hbn
  have hbm := hb.m
  have HC := Lib.hid h.c
  have HSG := Lib.hid hb.c
  have HPB := Lib.hid hb.p
  have HO := Lib.hid h.o
  have HH := Lib.hid h
  have hS : ∀ w', Fr (inB (.slice A xs.length cap)) w w' → (fun w' => w'.cell? ⟨g, 29, none⟩ = some (.slice A xs.length cap) ∧ w'.rangeAt g 0 (encL s.cur x)) w' := fun w' hw' => by
    have hb := h.cells.fr hw' h.ne
    exact ⟨hb.cell 29, hb.range 0 _ rfl⟩
  have HS := Lib.hid hS
  clear h hn hb hS
  go_enter Tryd.func36, Tryd.ntmps36
  go_wp2
  go_quiet (fail)
  go_wp2_with fail
--REGION
  refine wp_region_last' (ops := _) (o := _) (l := _) 14 rfl rfl rfl (fun w' => w'.cell? ⟨g, 29, none⟩ = some (.slice A xs.length cap) ∧ w'.rangeAt g 0 (encL s.cur x)) (by kernel_rfl) (by kernel_rfl) (HS.out _ (Fr.drew (Fr.drewN (Fr.refl _ w) _))) fun hH => ?_
  simp only [List.take_succ_cons, List.take_zero]
  refine wpAnyH_take (i := 0) (v := ?va1) rfl (by kernel_rfl) (by kernel_rfl) (by kernel_rfl) (fun _ _ _ h => h) (Or.inl ⟨by rfl, ?ha1⟩) hH ?ra1
  case ha1 => (intro w hSw; (try dsimp only at hSw); clear hSw; go_simp; (try with_reducible rfl))
  simp only [Act.put, List.getElem_toArray, List.getElem_cons_succ, List.getElem_cons_zero, List.setIfInBounds_toArray, List.set_cons_zero, List.set_cons_succ]
  refine wpAnyH_take (i := 1) (v := ?va2) rfl (by kernel_rfl) (by kernel_rfl) (by kernel_rfl) (fun _ _ _ h => h) (Or.inl ⟨by rfl, ?ha2⟩) hH ?ra2
  case ha2 => (intro w hSw; (try dsimp only at hSw); clear hSw; go_simp; (try with_reducible rfl))
  simp only [Act.put, List.getElem_toArray, List.getElem_cons_succ, List.getElem_cons_zero, List.setIfInBounds_toArray, List.set_cons_zero, List.set_cons_succ]
  refine wpAnyH_take (i := 2) (v := ?va3) rfl (by kernel_rfl) (by kernel_rfl) (by kernel_rfl) (fun _ _ _ h => h) (Or.inl ⟨by rfl, ?ha3⟩) hH ?ra3
  case ha3 => (intro w hSw; (try dsimp only at hSw); clear hSw; go_simp; (try with_reducible rfl))
  simp only [Act.put, List.getElem_toArray, List.getElem_cons_succ, List.getElem_cons_zero, List.setIfInBounds_toArray, List.set_cons_zero, List.set_cons_succ]
  refine wpAnyH_take (i := 3) (v := ?va4) rfl (by kernel_rfl) (by kernel_rfl) (by kernel_rfl) (fun _ _ _ h => h) (Or.inl ⟨by rfl, ?ha4⟩) hH ?ra4
  case ha4 => (intro w hSw; (try dsimp only at hSw); clear hSw; go_simp; (try with_reducible rfl))
  simp only [Act.put, List.getElem_toArray, List.getElem_cons_succ, List.getElem_cons_zero, List.setIfInBounds_toArray, List.set_cons_zero, List.set_cons_succ]
  refine wpAnyH_take (i := 4) (v := ?va5) rfl (by kernel_rfl) (by kernel_rfl) (by kernel_rfl) (fun _ _ _ h => h) (Or.inl ⟨by rfl, ?ha5⟩) hH ?ra5
  case ha5 => (intro w hSw; (try dsimp only at hSw); obtain ⟨hSw, _⟩ := hSw; go_simp; (try with_reducible rfl))
  simp only [Act.put, List.getElem_toArray, List.getElem_cons_succ, List.getElem_cons_zero, List.setIfInBounds_toArray, List.set_cons_zero, List.set_cons_succ]
  refine wpAnyH_take (i := 5) (v := ?va6) rfl (by kernel_rfl) (by kernel_rfl) (by kernel_rfl) (fun _ _ _ h => h) (Or.inl ⟨by rfl, ?ha6⟩) hH ?ra6
  case ha6 => (intro w hSw; (try dsimp only at hSw); clear hSw; go_simp; (try with_reducible rfl))
  simp only [Act.put, List.getElem_toArray, List.getElem_cons_succ, List.getElem_cons_zero, List.setIfInBounds_toArray, List.set_cons_zero, List.set_cons_succ]
  refine wpAnyH_take (i := 6) (v := ?va7) rfl (by kernel_rfl) (by kernel_rfl) (by kernel_rfl) (fun _ _ _ h => h) (Or.inl ⟨by rfl, ?ha7⟩) hH ?ra7
  case ha7 => (intro w hSw; (try dsimp only at hSw); clear hSw; go_simp; (try with_reducible rfl))
  simp only [Act.put, List.getElem_toArray, List.getElem_cons_succ, List.getElem_cons_zero, List.setIfInBounds_toArray, List.set_cons_zero, List.set_cons_succ]
  refine wpAnyH_take (i := 7) (v := ?va8) rfl (by kernel_rfl) (by kernel_rfl) (by kernel_rfl) (fun _ _ _ h => h) (Or.inl ⟨by rfl, ?ha8⟩) hH ?ra8
  case ha8 => (intro w hSw; (try dsimp only at hSw); clear hSw; go_simp; (try with_reducible rfl))
  simp only [Act.put, List.getElem_toArray, List.getElem_cons_succ, List.getElem_cons_zero, List.setIfInBounds_toArray, List.set_cons_zero, List.set_cons_succ]
  refine wpAnyH_take (i := 8) (v := _) rfl (by kernel_rfl) (by kernel_rfl) (by kernel_rfl) (fun _ _ _ h => h) (yieldsIf_load_mid (by rfl) 121 (.tmp 24) rfl g 0 rfl (encL s.cur x) _ (fun w hw => hw.2) Tryd.underlying121 rfl sizeL) hH ?_
  simp only [Act.put, List.getElem_toArray, List.getElem_cons_succ, List.getElem_cons_zero, List.setIfInBounds_toArray, List.set_cons_zero, List.set_cons_succ]
  refine held_one 9 rfl (by kernel_rfl) rfl fun K hK => ?_
  replace hK := Lib.hid hK
  clear hH
  go_simp
  refine (copied_any s.cur x _ _ _ (HC.out.fr (T := Nob) (by repeat (first | exact Fr.refl _ _ | refine Fr.alloc ?_ _ | refine Fr.drew ?_ | refine Fr.drewN ?_ _)) (fun _ _ hh => hh) fun _ _ hh => hh) HSG.out HPB.out).mono ?_
  unfold encL
  simp only [encG, List.cons_append, List.nil_append]
  rintro e w1 ⟨x', m, rfl, hn⟩
  have HN := Lib.hid (show LvNew w w1 s.cur x' m from hn.after (by repeat (first | exact Fr.refl _ _ | refine Fr.alloc ?_ _ | refine Fr.drew ?_ | refine Fr.drewN ?_ _)))
  obtain ⟨Ad, cd, hdv, _⟩ := hn.g.d.form
  obtain ⟨Ac, cc, hcv, _⟩ := hn.g.c.form
  have HONE := Lib.hid (encL_one s.cur x' ⟨_, _, _, hdv⟩ ⟨_, _, _, hcv⟩)
  clear hn hdv hcv
  dsimp only
  have hH := HS.out w1 (HN.out.f.mono fun _ hh => hh.elim)
  refine hK.out _ _ hH ?_
  clear hK K
  refine held_one 10 rfl (by kernel_rfl) rfl fun K hK => ?_
  replace hK := Lib.hid hK
  clear hH
  go_simp
  have hH := HS.out (w1.alloc (.cells (encL s.cur x').toArray 121)) ((HN.out.f.alloc _).mono fun _ hh => hh.elim)
  refine hK.out _ _ hH ?_
  clear hK K
  refine held_one 11 rfl (by kernel_rfl) rfl fun K hK => ?_
  replace hK := Lib.hid hK
  clear hH
  refine wp_app (.tmp 21) (.tmp 27) 122 rfl 121 i0 _ 27 248 Tryd.underlying122 hi.out hz0.out hz1.out hz2.out rfl (by decide) _ xs.length (encLs xs) (by rfl) (HO.out.nob (HN.out.f.alloc _)) _ _ 1 (encL s.cur x') (by rfl) ((Blk.new w1 (encL s.cur x').toArray 121).row rfl (by decide)) HONE.out (by unfold maxLen; omega) (by omega) ?_
  intro v' w4 hown hf4 hat hno
  have HO4 := Lib.hid hown
  have HF4 := Lib.hid hf4
  have HAT := Lib.hid hat
  obtain ⟨A4, cap4, rfl, _, _⟩ := hown.form
  clear hown hf4 hat hno
  have hH := HS.out w4 (((HN.out.f.alloc _).mono fun _ hh => hh.elim).trans HF4.out fun k hk => .inl hk)
  refine hK.out _ _ hH ?_
  simp only [Act.put, List.getElem_toArray, List.getElem_cons_succ, List.getElem_cons_zero, List.setIfInBounds_toArray, List.set_cons_zero, List.set_cons_succ]
  clear hK K
  refine wpAnyH_take (i := 12) (v := ?va13) rfl (by kernel_rfl) (by kernel_rfl) (by kernel_rfl) (fun _ _ _ h => h) (Or.inl ⟨by rfl, ?ha13⟩) hH ?ra13
  case ha13 => (intro w hSw; (try dsimp only at hSw); go_simp; (try with_reducible rfl))
  simp only [Act.put, List.getElem_toArray, List.getElem_cons_succ, List.getElem_cons_zero, List.setIfInBounds_toArray, List.set_cons_zero, List.set_cons_succ]
  refine wpAnyH_take (i := 13) (v := ?va14) rfl (by kernel_rfl) (by kernel_rfl) (by kernel_rfl) (fun _ _ _ h => h) (Or.inl ⟨by rfl, ?ha14⟩) hH ?ra14
  case ha14 => (intro w hSw; (try dsimp only at hSw); go_simp; (try with_reducible rfl))
  simp only [Act.put, List.getElem_toArray, List.getElem_cons_succ, List.getElem_cons_zero, List.setIfInBounds_toArray, List.set_cons_zero, List.set_cons_succ]
  refine wpAnyH_done (by kernel_rfl) ?_ _
  clear hH
  simp only [LastQ, List.getElem_cons_succ, List.getElem_cons_zero]
--END
  have hb4 := (HH.out.cells.nob (HN.out.f.alloc (.cells (encL s.cur x').toArray 121))).fr HF4.out HH.out.ne
  have k4 := hb4.cell 29
  have q4 := hb4.free 29
  simp only [List.getElem?_toArray, List.getElem?_cons_succ, List.getElem?_cons_zero] at k4
  have HB4 := Lib.hid hb4
  clear hb4
  go_simp
  go_wp2
  go_ret
  exact ⟨rfl, HH.out.push HN.out _ HF4.out HO4.out HAT.out ((Fr.refl (fun k => k = g) w4).setCell (p := ⟨g, 29, none⟩) (.inl rfl) _) (HB4.out.set 29 _)⟩
end Go.Proofs.YtkkejjfmidgciaaDoor
