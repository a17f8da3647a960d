/-
  The walk of the law GstateNone.
-/
import Derived.Test.YtkkejjfmidgciaaDoorG15
namespace Go.Proofs.YtkkejjfmidgciaaDoor
open Go.RowKit
set_option linter.unusedVariables false
set_option linter.unusedSimpArgs false
theorem GIn.start (w : World) : GIn w Nob nilV nilV gStart := ⟨RowIn.nil _ _ _, Clps.nil _ _⟩
theorem none_far (d n : Int) (m : M6) (v : Value) (l : List Int) (px py : Int) (S : Nat → Prop) (w : World) (h : RowIn w S 1 v l.length (ints l)) (hl : 100 < l.length) :
    Calls Tryd.prog 8 #[actV d n m v px py] w fun e w' => e = .returned (.bool true) ∧ Fr Nob w w' := by
  obtain ⟨A, c, rfl, _⟩ := h.form
  have HF := Lib.hid ((Fr.refl Nob w).alloc (.cells #[.int .i64 d, .int .i64 n, .int .i64 m.a, .int .i64 m.b, .int .i64 m.c, .int .i64 m.d, .int .i64 m.e, .int .i64 m.f, .slice A l.length c, .int .i64 px, .int .i64 py] 76))
  clear h
  unfold actV
  go_enter Tryd.func8, Tryd.ntmps8
  go_wp2_with fail
  refine (ans14_any _).mono ?_
  rintro e w1 ⟨rfl, h1⟩
  have H1 := Lib.hid (HF.out.trans0 h1)
  clear h1
  go_wp2_with fail
  go_ret
  exact ⟨rfl, H1.out⟩
set_option maxRecDepth 8000 in
set_option maxHeartbeats 1600000 in
theorem none_16 (d n : Int) (m : M6) (v : Value) (l : List Int) (px py : Int) (S : Nat → Prop) (w : World) (h : RowIn w S 1 v l.length (ints l)) (hl : l.length ≤ 100) (hd : d = 16) :
    Calls Tryd.prog 8 #[actV d n m v px py] w fun e w' => e = .returned (.bool true) ∧ Fr Nob w w' := by
  obtain ⟨A, c, rfl, _⟩ := h.form
  have hf : Fr Nob w (w.alloc (.cells #[.int .i64 d, .int .i64 n, .int .i64 m.a, .int .i64 m.b, .int .i64 m.c, .int .i64 m.d, .int .i64 m.e, .int .i64 m.f, .slice A l.length c, .int .i64 px, .int .i64 py] 76)) := (Fr.refl Nob w).alloc _
  have HF := Lib.hid hf
  have HB := Lib.hid (Blk.new w #[.int .i64 d, .int .i64 n, .int .i64 m.a, .int .i64 m.b, .int .i64 m.c, .int .i64 m.d, .int .i64 m.e, .int .i64 m.f, .slice A l.length c, .int .i64 px, .int .i64 py] 76)
  have HF1 := HF
  clear h hf
  subst hd
  unfold actV
  go_enter Tryd.func8, Tryd.ntmps8
  go_wp2_with fail
  refine (ans14_any _).mono ?_
  rintro e w2 ⟨rfl, h2⟩
  have H2 := Lib.hid (HF1.out.trans0 h2)
  clear h2
  go_wp2_with fail
  refine (gpath_none _).mono ?_
  rintro e w3 ⟨rfl, rfl⟩
  go_wp2_with fail
  refine (gdepth_none _).mono ?_
  rintro e w3 ⟨rfl, rfl⟩
  go_wp2_with fail
  refine (gcopy_none _).mono ?_
  rintro e w3 ⟨rfl, rfl⟩
  go_wp2_with fail
  refine (gnow_none _).mono ?_
  rintro e w3 ⟨rfl, h3⟩
  have H3 := Lib.hid (H2.out.trans0 h3)
  clear h3
  go_wp2_with fail
  refine (start_any _).mono ?_
  rintro e w4 ⟨rfl, h4⟩
  have H4 := Lib.hid (H3.out.trans0 h4)
  clear h4
  go_wp2_with fail
  refine (alike_same gStart nilV nilV nilV nilV Nob Nob _ (GIn.start _) (GIn.start _)).mono ?_
  rintro e w5 ⟨rfl, h5⟩
  have H5 := Lib.hid (H4.out.trans0 h5)
  clear h5
  go_wp2_with fail
  refine (start_any _).mono ?_
  rintro e w6 ⟨rfl, h6⟩
  have H6 := Lib.hid (H5.out.trans0 h6)
  clear h6
  go_wp2_with fail
  refine (rstart_any 1 _).mono ?_
  rintro e w7 ⟨rfl, h7⟩
  have H7 := Lib.hid (H6.out.trans0 h7)
  clear h7
  go_wp2_with fail
  refine (same_same gStart nilV nilV nilV nilV Nob Nob _ (GIn.start _) (GIn.start _) 1 nilV).mono ?_
  rintro e w8 ⟨rfl, h8⟩
  have H8 := Lib.hid (H7.out.trans0 h8)
  clear h8
  go_wp2_with fail
  go_ret
  exact ⟨rfl, H8.out⟩
set_option maxRecDepth 8000 in
set_option maxHeartbeats 1600000 in
theorem none_lo (d n : Int) (m : M6) (v : Value) (l : List Int) (px py : Int) (S : Nat → Prop) (w : World) (h : RowIn w S 1 v l.length (ints l)) (hl : l.length ≤ 100) (hd : d < 1) :
    Calls Tryd.prog 8 #[actV d n m v px py] w fun e w' => e = .returned (.bool true) ∧ Fr Nob w w' := by
  obtain ⟨A, c, rfl, _⟩ := h.form
  have hf : Fr Nob w (w.alloc (.cells #[.int .i64 d, .int .i64 n, .int .i64 m.a, .int .i64 m.b, .int .i64 m.c, .int .i64 m.d, .int .i64 m.e, .int .i64 m.f, .slice A l.length c, .int .i64 px, .int .i64 py] 76)) := (Fr.refl Nob w).alloc _
  have HF := Lib.hid hf
  have HB := Lib.hid (Blk.new w #[.int .i64 d, .int .i64 n, .int .i64 m.a, .int .i64 m.b, .int .i64 m.c, .int .i64 m.d, .int .i64 m.e, .int .i64 m.f, .slice A l.length c, .int .i64 px, .int .i64 py] 76)
  have HC := Lib.hid (call_none d n m _ l px py S _ (h.nob hf) hl (by omega))
  rw [show noneE d = 0 by unfold noneE; rw [if_neg (by omega)]] at HC
  have h16' : ¬ d = 16 := by omega
  clear h hf
  unfold actV
  go_enter Tryd.func8, Tryd.ntmps8
  go_wp2_with fail
  refine HC.out.mono ?_
  rintro e w1 ⟨rfl, h1⟩
  have HF1 := Lib.hid (HF.out.trans0 h1)
  have d1 : w1.cell? ⟨w.heap.size, 0, none⟩ = some (.int .i64 d) := (HB.out.nob h1).cell 0
  clear h1
  go_wp2_with fail
  refine (ans14_any _).mono ?_
  rintro e w2 ⟨rfl, h2⟩
  have H2 := Lib.hid (HF1.out.trans0 h2)
  clear h2
  go_wp2_with fail
  refine (gpath_none _).mono ?_
  rintro e w3 ⟨rfl, rfl⟩
  go_wp2_with fail
  refine (gdepth_none _).mono ?_
  rintro e w3 ⟨rfl, rfl⟩
  go_wp2_with fail
  refine (gcopy_none _).mono ?_
  rintro e w3 ⟨rfl, rfl⟩
  go_wp2_with fail
  refine (gnow_none _).mono ?_
  rintro e w3 ⟨rfl, h3⟩
  have H3 := Lib.hid (H2.out.trans0 h3)
  clear h3
  go_wp2_with fail
  refine (start_any _).mono ?_
  rintro e w4 ⟨rfl, h4⟩
  have H4 := Lib.hid (H3.out.trans0 h4)
  clear h4
  go_wp2_with fail
  refine (alike_same gStart nilV nilV nilV nilV Nob Nob _ (GIn.start _) (GIn.start _)).mono ?_
  rintro e w5 ⟨rfl, h5⟩
  have H5 := Lib.hid (H4.out.trans0 h5)
  clear h5
  go_wp2_with fail
  refine (start_any _).mono ?_
  rintro e w6 ⟨rfl, h6⟩
  have H6 := Lib.hid (H5.out.trans0 h6)
  clear h6
  go_wp2_with fail
  refine (rstart_any 1 _).mono ?_
  rintro e w7 ⟨rfl, h7⟩
  have H7 := Lib.hid (H6.out.trans0 h7)
  clear h7
  go_wp2_with fail
  refine (same_same gStart nilV nilV nilV nilV Nob Nob _ (GIn.start _) (GIn.start _) 1 nilV).mono ?_
  rintro e w8 ⟨rfl, h8⟩
  have H8 := Lib.hid (H7.out.trans0 h8)
  clear h8
  go_wp2_with fail
  go_ret
  exact ⟨rfl, H8.out⟩
set_option maxRecDepth 8000 in
set_option maxHeartbeats 1600000 in
theorem none_hi (d n : Int) (m : M6) (v : Value) (l : List Int) (px py : Int) (S : Nat → Prop) (w : World) (h : RowIn w S 1 v l.length (ints l)) (hl : l.length ≤ 100) (hd : 14 < d) (h16 : ¬ d = 16) :
    Calls Tryd.prog 8 #[actV d n m v px py] w fun e w' => e = .returned (.bool true) ∧ Fr Nob w w' := by
  obtain ⟨A, c, rfl, _⟩ := h.form
  have hf : Fr Nob w (w.alloc (.cells #[.int .i64 d, .int .i64 n, .int .i64 m.a, .int .i64 m.b, .int .i64 m.c, .int .i64 m.d, .int .i64 m.e, .int .i64 m.f, .slice A l.length c, .int .i64 px, .int .i64 py] 76)) := (Fr.refl Nob w).alloc _
  have HF := Lib.hid hf
  have HB := Lib.hid (Blk.new w #[.int .i64 d, .int .i64 n, .int .i64 m.a, .int .i64 m.b, .int .i64 m.c, .int .i64 m.d, .int .i64 m.e, .int .i64 m.f, .slice A l.length c, .int .i64 px, .int .i64 py] 76)
  have HC := Lib.hid (call_none d n m _ l px py S _ (h.nob hf) hl (by omega))
  rw [show noneE d = 0 by unfold noneE; rw [if_neg (by omega)]] at HC
  have h16' : ¬ d = 16 := by omega
  clear h hf
  unfold actV
  go_enter Tryd.func8, Tryd.ntmps8
  go_wp2_with fail
  refine HC.out.mono ?_
  rintro e w1 ⟨rfl, h1⟩
  have HF1 := Lib.hid (HF.out.trans0 h1)
  have d1 : w1.cell? ⟨w.heap.size, 0, none⟩ = some (.int .i64 d) := (HB.out.nob h1).cell 0
  clear h1
  go_wp2_with fail
  refine (ans14_any _).mono ?_
  rintro e w2 ⟨rfl, h2⟩
  have H2 := Lib.hid (HF1.out.trans0 h2)
  clear h2
  go_wp2_with fail
  refine (gpath_none _).mono ?_
  rintro e w3 ⟨rfl, rfl⟩
  go_wp2_with fail
  refine (gdepth_none _).mono ?_
  rintro e w3 ⟨rfl, rfl⟩
  go_wp2_with fail
  refine (gcopy_none _).mono ?_
  rintro e w3 ⟨rfl, rfl⟩
  go_wp2_with fail
  refine (gnow_none _).mono ?_
  rintro e w3 ⟨rfl, h3⟩
  have H3 := Lib.hid (H2.out.trans0 h3)
  clear h3
  go_wp2_with fail
  refine (start_any _).mono ?_
  rintro e w4 ⟨rfl, h4⟩
  have H4 := Lib.hid (H3.out.trans0 h4)
  clear h4
  go_wp2_with fail
  refine (alike_same gStart nilV nilV nilV nilV Nob Nob _ (GIn.start _) (GIn.start _)).mono ?_
  rintro e w5 ⟨rfl, h5⟩
  have H5 := Lib.hid (H4.out.trans0 h5)
  clear h5
  go_wp2_with fail
  refine (start_any _).mono ?_
  rintro e w6 ⟨rfl, h6⟩
  have H6 := Lib.hid (H5.out.trans0 h6)
  clear h6
  go_wp2_with fail
  refine (rstart_any 1 _).mono ?_
  rintro e w7 ⟨rfl, h7⟩
  have H7 := Lib.hid (H6.out.trans0 h7)
  clear h7
  go_wp2_with fail
  refine (same_same gStart nilV nilV nilV nilV Nob Nob _ (GIn.start _) (GIn.start _) 1 nilV).mono ?_
  rintro e w8 ⟨rfl, h8⟩
  have H8 := Lib.hid (H7.out.trans0 h8)
  clear h8
  go_wp2_with fail
  go_ret
  exact ⟨rfl, H8.out⟩
set_option maxRecDepth 8000 in
set_option maxHeartbeats 1600000 in
theorem none_mid (d n : Int) (m : M6) (v : Value) (l : List Int) (px py : Int) (S : Nat → Prop) (w : World) (h : RowIn w S 1 v l.length (ints l)) (hl : l.length ≤ 100) (hd : 2 ≤ d) (hd' : d ≤ 4) :
    Calls Tryd.prog 8 #[actV d n m v px py] w fun e w' => e = .returned (.bool true) ∧ Fr Nob w w' := by
  obtain ⟨A, c, rfl, _⟩ := h.form
  have hf : Fr Nob w (w.alloc (.cells #[.int .i64 d, .int .i64 n, .int .i64 m.a, .int .i64 m.b, .int .i64 m.c, .int .i64 m.d, .int .i64 m.e, .int .i64 m.f, .slice A l.length c, .int .i64 px, .int .i64 py] 76)) := (Fr.refl Nob w).alloc _
  have HF := Lib.hid hf
  have HB := Lib.hid (Blk.new w #[.int .i64 d, .int .i64 n, .int .i64 m.a, .int .i64 m.b, .int .i64 m.c, .int .i64 m.d, .int .i64 m.e, .int .i64 m.f, .slice A l.length c, .int .i64 px, .int .i64 py] 76)
  have HC := Lib.hid (call_none d n m _ l px py S _ (h.nob hf) hl (by omega))
  rw [show noneE d = 0 by unfold noneE; rw [if_neg (by omega)]] at HC
  have h16' : ¬ d = 16 := by omega
  clear h hf
  unfold actV
  go_enter Tryd.func8, Tryd.ntmps8
  go_wp2_with fail
  refine HC.out.mono ?_
  rintro e w1 ⟨rfl, h1⟩
  have HF1 := Lib.hid (HF.out.trans0 h1)
  have d1 : w1.cell? ⟨w.heap.size, 0, none⟩ = some (.int .i64 d) := (HB.out.nob h1).cell 0
  clear h1
  go_wp2_with fail
  refine (ans14_any _).mono ?_
  rintro e w2 ⟨rfl, h2⟩
  have H2 := Lib.hid (HF1.out.trans0 h2)
  clear h2
  go_wp2_with fail
  refine (gpath_none _).mono ?_
  rintro e w3 ⟨rfl, rfl⟩
  go_wp2_with fail
  refine (gdepth_none _).mono ?_
  rintro e w3 ⟨rfl, rfl⟩
  go_wp2_with fail
  refine (gcopy_none _).mono ?_
  rintro e w3 ⟨rfl, rfl⟩
  go_wp2_with fail
  refine (gnow_none _).mono ?_
  rintro e w3 ⟨rfl, h3⟩
  have H3 := Lib.hid (H2.out.trans0 h3)
  clear h3
  go_wp2_with fail
  refine (start_any _).mono ?_
  rintro e w4 ⟨rfl, h4⟩
  have H4 := Lib.hid (H3.out.trans0 h4)
  clear h4
  go_wp2_with fail
  refine (alike_same gStart nilV nilV nilV nilV Nob Nob _ (GIn.start _) (GIn.start _)).mono ?_
  rintro e w5 ⟨rfl, h5⟩
  have H5 := Lib.hid (H4.out.trans0 h5)
  clear h5
  go_wp2_with fail
  refine (start_any _).mono ?_
  rintro e w6 ⟨rfl, h6⟩
  have H6 := Lib.hid (H5.out.trans0 h6)
  clear h6
  go_wp2_with fail
  refine (rstart_any 1 _).mono ?_
  rintro e w7 ⟨rfl, h7⟩
  have H7 := Lib.hid (H6.out.trans0 h7)
  clear h7
  go_wp2_with fail
  refine (same_same gStart nilV nilV nilV nilV Nob Nob _ (GIn.start _) (GIn.start _) 1 nilV).mono ?_
  rintro e w8 ⟨rfl, h8⟩
  have H8 := Lib.hid (H7.out.trans0 h8)
  clear h8
  go_wp2_with fail
  go_ret
  exact ⟨rfl, H8.out⟩
set_option maxRecDepth 8000 in
set_option maxHeartbeats 1600000 in
theorem none_err (d n : Int) (m : M6) (v : Value) (l : List Int) (px py : Int) (S : Nat → Prop) (w : World) (h : RowIn w S 1 v l.length (ints l)) (hl : l.length ≤ 100) (hd : 1 ≤ d) (hd2 : d ≤ 14) (hd3 : ¬ (2 ≤ d ∧ d ≤ 4)) :
    Calls Tryd.prog 8 #[actV d n m v px py] w fun e w' => e = .returned (.bool true) ∧ Fr Nob w w' := by
  obtain ⟨A, c, rfl, _⟩ := h.form
  have hf : Fr Nob w (w.alloc (.cells #[.int .i64 d, .int .i64 n, .int .i64 m.a, .int .i64 m.b, .int .i64 m.c, .int .i64 m.d, .int .i64 m.e, .int .i64 m.f, .slice A l.length c, .int .i64 px, .int .i64 py] 76)) := (Fr.refl Nob w).alloc _
  have HF := Lib.hid hf
  have HB := Lib.hid (Blk.new w #[.int .i64 d, .int .i64 n, .int .i64 m.a, .int .i64 m.b, .int .i64 m.c, .int .i64 m.d, .int .i64 m.e, .int .i64 m.f, .slice A l.length c, .int .i64 px, .int .i64 py] 76)
  have HC := Lib.hid (call_none d n m _ l px py S _ (h.nob hf) hl (by omega))
  rw [show noneE d = 21 by unfold noneE; rw [if_pos (by omega)]] at HC
  have h16' : ¬ d = 16 := by omega
  have h1' : ¬ d < 1 := by omega
  have h14 : ¬ 14 < d := by omega
  by_cases h2 : 2 ≤ d
  · have h4 : ¬ d ≤ 4 := by omega
    clear h hf
    unfold actV
    go_enter Tryd.func8, Tryd.ntmps8
    go_wp2_with fail
    refine HC.out.mono ?_
    rintro e w1 ⟨rfl, h1⟩
    have HF1 := Lib.hid (HF.out.trans0 h1)
    have d1 : w1.cell? ⟨w.heap.size, 0, none⟩ = some (.int .i64 d) := (HB.out.nob h1).cell 0
    clear h1
    go_wp2_with fail
    refine (ans14_any _).mono ?_
    rintro e w2 ⟨rfl, h2⟩
    have H2 := Lib.hid (HF1.out.trans0 h2)
    clear h2
    go_wp2_with fail
    refine (gpath_none _).mono ?_
    rintro e w3 ⟨rfl, rfl⟩
    go_wp2_with fail
    refine (gdepth_none _).mono ?_
    rintro e w3 ⟨rfl, rfl⟩
    go_wp2_with fail
    refine (gcopy_none _).mono ?_
    rintro e w3 ⟨rfl, rfl⟩
    go_wp2_with fail
    refine (gnow_none _).mono ?_
    rintro e w3 ⟨rfl, h3⟩
    have H3 := Lib.hid (H2.out.trans0 h3)
    clear h3
    go_wp2_with fail
    refine (start_any _).mono ?_
    rintro e w4 ⟨rfl, h4⟩
    have H4 := Lib.hid (H3.out.trans0 h4)
    clear h4
    go_wp2_with fail
    refine (alike_same gStart nilV nilV nilV nilV Nob Nob _ (GIn.start _) (GIn.start _)).mono ?_
    rintro e w5 ⟨rfl, h5⟩
    have H5 := Lib.hid (H4.out.trans0 h5)
    clear h5
    go_wp2_with fail
    refine (start_any _).mono ?_
    rintro e w6 ⟨rfl, h6⟩
    have H6 := Lib.hid (H5.out.trans0 h6)
    clear h6
    go_wp2_with fail
    refine (rstart_any 1 _).mono ?_
    rintro e w7 ⟨rfl, h7⟩
    have H7 := Lib.hid (H6.out.trans0 h7)
    clear h7
    go_wp2_with fail
    refine (same_same gStart nilV nilV nilV nilV Nob Nob _ (GIn.start _) (GIn.start _) 1 nilV).mono ?_
    rintro e w8 ⟨rfl, h8⟩
    have H8 := Lib.hid (H7.out.trans0 h8)
    clear h8
    go_wp2_with fail
    go_ret
    exact ⟨rfl, H8.out⟩
  · have h4 : True := trivial
    clear h4
    clear h hf
    unfold actV
    go_enter Tryd.func8, Tryd.ntmps8
    go_wp2_with fail
    refine HC.out.mono ?_
    rintro e w1 ⟨rfl, h1⟩
    have HF1 := Lib.hid (HF.out.trans0 h1)
    have d1 : w1.cell? ⟨w.heap.size, 0, none⟩ = some (.int .i64 d) := (HB.out.nob h1).cell 0
    clear h1
    go_wp2_with fail
    refine (ans14_any _).mono ?_
    rintro e w2 ⟨rfl, h2⟩
    have H2 := Lib.hid (HF1.out.trans0 h2)
    clear h2
    go_wp2_with fail
    refine (gpath_none _).mono ?_
    rintro e w3 ⟨rfl, rfl⟩
    go_wp2_with fail
    refine (gdepth_none _).mono ?_
    rintro e w3 ⟨rfl, rfl⟩
    go_wp2_with fail
    refine (gcopy_none _).mono ?_
    rintro e w3 ⟨rfl, rfl⟩
    go_wp2_with fail
    refine (gnow_none _).mono ?_
    rintro e w3 ⟨rfl, h3⟩
    have H3 := Lib.hid (H2.out.trans0 h3)
    clear h3
    go_wp2_with fail
    refine (start_any _).mono ?_
    rintro e w4 ⟨rfl, h4⟩
    have H4 := Lib.hid (H3.out.trans0 h4)
    clear h4
    go_wp2_with fail
    refine (alike_same gStart nilV nilV nilV nilV Nob Nob _ (GIn.start _) (GIn.start _)).mono ?_
    rintro e w5 ⟨rfl, h5⟩
    have H5 := Lib.hid (H4.out.trans0 h5)
    clear h5
    go_wp2_with fail
    refine (start_any _).mono ?_
    rintro e w6 ⟨rfl, h6⟩
    have H6 := Lib.hid (H5.out.trans0 h6)
    clear h6
    go_wp2_with fail
    refine (rstart_any 1 _).mono ?_
    rintro e w7 ⟨rfl, h7⟩
    have H7 := Lib.hid (H6.out.trans0 h7)
    clear h7
    go_wp2_with fail
    refine (same_same gStart nilV nilV nilV nilV Nob Nob _ (GIn.start _) (GIn.start _) 1 nilV).mono ?_
    rintro e w8 ⟨rfl, h8⟩
    have H8 := Lib.hid (H7.out.trans0 h8)
    clear h8
    go_wp2_with fail
    go_ret
    exact ⟨rfl, H8.out⟩
theorem none_walk14 (d n : Int) (m : M6) (v : Value) (l : List Int) (px py : Int) (S : Nat → Prop) (w : World) (h : RowIn w S 1 v l.length (ints l)) : Calls Tryd.prog 8 #[actV d n m v px py] w fun e w' => e = .returned (.bool true) ∧ Fr Nob w w' := by
  by_cases hl : 100 < l.length
  · exact none_far d n m v l px py S w h hl
  · by_cases h16 : d = 16
    · exact none_16 d n m v l px py S w h (by omega) h16
    · by_cases h1 : d < 1
      · exact none_lo d n m v l px py S w h (by omega) h1
      · by_cases h2 : 14 < d
        · exact none_hi d n m v l px py S w h (by omega) h2 h16
        · by_cases h3 : 2 ≤ d ∧ d ≤ 4
          · exact none_mid d n m v l px py S w h (by omega) h3.1 h3.2
          · exact none_err d n m v l px py S w h (by omega) (by omega) (by omega) h3
end Go.Proofs.YtkkejjfmidgciaaDoor
