/-
  Texts joined in build order: The walk of mat.Concat, of the states' Concat. The walk of the states' Concat.
-/
import Derived.Test.YtkkejjfmidgciaaDoorJSNone8
/- The walk of mat.Concat, of the states' Concat. -/
namespace Go.Proofs.YtkkejjfmidgciaaDoor
open Go.RowKit
set_option linter.unusedVariables false
set_option linter.unusedSimpArgs false
def m0 : M6 := ⟨0, 0, 0, 0, 0, 0⟩
def concatZ (a b : M6) : M6 × Int :=
  if ¬ (deltaZ b ⟨a.a, a.b⟩).2 = 0 then (m0, (deltaZ b ⟨a.a, a.b⟩).2)
  else if ¬ (deltaZ b ⟨a.c, a.d⟩).2 = 0 then (m0, (deltaZ b ⟨a.c, a.d⟩).2)
  else if ¬ (applyZ b ⟨a.e, a.f⟩).2 = 0 then (m0, (applyZ b ⟨a.e, a.f⟩).2)
  else (⟨(deltaZ b ⟨a.a, a.b⟩).1.x, (deltaZ b ⟨a.a, a.b⟩).1.y, (deltaZ b ⟨a.c, a.d⟩).1.x, (deltaZ b ⟨a.c, a.d⟩).1.y, (applyZ b ⟨a.e, a.f⟩).1.x, (applyZ b ⟨a.e, a.f⟩).1.y⟩, 0)
def pairM (r : M6 × Int) : Value := .tuple #[mV r.1, .int .i64 r.2]
set_option maxRecDepth 8000 in
set_option maxHeartbeats 1600000 in
theorem mconcat_1 (a b : M6) (w : World) (hu : ¬ (deltaZ b ⟨a.a, a.b⟩).2 = 0) : Calls Tryd.prog 114 #[mV a, mV b] w fun r w' => r = .returned (pairM (m0, (deltaZ b ⟨a.a, a.b⟩).2)) ∧ Fr Nob w w' := by
  have HC1 := Lib.hid (fun w => mdelta_any b ⟨a.a, a.b⟩ w)
  have HC2 := Lib.hid (fun w => mdelta_any b ⟨a.c, a.d⟩ w)
  have HC3 := Lib.hid (fun w => mapply_any b ⟨a.e, a.f⟩ w)
  generalize deltaZ b ⟨a.a, a.b⟩ = u at *
  generalize deltaZ b ⟨a.c, a.d⟩ = v at *
  generalize applyZ b ⟨a.e, a.f⟩ = t at *
  have hu1 : (u.2 == 0) = false := by simpa using hu
  have hu2 : (u.2 != 0) = true := by simpa using hu
  clear hu
  have HA0 := Lib.hid (show Blk (((w.alloc (.cells #[.int .i64 a.a, .int .i64 a.b, .int .i64 a.c, .int .i64 a.d, .int .i64 a.e, .int .i64 a.f] 33)).alloc (.cells #[.int .i64 b.a, .int .i64 b.b, .int .i64 b.c, .int .i64 b.d, .int .i64 b.e, .int .i64 b.f] 33)).alloc (.cells #[.int .i64 0, .int .i64 0, .int .i64 0, .int .i64 0, .int .i64 0, .int .i64 0] 33)) w.heap.size (encM a).toArray 33 from ((Blk.new w _ _).alloc _).alloc _)
  have HB0 := Lib.hid (show Blk (((w.alloc (.cells #[.int .i64 a.a, .int .i64 a.b, .int .i64 a.c, .int .i64 a.d, .int .i64 a.e, .int .i64 a.f] 33)).alloc (.cells #[.int .i64 b.a, .int .i64 b.b, .int .i64 b.c, .int .i64 b.d, .int .i64 b.e, .int .i64 b.f] 33)).alloc (.cells #[.int .i64 0, .int .i64 0, .int .i64 0, .int .i64 0, .int .i64 0, .int .i64 0] 33)) (w.heap.size + 1) (encM b).toArray 33 from (Blk.new1 w _ _ _).alloc _)
  have HZ0 := Lib.hid (show Blk (((w.alloc (.cells #[.int .i64 a.a, .int .i64 a.b, .int .i64 a.c, .int .i64 a.d, .int .i64 a.e, .int .i64 a.f] 33)).alloc (.cells #[.int .i64 b.a, .int .i64 b.b, .int .i64 b.c, .int .i64 b.d, .int .i64 b.e, .int .i64 b.f] 33)).alloc (.cells #[.int .i64 0, .int .i64 0, .int .i64 0, .int .i64 0, .int .i64 0, .int .i64 0] 33)) (w.heap.size + 2) (encM m0).toArray 33 from Blk.new2 w _ _ _ _)
  have F0 := Lib.hid (show Fr Nob w (((w.alloc (.cells #[.int .i64 a.a, .int .i64 a.b, .int .i64 a.c, .int .i64 a.d, .int .i64 a.e, .int .i64 a.f] 33)).alloc (.cells #[.int .i64 b.a, .int .i64 b.b, .int .i64 b.c, .int .i64 b.d, .int .i64 b.e, .int .i64 b.f] 33)).alloc (.cells #[.int .i64 0, .int .i64 0, .int .i64 0, .int .i64 0, .int .i64 0, .int .i64 0] 33)) from (((Fr.refl Nob w).alloc _).alloc _).alloc _)
  unfold pairM mV
  go_enter Tryd.func114, Tryd.ntmps114
  go_upto_region 1 with (fail)
  generalize ((w.alloc (.cells #[.int .i64 a.a, .int .i64 a.b, .int .i64 a.c, .int .i64 a.d, .int .i64 a.e, .int .i64 a.f] 33)).alloc (.cells #[.int .i64 b.a, .int .i64 b.b, .int .i64 b.c, .int .i64 b.d, .int .i64 b.e, .int .i64 b.f] 33)).alloc (.cells #[.int .i64 0, .int .i64 0, .int .i64 0, .int .i64 0, .int .i64 0, .int .i64 0] 33) = wa at *
  have a0 : wa.cell? ⟨w.heap.size, 0, none⟩ = some (.int .i64 a.a) := HA0.out.cell 0
  have a1 : wa.cell? ⟨w.heap.size, 1, none⟩ = some (.int .i64 a.b) := HA0.out.cell 1
  go_wp2_with (refine wpList_getAt rfl 33 (.tmp 3) rfl (w.heap.size + 1) 0 (by rfl) (encM b) _ (HB0.out.range 0 _ (by rfl)) Tryd.underlying33 rfl sizeM6 ?_)
  refine (HC1.out _).mono ?_
  unfold pairV ptV
  rintro _ w1 ⟨rfl, f1⟩
  have F1' := Lib.hid (F0.out.trans0 f1)
  have HA1' := Lib.hid (HA0.out.nob f1)
  have HB1' := Lib.hid (HB0.out.nob f1)
  have HZ1' := Lib.hid (HZ0.out.nob f1)
  clear f1 a0 a1
  have hx1 : Fr Nob w1 (w1.alloc (.cells #[.int .i64 u.1.x, .int .i64 u.1.y] 56)) := (Fr.refl Nob w1).alloc _
  have F1 := Lib.hid (F1'.out.trans0 hx1)
  have HA1 := Lib.hid (HA1'.out.nob hx1)
  have HB1 := Lib.hid (HB1'.out.nob hx1)
  have HZ1 := Lib.hid (HZ1'.out.nob hx1)
  have HU1 := Lib.hid (Blk.new w1 #[.int .i64 u.1.x, .int .i64 u.1.y] 56)
  clear hx1 F1' HA1' HB1' HZ1'
  go_upto_region 2 with (fail)
  generalize w1.alloc (.cells #[.int .i64 u.1.x, .int .i64 u.1.y] 56) = x1 at *
  go_wp2_with (refine wpList_putAt rfl 33 (.tmp 4) (.tmp 22) rfl (w.heap.size + 2) 0 (encM m0) (by rfl) (by rfl) 33 _ HZ1.out (Nat.le_refl 6) sizeM6 (encM_one _) ?_)
  intro w9 hb9 hf9
  rw [over_all (encM m0).toArray (encM m0) rfl] at hb9
  have HB9 := Lib.hid hb9
  have HF9 := Lib.hid (F1.out.trans hf9 fun k hk => .inr (by rw [hk]; omega))
  clear hb9 hf9
  go_wp2_with fail
  exact bodyPost_ret (results_ct rfl _ _ _ 33 _ _ rfl HB9.out Tryd.underlying33 rfl (by kernel_rfl)) rfl ⟨rfl, HF9.out⟩
set_option maxRecDepth 8000 in
set_option maxHeartbeats 1600000 in
theorem mconcat_2 (a b : M6) (w : World) (hu : (deltaZ b ⟨a.a, a.b⟩).2 = 0) (hv : ¬ (deltaZ b ⟨a.c, a.d⟩).2 = 0) : Calls Tryd.prog 114 #[mV a, mV b] w fun r w' => r = .returned (pairM (m0, (deltaZ b ⟨a.c, a.d⟩).2)) ∧ Fr Nob w w' := by
  have HC1 := Lib.hid (fun w => mdelta_any b ⟨a.a, a.b⟩ w)
  have HC2 := Lib.hid (fun w => mdelta_any b ⟨a.c, a.d⟩ w)
  have HC3 := Lib.hid (fun w => mapply_any b ⟨a.e, a.f⟩ w)
  generalize deltaZ b ⟨a.a, a.b⟩ = u at *
  generalize deltaZ b ⟨a.c, a.d⟩ = v at *
  generalize applyZ b ⟨a.e, a.f⟩ = t at *
  have hu1 : (u.2 == 0) = true := by simpa using hu
  have hu2 : (u.2 != 0) = false := by simpa using hu
  have hv1 : (v.2 == 0) = false := by simpa using hv
  have hv2 : (v.2 != 0) = true := by simpa using hv
  clear hu hv
  have HA0 := Lib.hid (show Blk (((w.alloc (.cells #[.int .i64 a.a, .int .i64 a.b, .int .i64 a.c, .int .i64 a.d, .int .i64 a.e, .int .i64 a.f] 33)).alloc (.cells #[.int .i64 b.a, .int .i64 b.b, .int .i64 b.c, .int .i64 b.d, .int .i64 b.e, .int .i64 b.f] 33)).alloc (.cells #[.int .i64 0, .int .i64 0, .int .i64 0, .int .i64 0, .int .i64 0, .int .i64 0] 33)) w.heap.size (encM a).toArray 33 from ((Blk.new w _ _).alloc _).alloc _)
  have HB0 := Lib.hid (show Blk (((w.alloc (.cells #[.int .i64 a.a, .int .i64 a.b, .int .i64 a.c, .int .i64 a.d, .int .i64 a.e, .int .i64 a.f] 33)).alloc (.cells #[.int .i64 b.a, .int .i64 b.b, .int .i64 b.c, .int .i64 b.d, .int .i64 b.e, .int .i64 b.f] 33)).alloc (.cells #[.int .i64 0, .int .i64 0, .int .i64 0, .int .i64 0, .int .i64 0, .int .i64 0] 33)) (w.heap.size + 1) (encM b).toArray 33 from (Blk.new1 w _ _ _).alloc _)
  have HZ0 := Lib.hid (show Blk (((w.alloc (.cells #[.int .i64 a.a, .int .i64 a.b, .int .i64 a.c, .int .i64 a.d, .int .i64 a.e, .int .i64 a.f] 33)).alloc (.cells #[.int .i64 b.a, .int .i64 b.b, .int .i64 b.c, .int .i64 b.d, .int .i64 b.e, .int .i64 b.f] 33)).alloc (.cells #[.int .i64 0, .int .i64 0, .int .i64 0, .int .i64 0, .int .i64 0, .int .i64 0] 33)) (w.heap.size + 2) (encM m0).toArray 33 from Blk.new2 w _ _ _ _)
  have F0 := Lib.hid (show Fr Nob w (((w.alloc (.cells #[.int .i64 a.a, .int .i64 a.b, .int .i64 a.c, .int .i64 a.d, .int .i64 a.e, .int .i64 a.f] 33)).alloc (.cells #[.int .i64 b.a, .int .i64 b.b, .int .i64 b.c, .int .i64 b.d, .int .i64 b.e, .int .i64 b.f] 33)).alloc (.cells #[.int .i64 0, .int .i64 0, .int .i64 0, .int .i64 0, .int .i64 0, .int .i64 0] 33)) from (((Fr.refl Nob w).alloc _).alloc _).alloc _)
  unfold pairM mV
  go_enter Tryd.func114, Tryd.ntmps114
  go_upto_region 1 with (fail)
  generalize ((w.alloc (.cells #[.int .i64 a.a, .int .i64 a.b, .int .i64 a.c, .int .i64 a.d, .int .i64 a.e, .int .i64 a.f] 33)).alloc (.cells #[.int .i64 b.a, .int .i64 b.b, .int .i64 b.c, .int .i64 b.d, .int .i64 b.e, .int .i64 b.f] 33)).alloc (.cells #[.int .i64 0, .int .i64 0, .int .i64 0, .int .i64 0, .int .i64 0, .int .i64 0] 33) = wa at *
  have a0 : wa.cell? ⟨w.heap.size, 0, none⟩ = some (.int .i64 a.a) := HA0.out.cell 0
  have a1 : wa.cell? ⟨w.heap.size, 1, none⟩ = some (.int .i64 a.b) := HA0.out.cell 1
  go_wp2_with (refine wpList_getAt rfl 33 (.tmp 3) rfl (w.heap.size + 1) 0 (by rfl) (encM b) _ (HB0.out.range 0 _ (by rfl)) Tryd.underlying33 rfl sizeM6 ?_)
  refine (HC1.out _).mono ?_
  unfold pairV ptV
  rintro _ w1 ⟨rfl, f1⟩
  have F1' := Lib.hid (F0.out.trans0 f1)
  have HA1' := Lib.hid (HA0.out.nob f1)
  have HB1' := Lib.hid (HB0.out.nob f1)
  have HZ1' := Lib.hid (HZ0.out.nob f1)
  clear f1 a0 a1
  have hx1 : Fr Nob w1 (w1.alloc (.cells #[.int .i64 u.1.x, .int .i64 u.1.y] 56)) := (Fr.refl Nob w1).alloc _
  have F1 := Lib.hid (F1'.out.trans0 hx1)
  have HA1 := Lib.hid (HA1'.out.nob hx1)
  have HB1 := Lib.hid (HB1'.out.nob hx1)
  have HZ1 := Lib.hid (HZ1'.out.nob hx1)
  have HU1 := Lib.hid (Blk.new w1 #[.int .i64 u.1.x, .int .i64 u.1.y] 56)
  clear hx1 F1' HA1' HB1' HZ1'
  go_upto_region 2 with (fail)
  generalize w1.alloc (.cells #[.int .i64 u.1.x, .int .i64 u.1.y] 56) = x1 at *
  have a2 : x1.cell? ⟨w.heap.size, 2, none⟩ = some (.int .i64 a.c) := HA1.out.cell 2
  have a3 : x1.cell? ⟨w.heap.size, 3, none⟩ = some (.int .i64 a.d) := HA1.out.cell 3
  go_wp2_with (refine wpList_getAt rfl 33 (.tmp 3) rfl (w.heap.size + 1) 0 (by rfl) (encM b) _ (HB1.out.range 0 _ (by rfl)) Tryd.underlying33 rfl sizeM6 ?_)
  refine (HC2.out _).mono ?_
  unfold pairV ptV
  rintro _ w2 ⟨rfl, f2⟩
  have F2' := Lib.hid (F1.out.trans0 f2)
  have HA2' := Lib.hid (HA1.out.nob f2)
  have HB2' := Lib.hid (HB1.out.nob f2)
  have HZ2' := Lib.hid (HZ1.out.nob f2)
  have HU2' := Lib.hid (HU1.out.nob f2)
  clear f2 a2 a3
  have hx2 : Fr Nob w2 (w2.alloc (.cells #[.int .i64 v.1.x, .int .i64 v.1.y] 56)) := (Fr.refl Nob w2).alloc _
  have F2 := Lib.hid (F2'.out.trans0 hx2)
  have HA2 := Lib.hid (HA2'.out.nob hx2)
  have HB2 := Lib.hid (HB2'.out.nob hx2)
  have HZ2 := Lib.hid (HZ2'.out.nob hx2)
  have HU2 := Lib.hid (HU2'.out.nob hx2)
  have HV2 := Lib.hid (Blk.new w2 #[.int .i64 v.1.x, .int .i64 v.1.y] 56)
  clear hx2 F2' HA2' HB2' HZ2'
  go_upto_region 5 with (fail)
  generalize w2.alloc (.cells #[.int .i64 v.1.x, .int .i64 v.1.y] 56) = x2 at *
  go_wp2_with (refine wpList_putAt rfl 33 (.tmp 4) (.tmp 36) rfl (w.heap.size + 2) 0 (encM m0) (by rfl) (by rfl) 33 _ HZ2.out (Nat.le_refl 6) sizeM6 (encM_one _) ?_)
  intro w9 hb9 hf9
  rw [over_all (encM m0).toArray (encM m0) rfl] at hb9
  have HB9 := Lib.hid hb9
  have HF9 := Lib.hid (F2.out.trans hf9 fun k hk => .inr (by rw [hk]; omega))
  clear hb9 hf9
  go_wp2_with fail
  exact bodyPost_ret (results_ct rfl _ _ _ 33 _ _ rfl HB9.out Tryd.underlying33 rfl (by kernel_rfl)) rfl ⟨rfl, HF9.out⟩
set_option maxRecDepth 8000 in
set_option maxHeartbeats 1600000 in
theorem mconcat_3 (a b : M6) (w : World) (hu : (deltaZ b ⟨a.a, a.b⟩).2 = 0) (hv : (deltaZ b ⟨a.c, a.d⟩).2 = 0) (ht : ¬ (applyZ b ⟨a.e, a.f⟩).2 = 0) : Calls Tryd.prog 114 #[mV a, mV b] w fun r w' => r = .returned (pairM (m0, (applyZ b ⟨a.e, a.f⟩).2)) ∧ Fr Nob w w' := by
  have HC1 := Lib.hid (fun w => mdelta_any b ⟨a.a, a.b⟩ w)
  have HC2 := Lib.hid (fun w => mdelta_any b ⟨a.c, a.d⟩ w)
  have HC3 := Lib.hid (fun w => mapply_any b ⟨a.e, a.f⟩ w)
  generalize deltaZ b ⟨a.a, a.b⟩ = u at *
  generalize deltaZ b ⟨a.c, a.d⟩ = v at *
  generalize applyZ b ⟨a.e, a.f⟩ = t at *
  have hu1 : (u.2 == 0) = true := by simpa using hu
  have hu2 : (u.2 != 0) = false := by simpa using hu
  have hv1 : (v.2 == 0) = true := by simpa using hv
  have hv2 : (v.2 != 0) = false := by simpa using hv
  have ht1 : (t.2 == 0) = false := by simpa using ht
  have ht2 : (t.2 != 0) = true := by simpa using ht
  clear hu hv ht
  have HA0 := Lib.hid (show Blk (((w.alloc (.cells #[.int .i64 a.a, .int .i64 a.b, .int .i64 a.c, .int .i64 a.d, .int .i64 a.e, .int .i64 a.f] 33)).alloc (.cells #[.int .i64 b.a, .int .i64 b.b, .int .i64 b.c, .int .i64 b.d, .int .i64 b.e, .int .i64 b.f] 33)).alloc (.cells #[.int .i64 0, .int .i64 0, .int .i64 0, .int .i64 0, .int .i64 0, .int .i64 0] 33)) w.heap.size (encM a).toArray 33 from ((Blk.new w _ _).alloc _).alloc _)
  have HB0 := Lib.hid (show Blk (((w.alloc (.cells #[.int .i64 a.a, .int .i64 a.b, .int .i64 a.c, .int .i64 a.d, .int .i64 a.e, .int .i64 a.f] 33)).alloc (.cells #[.int .i64 b.a, .int .i64 b.b, .int .i64 b.c, .int .i64 b.d, .int .i64 b.e, .int .i64 b.f] 33)).alloc (.cells #[.int .i64 0, .int .i64 0, .int .i64 0, .int .i64 0, .int .i64 0, .int .i64 0] 33)) (w.heap.size + 1) (encM b).toArray 33 from (Blk.new1 w _ _ _).alloc _)
  have HZ0 := Lib.hid (show Blk (((w.alloc (.cells #[.int .i64 a.a, .int .i64 a.b, .int .i64 a.c, .int .i64 a.d, .int .i64 a.e, .int .i64 a.f] 33)).alloc (.cells #[.int .i64 b.a, .int .i64 b.b, .int .i64 b.c, .int .i64 b.d, .int .i64 b.e, .int .i64 b.f] 33)).alloc (.cells #[.int .i64 0, .int .i64 0, .int .i64 0, .int .i64 0, .int .i64 0, .int .i64 0] 33)) (w.heap.size + 2) (encM m0).toArray 33 from Blk.new2 w _ _ _ _)
  have F0 := Lib.hid (show Fr Nob w (((w.alloc (.cells #[.int .i64 a.a, .int .i64 a.b, .int .i64 a.c, .int .i64 a.d, .int .i64 a.e, .int .i64 a.f] 33)).alloc (.cells #[.int .i64 b.a, .int .i64 b.b, .int .i64 b.c, .int .i64 b.d, .int .i64 b.e, .int .i64 b.f] 33)).alloc (.cells #[.int .i64 0, .int .i64 0, .int .i64 0, .int .i64 0, .int .i64 0, .int .i64 0] 33)) from (((Fr.refl Nob w).alloc _).alloc _).alloc _)
  unfold pairM mV
  go_enter Tryd.func114, Tryd.ntmps114
  go_upto_region 1 with (fail)
  generalize ((w.alloc (.cells #[.int .i64 a.a, .int .i64 a.b, .int .i64 a.c, .int .i64 a.d, .int .i64 a.e, .int .i64 a.f] 33)).alloc (.cells #[.int .i64 b.a, .int .i64 b.b, .int .i64 b.c, .int .i64 b.d, .int .i64 b.e, .int .i64 b.f] 33)).alloc (.cells #[.int .i64 0, .int .i64 0, .int .i64 0, .int .i64 0, .int .i64 0, .int .i64 0] 33) = wa at *
  have a0 : wa.cell? ⟨w.heap.size, 0, none⟩ = some (.int .i64 a.a) := HA0.out.cell 0
  have a1 : wa.cell? ⟨w.heap.size, 1, none⟩ = some (.int .i64 a.b) := HA0.out.cell 1
  go_wp2_with (refine wpList_getAt rfl 33 (.tmp 3) rfl (w.heap.size + 1) 0 (by rfl) (encM b) _ (HB0.out.range 0 _ (by rfl)) Tryd.underlying33 rfl sizeM6 ?_)
  refine (HC1.out _).mono ?_
  unfold pairV ptV
  rintro _ w1 ⟨rfl, f1⟩
  have F1' := Lib.hid (F0.out.trans0 f1)
  have HA1' := Lib.hid (HA0.out.nob f1)
  have HB1' := Lib.hid (HB0.out.nob f1)
  have HZ1' := Lib.hid (HZ0.out.nob f1)
  clear f1 a0 a1
  have hx1 : Fr Nob w1 (w1.alloc (.cells #[.int .i64 u.1.x, .int .i64 u.1.y] 56)) := (Fr.refl Nob w1).alloc _
  have F1 := Lib.hid (F1'.out.trans0 hx1)
  have HA1 := Lib.hid (HA1'.out.nob hx1)
  have HB1 := Lib.hid (HB1'.out.nob hx1)
  have HZ1 := Lib.hid (HZ1'.out.nob hx1)
  have HU1 := Lib.hid (Blk.new w1 #[.int .i64 u.1.x, .int .i64 u.1.y] 56)
  clear hx1 F1' HA1' HB1' HZ1'
  go_upto_region 2 with (fail)
  generalize w1.alloc (.cells #[.int .i64 u.1.x, .int .i64 u.1.y] 56) = x1 at *
  have a2 : x1.cell? ⟨w.heap.size, 2, none⟩ = some (.int .i64 a.c) := HA1.out.cell 2
  have a3 : x1.cell? ⟨w.heap.size, 3, none⟩ = some (.int .i64 a.d) := HA1.out.cell 3
  go_wp2_with (refine wpList_getAt rfl 33 (.tmp 3) rfl (w.heap.size + 1) 0 (by rfl) (encM b) _ (HB1.out.range 0 _ (by rfl)) Tryd.underlying33 rfl sizeM6 ?_)
  refine (HC2.out _).mono ?_
  unfold pairV ptV
  rintro _ w2 ⟨rfl, f2⟩
  have F2' := Lib.hid (F1.out.trans0 f2)
  have HA2' := Lib.hid (HA1.out.nob f2)
  have HB2' := Lib.hid (HB1.out.nob f2)
  have HZ2' := Lib.hid (HZ1.out.nob f2)
  have HU2' := Lib.hid (HU1.out.nob f2)
  clear f2 a2 a3
  have hx2 : Fr Nob w2 (w2.alloc (.cells #[.int .i64 v.1.x, .int .i64 v.1.y] 56)) := (Fr.refl Nob w2).alloc _
  have F2 := Lib.hid (F2'.out.trans0 hx2)
  have HA2 := Lib.hid (HA2'.out.nob hx2)
  have HB2 := Lib.hid (HB2'.out.nob hx2)
  have HZ2 := Lib.hid (HZ2'.out.nob hx2)
  have HU2 := Lib.hid (HU2'.out.nob hx2)
  have HV2 := Lib.hid (Blk.new w2 #[.int .i64 v.1.x, .int .i64 v.1.y] 56)
  clear hx2 F2' HA2' HB2' HZ2'
  go_upto_region 5 with (fail)
  generalize w2.alloc (.cells #[.int .i64 v.1.x, .int .i64 v.1.y] 56) = x2 at *
  have a4 : x2.cell? ⟨w.heap.size, 4, none⟩ = some (.int .i64 a.e) := HA2.out.cell 4
  have a5 : x2.cell? ⟨w.heap.size, 5, none⟩ = some (.int .i64 a.f) := HA2.out.cell 5
  go_wp2_with (refine wpList_getAt rfl 33 (.tmp 3) rfl (w.heap.size + 1) 0 (by rfl) (encM b) _ (HB2.out.range 0 _ (by rfl)) Tryd.underlying33 rfl sizeM6 ?_)
  refine (HC3.out _).mono ?_
  unfold pairV ptV
  rintro _ w3 ⟨rfl, f3⟩
  have F3' := Lib.hid (F2.out.trans0 f3)
  have HA3' := Lib.hid (HA2.out.nob f3)
  have HB3' := Lib.hid (HB2.out.nob f3)
  have HZ3' := Lib.hid (HZ2.out.nob f3)
  have HU3' := Lib.hid (HU2.out.nob f3)
  have HV3' := Lib.hid (HV2.out.nob f3)
  clear f3 a4 a5
  have hx3 : Fr Nob w3 (w3.alloc (.cells #[.int .i64 t.1.x, .int .i64 t.1.y] 56)) := (Fr.refl Nob w3).alloc _
  have F3 := Lib.hid (F3'.out.trans0 hx3)
  have HA3 := Lib.hid (HA3'.out.nob hx3)
  have HB3 := Lib.hid (HB3'.out.nob hx3)
  have HZ3 := Lib.hid (HZ3'.out.nob hx3)
  have HU3 := Lib.hid (HU3'.out.nob hx3)
  have HV3 := Lib.hid (HV3'.out.nob hx3)
  have HT3 := Lib.hid (Blk.new w3 #[.int .i64 t.1.x, .int .i64 t.1.y] 56)
  clear hx3 F3' HA3' HB3' HZ3'
  go_upto_region 8 with (fail)
  generalize w3.alloc (.cells #[.int .i64 t.1.x, .int .i64 t.1.y] 56) = x3 at *
  go_wp2_with (refine wpList_putAt rfl 33 (.tmp 4) (.tmp 50) rfl (w.heap.size + 2) 0 (encM m0) (by rfl) (by rfl) 33 _ HZ3.out (Nat.le_refl 6) sizeM6 (encM_one _) ?_)
  intro w9 hb9 hf9
  rw [over_all (encM m0).toArray (encM m0) rfl] at hb9
  have HB9 := Lib.hid hb9
  have HF9 := Lib.hid (F3.out.trans hf9 fun k hk => .inr (by rw [hk]; omega))
  clear hb9 hf9
  go_wp2_with fail
  exact bodyPost_ret (results_ct rfl _ _ _ 33 _ _ rfl HB9.out Tryd.underlying33 rfl (by kernel_rfl)) rfl ⟨rfl, HF9.out⟩
set_option maxRecDepth 8000 in
set_option maxHeartbeats 1600000 in
theorem mconcat_4 (a b : M6) (w : World) (hu : (deltaZ b ⟨a.a, a.b⟩).2 = 0) (hv : (deltaZ b ⟨a.c, a.d⟩).2 = 0) (ht : (applyZ b ⟨a.e, a.f⟩).2 = 0) : Calls Tryd.prog 114 #[mV a, mV b] w fun r w' => r = .returned (pairM (⟨(deltaZ b ⟨a.a, a.b⟩).1.x, (deltaZ b ⟨a.a, a.b⟩).1.y, (deltaZ b ⟨a.c, a.d⟩).1.x, (deltaZ b ⟨a.c, a.d⟩).1.y, (applyZ b ⟨a.e, a.f⟩).1.x, (applyZ b ⟨a.e, a.f⟩).1.y⟩, 0)) ∧ Fr Nob w w' := by
  have HC1 := Lib.hid (fun w => mdelta_any b ⟨a.a, a.b⟩ w)
  have HC2 := Lib.hid (fun w => mdelta_any b ⟨a.c, a.d⟩ w)
  have HC3 := Lib.hid (fun w => mapply_any b ⟨a.e, a.f⟩ w)
  generalize deltaZ b ⟨a.a, a.b⟩ = u at *
  generalize deltaZ b ⟨a.c, a.d⟩ = v at *
  generalize applyZ b ⟨a.e, a.f⟩ = t at *
  have hu1 : (u.2 == 0) = true := by simpa using hu
  have hu2 : (u.2 != 0) = false := by simpa using hu
  have hv1 : (v.2 == 0) = true := by simpa using hv
  have hv2 : (v.2 != 0) = false := by simpa using hv
  have ht1 : (t.2 == 0) = true := by simpa using ht
  have ht2 : (t.2 != 0) = false := by simpa using ht
  clear hu hv ht
  have HA0 := Lib.hid (show Blk (((w.alloc (.cells #[.int .i64 a.a, .int .i64 a.b, .int .i64 a.c, .int .i64 a.d, .int .i64 a.e, .int .i64 a.f] 33)).alloc (.cells #[.int .i64 b.a, .int .i64 b.b, .int .i64 b.c, .int .i64 b.d, .int .i64 b.e, .int .i64 b.f] 33)).alloc (.cells #[.int .i64 0, .int .i64 0, .int .i64 0, .int .i64 0, .int .i64 0, .int .i64 0] 33)) w.heap.size (encM a).toArray 33 from ((Blk.new w _ _).alloc _).alloc _)
  have HB0 := Lib.hid (show Blk (((w.alloc (.cells #[.int .i64 a.a, .int .i64 a.b, .int .i64 a.c, .int .i64 a.d, .int .i64 a.e, .int .i64 a.f] 33)).alloc (.cells #[.int .i64 b.a, .int .i64 b.b, .int .i64 b.c, .int .i64 b.d, .int .i64 b.e, .int .i64 b.f] 33)).alloc (.cells #[.int .i64 0, .int .i64 0, .int .i64 0, .int .i64 0, .int .i64 0, .int .i64 0] 33)) (w.heap.size + 1) (encM b).toArray 33 from (Blk.new1 w _ _ _).alloc _)
  have HZ0 := Lib.hid (show Blk (((w.alloc (.cells #[.int .i64 a.a, .int .i64 a.b, .int .i64 a.c, .int .i64 a.d, .int .i64 a.e, .int .i64 a.f] 33)).alloc (.cells #[.int .i64 b.a, .int .i64 b.b, .int .i64 b.c, .int .i64 b.d, .int .i64 b.e, .int .i64 b.f] 33)).alloc (.cells #[.int .i64 0, .int .i64 0, .int .i64 0, .int .i64 0, .int .i64 0, .int .i64 0] 33)) (w.heap.size + 2) (encM m0).toArray 33 from Blk.new2 w _ _ _ _)
  have F0 := Lib.hid (show Fr Nob w (((w.alloc (.cells #[.int .i64 a.a, .int .i64 a.b, .int .i64 a.c, .int .i64 a.d, .int .i64 a.e, .int .i64 a.f] 33)).alloc (.cells #[.int .i64 b.a, .int .i64 b.b, .int .i64 b.c, .int .i64 b.d, .int .i64 b.e, .int .i64 b.f] 33)).alloc (.cells #[.int .i64 0, .int .i64 0, .int .i64 0, .int .i64 0, .int .i64 0, .int .i64 0] 33)) from (((Fr.refl Nob w).alloc _).alloc _).alloc _)
  unfold pairM mV
  go_enter Tryd.func114, Tryd.ntmps114
  go_upto_region 1 with (fail)
  generalize ((w.alloc (.cells #[.int .i64 a.a, .int .i64 a.b, .int .i64 a.c, .int .i64 a.d, .int .i64 a.e, .int .i64 a.f] 33)).alloc (.cells #[.int .i64 b.a, .int .i64 b.b, .int .i64 b.c, .int .i64 b.d, .int .i64 b.e, .int .i64 b.f] 33)).alloc (.cells #[.int .i64 0, .int .i64 0, .int .i64 0, .int .i64 0, .int .i64 0, .int .i64 0] 33) = wa at *
  have a0 : wa.cell? ⟨w.heap.size, 0, none⟩ = some (.int .i64 a.a) := HA0.out.cell 0
  have a1 : wa.cell? ⟨w.heap.size, 1, none⟩ = some (.int .i64 a.b) := HA0.out.cell 1
  go_wp2_with (refine wpList_getAt rfl 33 (.tmp 3) rfl (w.heap.size + 1) 0 (by rfl) (encM b) _ (HB0.out.range 0 _ (by rfl)) Tryd.underlying33 rfl sizeM6 ?_)
  refine (HC1.out _).mono ?_
  unfold pairV ptV
  rintro _ w1 ⟨rfl, f1⟩
  have F1' := Lib.hid (F0.out.trans0 f1)
  have HA1' := Lib.hid (HA0.out.nob f1)
  have HB1' := Lib.hid (HB0.out.nob f1)
  have HZ1' := Lib.hid (HZ0.out.nob f1)
  clear f1 a0 a1
  have hx1 : Fr Nob w1 (w1.alloc (.cells #[.int .i64 u.1.x, .int .i64 u.1.y] 56)) := (Fr.refl Nob w1).alloc _
  have F1 := Lib.hid (F1'.out.trans0 hx1)
  have HA1 := Lib.hid (HA1'.out.nob hx1)
  have HB1 := Lib.hid (HB1'.out.nob hx1)
  have HZ1 := Lib.hid (HZ1'.out.nob hx1)
  have HU1 := Lib.hid (Blk.new w1 #[.int .i64 u.1.x, .int .i64 u.1.y] 56)
  clear hx1 F1' HA1' HB1' HZ1'
  go_upto_region 2 with (fail)
  generalize w1.alloc (.cells #[.int .i64 u.1.x, .int .i64 u.1.y] 56) = x1 at *
  have a2 : x1.cell? ⟨w.heap.size, 2, none⟩ = some (.int .i64 a.c) := HA1.out.cell 2
  have a3 : x1.cell? ⟨w.heap.size, 3, none⟩ = some (.int .i64 a.d) := HA1.out.cell 3
  go_wp2_with (refine wpList_getAt rfl 33 (.tmp 3) rfl (w.heap.size + 1) 0 (by rfl) (encM b) _ (HB1.out.range 0 _ (by rfl)) Tryd.underlying33 rfl sizeM6 ?_)
  refine (HC2.out _).mono ?_
  unfold pairV ptV
  rintro _ w2 ⟨rfl, f2⟩
  have F2' := Lib.hid (F1.out.trans0 f2)
  have HA2' := Lib.hid (HA1.out.nob f2)
  have HB2' := Lib.hid (HB1.out.nob f2)
  have HZ2' := Lib.hid (HZ1.out.nob f2)
  have HU2' := Lib.hid (HU1.out.nob f2)
  clear f2 a2 a3
  have hx2 : Fr Nob w2 (w2.alloc (.cells #[.int .i64 v.1.x, .int .i64 v.1.y] 56)) := (Fr.refl Nob w2).alloc _
  have F2 := Lib.hid (F2'.out.trans0 hx2)
  have HA2 := Lib.hid (HA2'.out.nob hx2)
  have HB2 := Lib.hid (HB2'.out.nob hx2)
  have HZ2 := Lib.hid (HZ2'.out.nob hx2)
  have HU2 := Lib.hid (HU2'.out.nob hx2)
  have HV2 := Lib.hid (Blk.new w2 #[.int .i64 v.1.x, .int .i64 v.1.y] 56)
  clear hx2 F2' HA2' HB2' HZ2'
  go_upto_region 5 with (fail)
  generalize w2.alloc (.cells #[.int .i64 v.1.x, .int .i64 v.1.y] 56) = x2 at *
  have a4 : x2.cell? ⟨w.heap.size, 4, none⟩ = some (.int .i64 a.e) := HA2.out.cell 4
  have a5 : x2.cell? ⟨w.heap.size, 5, none⟩ = some (.int .i64 a.f) := HA2.out.cell 5
  go_wp2_with (refine wpList_getAt rfl 33 (.tmp 3) rfl (w.heap.size + 1) 0 (by rfl) (encM b) _ (HB2.out.range 0 _ (by rfl)) Tryd.underlying33 rfl sizeM6 ?_)
  refine (HC3.out _).mono ?_
  unfold pairV ptV
  rintro _ w3 ⟨rfl, f3⟩
  have F3' := Lib.hid (F2.out.trans0 f3)
  have HA3' := Lib.hid (HA2.out.nob f3)
  have HB3' := Lib.hid (HB2.out.nob f3)
  have HZ3' := Lib.hid (HZ2.out.nob f3)
  have HU3' := Lib.hid (HU2.out.nob f3)
  have HV3' := Lib.hid (HV2.out.nob f3)
  clear f3 a4 a5
  have hx3 : Fr Nob w3 (w3.alloc (.cells #[.int .i64 t.1.x, .int .i64 t.1.y] 56)) := (Fr.refl Nob w3).alloc _
  have F3 := Lib.hid (F3'.out.trans0 hx3)
  have HA3 := Lib.hid (HA3'.out.nob hx3)
  have HB3 := Lib.hid (HB3'.out.nob hx3)
  have HZ3 := Lib.hid (HZ3'.out.nob hx3)
  have HU3 := Lib.hid (HU3'.out.nob hx3)
  have HV3 := Lib.hid (HV3'.out.nob hx3)
  have HT3 := Lib.hid (Blk.new w3 #[.int .i64 t.1.x, .int .i64 t.1.y] 56)
  clear hx3 F3' HA3' HB3' HZ3'
  go_upto_region 8 with (fail)
  generalize w3.alloc (.cells #[.int .i64 t.1.x, .int .i64 t.1.y] 56) = x3 at *
  have u0 : x3.cell? ⟨w1.heap.size, 0, none⟩ = some (.int .i64 u.1.x) := HU3.out.cell 0
  have u1 : x3.cell? ⟨w1.heap.size, 1, none⟩ = some (.int .i64 u.1.y) := HU3.out.cell 1
  have v0 : x3.cell? ⟨w2.heap.size, 0, none⟩ = some (.int .i64 v.1.x) := HV3.out.cell 0
  have v1 : x3.cell? ⟨w2.heap.size, 1, none⟩ = some (.int .i64 v.1.y) := HV3.out.cell 1
  have t0 : x3.cell? ⟨w3.heap.size, 0, none⟩ = some (.int .i64 t.1.x) := HT3.out.cell 0
  have t1 : x3.cell? ⟨w3.heap.size, 1, none⟩ = some (.int .i64 t.1.y) := HT3.out.cell 1
  go_wp2_with (refine wpList_putAt rfl 33 (.tmp 4) (.tmp 64) rfl (w.heap.size + 2) 0 (encM ⟨u.1.x, u.1.y, v.1.x, v.1.y, t.1.x, t.1.y⟩) (by rfl) (by rfl) 33 _ HZ3.out (Nat.le_refl 6) sizeM6 (encM_one _) ?_)
  intro w9 hb9 hf9
  rw [over_all (encM m0).toArray (encM ⟨u.1.x, u.1.y, v.1.x, v.1.y, t.1.x, t.1.y⟩) rfl] at hb9
  have HB9 := Lib.hid hb9
  have HF9 := Lib.hid (F3.out.trans hf9 fun k hk => .inr (by rw [hk]; omega))
  clear hb9 hf9
  go_wp2_with fail
  exact bodyPost_ret (results_ct rfl _ _ _ 33 _ _ rfl HB9.out Tryd.underlying33 rfl (by kernel_rfl)) rfl ⟨rfl, HF9.out⟩
theorem mconcat_any (a b : M6) (w : World) : Calls Tryd.prog 114 #[mV a, mV b] w fun r w' => r = .returned (pairM (concatZ a b)) ∧ Fr Nob w w' := by
  unfold concatZ
  by_cases hu : (deltaZ b ⟨a.a, a.b⟩).2 = 0
  · rw [if_neg (fun h => h hu)]
    by_cases hv : (deltaZ b ⟨a.c, a.d⟩).2 = 0
    · rw [if_neg (fun h => h hv)]
      by_cases ht : (applyZ b ⟨a.e, a.f⟩).2 = 0
      · rw [if_neg (fun h => h ht)]; exact mconcat_4 a b w hu hv ht
      · rw [if_pos ht]; exact mconcat_3 a b w hu hv ht
    · rw [if_pos hv]; exact mconcat_2 a b w hu hv
  · rw [if_pos hu]; exact mconcat_1 a b w hu
end Go.Proofs.YtkkejjfmidgciaaDoor
/- The walk of the states' Concat. -/
namespace Go.Proofs.YtkkejjfmidgciaaDoor
open Go.RowKit
set_option linter.unusedVariables false
set_option linter.unusedSimpArgs false
/-- Two operations that may come up. -/
theorem held_two {P : Program} {md : Region.Mode} {ops : Array Oper} {Q : Exit → Act → World → Prop} {S : World → Prop} {fuel : Nat} {listed : Array Bool} {a : Act} {w : World} (i j : Nat) {oi oj : Oper} (hoi : ops[i]? = some oi) (hoj : ops[j]? = some oj) (hr : Region.ready md ops listed = [i, j]) (hgi : oi.guard = none) (hgj : oj.guard = none)
    (h1 : ∀ K : Act → World → Prop, (∀ a w, S w → wpAnyH P md ops Q S fuel (listed.setIfInBounds i true) a w → K a w) → Oper.wp P oi a w K Q)
    (h2 : ∀ K : Act → World → Prop, (∀ a w, S w → wpAnyH P md ops Q S fuel (listed.setIfInBounds j true) a w → K a w) → Oper.wp P oj a w K Q) : wpAnyH P md ops Q S (fuel + 1) listed a w := by
  refine wpAnyH_all hr (by simp) fun k hk => ?_
  simp only [List.mem_cons, List.not_mem_nil, or_false] at hk
  rcases hk with rfl | rfl
  · unfold wpOp
    rw [hoi]
    simp only [Region.wanted, hgi, if_true]
    exact .inl (h1 _ fun a w h1 h2 => ⟨h1, h2⟩)
  · unfold wpOp
    rw [hoj]
    simp only [Region.wanted, hgj, if_true]
    exact .inl (h2 _ fun a w h1 h2 => ⟨h1, h2⟩)
def concatF (m : M6) (st : Gst) : Int × Gst := if (m6L m).all fitZ then (if (concatZ m st.ctm).2 = 0 then (0, { st with ctm := (concatZ m st.ctm).1 }) else ((concatZ m st.ctm).2, st)) else (11, st)
set_option maxRecDepth 8000 in
set_option maxHeartbeats 6400000 in
theorem gconcat_ok (g : Nat) (F : Nat → Prop) (s : GS) (m : M6) (w : World) (h : Gs w g F s) (h1 : (m6L m).all fitZ = true) (h2 : (concatZ m s.cur.st.ctm).2 = 0) :
    Calls Tryd.prog 74 #[.pointer (some ⟨g, 0, none⟩), mV m] w fun e w' => e = .returned (.int .i64 0) ∧ GsTo w g F { s with cur := { s.cur with st := { s.cur.st with ctm := (concatZ m s.cur.st.ctm).1 } } } w' := by
  have hf : Fr Nob w (w.alloc (.cells #[.int .i64 m.a, .int .i64 m.b, .int .i64 m.c, .int .i64 m.d, .int .i64 m.e, .int .i64 m.f] 33)) := (Fr.refl Nob w).alloc _
  have HI := Lib.hid (check_any ⟨g, 0, none⟩ (m6L m) _ _ (w.alloc (.cells #[.int .i64 m.a, .int .i64 m.b, .int .i64 m.c, .int .i64 m.d, .int .i64 m.e, .int .i64 m.f] 33)) (Blk.new w (encM m).toArray 33).m6)
  rw [chkI_ok h1] at HI
  have HC := Lib.hid (fun w => mconcat_any m s.cur.st.ctm w)
  generalize concatZ m s.cur.st.ctm = r at *
  have hr1 : (r.2 == 0) = true := by simpa using h2
  have hr2 : (r.2 != 0) = false := by simpa using h2
  have HR0 := Lib.hid h2
  have HF := Lib.hid hf
  obtain ⟨lab, x, sv, xs, h⟩ := h
  have hg := h.cells.nob hf
  have HG := Lib.hid hg
  have HX := Lib.hid h
  have HM := Lib.hid (Blk.new w (encM m).toArray 33)
  have HS := Lib.hid (show ∀ w', Fr Nob (w.alloc (.cells #[.int .i64 m.a, .int .i64 m.b, .int .i64 m.c, .int .i64 m.d, .int .i64 m.e, .int .i64 m.f] 33)) w' → (fun w' => w'.rangeAt w.heap.size 0 (encM m) ∧ w'.rangeAt g 0 (encM s.cur.st.ctm)) w' from fun w' hw' => ⟨((Blk.new w (encM m).toArray 33).nob hw').range 0 _ rfl, (hg.nob hw').range 0 _ rfl⟩)
  clear h h1 h2 hf hg
  unfold mV
  go_enter Tryd.func74, Tryd.ntmps74
  go_wp2_with fail
  refine HI.out.mono ?_
  rintro e w1 ⟨rfl, rfl⟩
  go_upto_region 4 with (fail)
  generalize w.alloc (.cells #[.int .i64 m.a, .int .i64 m.b, .int .i64 m.c, .int .i64 m.d, .int .i64 m.e, .int .i64 m.f] 33) = wa at *
  go_wp2_with fail
  refine wp_region_last' (ops := _) (o := _) (l := _) 13 rfl rfl rfl (fun w' => w'.rangeAt w.heap.size 0 (encM m) ∧ w'.rangeAt g 0 (encM s.cur.st.ctm)) (by kernel_rfl) (by kernel_rfl) (HS.out _ (Fr.refl Nob wa).drew) fun hH => ?_
  simp only [List.take_succ_cons, List.take_zero]
  refine wpAnyH_take (i := 0) (v := _) rfl (by kernel_rfl) (by kernel_rfl) (by kernel_rfl) (fun _ _ _ h => h) (yieldsIf_load_mid (by rfl) 33 (.tmp 3) rfl w.heap.size 0 rfl (encM m) _ (fun w hw => hw.1) Tryd.underlying33 rfl sizeM6) hH ?_
  simp only [Act.put, List.getElem_toArray, List.getElem_cons_succ, List.getElem_cons_zero, List.setIfInBounds_toArray, List.set_cons_zero, List.set_cons_succ]
  refine wpAnyH_take (i := 1) (v := ?va2) rfl (by kernel_rfl) (by kernel_rfl) (by kernel_rfl) (fun _ _ _ h => h) (Or.inl ⟨by rfl, ?ha2⟩) hH ?ra2
  case ha2 => (intro w hSw; (try dsimp only at hSw); clear hSw; go_simp; (try with_reducible rfl))
  simp only [Act.put, List.getElem_toArray, List.getElem_cons_succ, List.getElem_cons_zero, List.setIfInBounds_toArray, List.set_cons_zero, List.set_cons_succ]
  refine wpAnyH_take (i := 2) (v := ?va3) rfl (by kernel_rfl) (by kernel_rfl) (by kernel_rfl) (fun _ _ _ h => h) (Or.inl ⟨by rfl, ?ha3⟩) hH ?ra3
  case ha3 => (intro w hSw; (try dsimp only at hSw); clear hSw; go_simp; (try with_reducible rfl))
  simp only [Act.put, List.getElem_toArray, List.getElem_cons_succ, List.getElem_cons_zero, List.setIfInBounds_toArray, List.set_cons_zero, List.set_cons_succ]
  refine wpAnyH_take (i := 3) (v := ?va4) rfl (by kernel_rfl) (by kernel_rfl) (by kernel_rfl) (fun _ _ _ h => h) (Or.inl ⟨by rfl, ?ha4⟩) hH ?ra4
  case ha4 => (intro w hSw; (try dsimp only at hSw); clear hSw; go_simp; (try with_reducible rfl))
  simp only [Act.put, List.getElem_toArray, List.getElem_cons_succ, List.getElem_cons_zero, List.setIfInBounds_toArray, List.set_cons_zero, List.set_cons_succ]
  refine wpAnyH_take (i := 4) (v := ?va5) rfl (by kernel_rfl) (by kernel_rfl) (by kernel_rfl) (fun _ _ _ h => h) (Or.inl ⟨by rfl, ?ha5⟩) hH ?ra5
  case ha5 => (intro w hSw; (try dsimp only at hSw); clear hSw; go_simp; (try with_reducible rfl))
  simp only [Act.put, List.getElem_toArray, List.getElem_cons_succ, List.getElem_cons_zero, List.setIfInBounds_toArray, List.set_cons_zero, List.set_cons_succ]
  refine wpAnyH_take (i := 5) (v := ?va6) rfl (by kernel_rfl) (by kernel_rfl) (by kernel_rfl) (fun _ _ _ h => h) (Or.inl ⟨by rfl, ?ha6⟩) hH ?ra6
  case ha6 => (intro w hSw; (try dsimp only at hSw); clear hSw; go_simp; (try with_reducible rfl))
  simp only [Act.put, List.getElem_toArray, List.getElem_cons_succ, List.getElem_cons_zero, List.setIfInBounds_toArray, List.set_cons_zero, List.set_cons_succ]
  refine wpAnyH_take (i := 6) (v := _) rfl (by kernel_rfl) (by kernel_rfl) (by kernel_rfl) (fun _ _ _ h => h) (yieldsIf_load_mid (by rfl) 33 (.tmp 20) rfl g 0 rfl (encM s.cur.st.ctm) _ (fun w hw => hw.2) Tryd.underlying33 rfl sizeM6) hH ?_
  simp only [Act.put, List.getElem_toArray, List.getElem_cons_succ, List.getElem_cons_zero, List.setIfInBounds_toArray, List.set_cons_zero, List.set_cons_succ]
  refine held_two 7 11 rfl rfl (by kernel_rfl) rfl rfl ?_ ?_
  · intro K hK
    replace hK := Lib.hid hK
    clear hH
    go_simp
    refine (HC.out _).mono ?_
    unfold pairM mV
    rintro e w2 ⟨rfl, h2⟩
    have F2 := Lib.hid (show Fr Nob wa w2 from Fr.trans0 (by repeat (first | exact Fr.refl _ _ | exact HAL.out | refine Fr.alloc ?_ _ | refine Fr.drew ?_ | refine Fr.drewN ?_ _)) h2)
    clear h2
    dsimp only
    have hH := HS.out w2 F2.out
    refine hK.out _ _ hH ?_
    clear hK K
    refine wpAnyH_take (i := 8) (v := ?vx0) rfl (by kernel_rfl) (by kernel_rfl) (by kernel_rfl) (fun _ _ _ h => h) (Or.inl ⟨by rfl, ?hx0⟩) hH ?rx0
    case hx0 => (intro w hSw; (try dsimp only at hSw); clear hSw; go_simp; (try with_reducible rfl))
    simp only [Act.put, List.getElem_toArray, List.getElem_cons_succ, List.getElem_cons_zero, List.setIfInBounds_toArray, List.set_cons_zero, List.set_cons_succ]
    refine wpAnyH_take (i := 9) (v := ?vx1) rfl (by kernel_rfl) (by kernel_rfl) (by kernel_rfl) (fun _ _ _ h => h) (Or.inl ⟨by rfl, ?hx1⟩) hH ?rx1
    case hx1 => (intro w hSw; (try dsimp only at hSw); clear hSw; go_simp; (try with_reducible rfl))
    simp only [Act.put, List.getElem_toArray, List.getElem_cons_succ, List.getElem_cons_zero, List.setIfInBounds_toArray, List.set_cons_zero, List.set_cons_succ]
    refine wpAnyH_take (i := 10) (v := ?vx2) rfl (by kernel_rfl) (by kernel_rfl) (by kernel_rfl) (fun _ _ _ h => h) (Or.inl ⟨by rfl, ?hx2⟩) hH ?rx2
    case hx2 => (intro w hSw; (try dsimp only at hSw); clear hSw; go_simp; (try with_reducible rfl))
    simp only [Act.put, List.getElem_toArray, List.getElem_cons_succ, List.getElem_cons_zero, List.setIfInBounds_toArray, List.set_cons_zero, List.set_cons_succ]
    refine held_one 11 rfl (by kernel_rfl) rfl fun K hK => ?_
    replace hK := Lib.hid hK
    clear hH
    go_simp
    have HAL := Lib.hid (show Fr Nob wa (w2.alloc (.cells #[.int .i64 0, .int .i64 0, .int .i64 0, .int .i64 0, .int .i64 0, .int .i64 0] 33)) from F2.out.alloc _)
    have HZ := Lib.hid (show Blk (w2.alloc (.cells #[.int .i64 0, .int .i64 0, .int .i64 0, .int .i64 0, .int .i64 0, .int .i64 0] 33)) w2.heap.size #[.int .i64 0, .int .i64 0, .int .i64 0, .int .i64 0, .int .i64 0, .int .i64 0] 33 from Blk.new w2 _ _)
    have hH := HS.out (w2.alloc (.cells #[.int .i64 0, .int .i64 0, .int .i64 0, .int .i64 0, .int .i64 0, .int .i64 0] 33)) HAL.out
    refine hK.out _ _ hH ?_
    clear hK K
    refine held_one 12 rfl (by kernel_rfl) rfl fun K hK => ?_
    replace hK := Lib.hid hK
    clear hH
    refine wp_putAt 33 (.tmp 6) (.tmp 23) rfl w2.heap.size 0 (encM r.1) (by rfl) (by rfl) 33 _ HZ.out (Nat.le_refl 6) sizeM6 (encM_one _) ?_
    intro w3 hb3 hf3
    replace hb3 : Blk w3 w2.heap.size (encM r.1).toArray 33 := hb3
    have F3 := Lib.hid (show Fr Nob wa w3 from HAL.out.trans hf3 fun k hk => .inr (by rw [hk]; exact F2.out.size))
    have HB3 := Lib.hid hb3
    clear hb3 hf3
    have hH := HS.out w3 F3.out
    refine hK.out _ _ hH ?_
    clear hK K
    refine wpAnyH_done (by kernel_rfl) ?_ _
    clear hH
    simp only [LastQ, List.getElem_cons_succ, List.getElem_cons_zero]
    go_simp
    have HGB := Lib.hid (HG.out.nob F3.out)
    go_wp2_with (first
      | (refine wpList_getAt rfl 33 (.tmp 6) rfl w2.heap.size 0 (by rfl) (encM r.1) _ (HB3.out.range 0 _ (by rfl)) Tryd.underlying33 rfl sizeM6 ?_)
      | (refine wpList_putAt rfl 33 (.tmp 32) (.tmp 28) rfl g 0 (encM r.1) (by rfl) (by rfl) 124 _ HGB.out (show 6 ≤ 30 by omega) sizeM6 (encM_one _) ?_))
    intro w4 hb4 hf4
    have HB4 := Lib.hid hb4
    have HF4 := Lib.hid hf4
    clear hb4 hf4
    go_wp2_with fail
    go_ret
    exact ⟨ret_i64 HR0.out, HX.out.put (HF.out.trans0 F3.out) HF4.out { s.cur.st with ctm := r.1 } rfl rfl HB4.out⟩
  · intro K hK
    replace hK := Lib.hid hK
    clear hH
    go_simp
    have HAL := Lib.hid (show Fr Nob wa (wa.drew.alloc (.cells #[.int .i64 0, .int .i64 0, .int .i64 0, .int .i64 0, .int .i64 0, .int .i64 0] 33)) from (Fr.refl Nob wa).drew.alloc _)
    have HZ := Lib.hid (show Blk (wa.drew.alloc (.cells #[.int .i64 0, .int .i64 0, .int .i64 0, .int .i64 0, .int .i64 0, .int .i64 0] 33)) wa.heap.size #[.int .i64 0, .int .i64 0, .int .i64 0, .int .i64 0, .int .i64 0, .int .i64 0] 33 from Blk.new wa.drew _ _)
    have hH := HS.out (wa.drew.alloc (.cells #[.int .i64 0, .int .i64 0, .int .i64 0, .int .i64 0, .int .i64 0, .int .i64 0] 33)) HAL.out
    refine hK.out _ _ hH ?_
    clear hK K
    refine held_one 7 rfl (by kernel_rfl) rfl fun K hK => ?_
    replace hK := Lib.hid hK
    clear hH
    go_simp
    refine (HC.out _).mono ?_
    unfold pairM mV
    rintro e w2 ⟨rfl, h2⟩
    have F2z := Lib.hid h2
    have F2 := Lib.hid (show Fr Nob wa w2 from Fr.trans0 (by repeat (first | exact Fr.refl _ _ | exact HAL.out | refine Fr.alloc ?_ _ | refine Fr.drew ?_ | refine Fr.drewN ?_ _)) h2)
    clear h2
    dsimp only
    have hH := HS.out w2 F2.out
    refine hK.out _ _ hH ?_
    clear hK K
    have HZ2 := Lib.hid (HZ.out.nob (show Fr Nob _ w2 from F2z.out))
    refine wpAnyH_take (i := 8) (v := ?vy0) rfl (by kernel_rfl) (by kernel_rfl) (by kernel_rfl) (fun _ _ _ h => h) (Or.inl ⟨by rfl, ?hy0⟩) hH ?ry0
    case hy0 => (intro w hSw; (try dsimp only at hSw); clear hSw; go_simp; (try with_reducible rfl))
    simp only [Act.put, List.getElem_toArray, List.getElem_cons_succ, List.getElem_cons_zero, List.setIfInBounds_toArray, List.set_cons_zero, List.set_cons_succ]
    refine wpAnyH_take (i := 9) (v := ?vy1) rfl (by kernel_rfl) (by kernel_rfl) (by kernel_rfl) (fun _ _ _ h => h) (Or.inl ⟨by rfl, ?hy1⟩) hH ?ry1
    case hy1 => (intro w hSw; (try dsimp only at hSw); clear hSw; go_simp; (try with_reducible rfl))
    simp only [Act.put, List.getElem_toArray, List.getElem_cons_succ, List.getElem_cons_zero, List.setIfInBounds_toArray, List.set_cons_zero, List.set_cons_succ]
    refine wpAnyH_take (i := 10) (v := ?vy2) rfl (by kernel_rfl) (by kernel_rfl) (by kernel_rfl) (fun _ _ _ h => h) (Or.inl ⟨by rfl, ?hy2⟩) hH ?ry2
    case hy2 => (intro w hSw; (try dsimp only at hSw); clear hSw; go_simp; (try with_reducible rfl))
    simp only [Act.put, List.getElem_toArray, List.getElem_cons_succ, List.getElem_cons_zero, List.setIfInBounds_toArray, List.set_cons_zero, List.set_cons_succ]
    refine held_one 12 rfl (by kernel_rfl) rfl fun K hK => ?_
    replace hK := Lib.hid hK
    clear hH
    refine wp_putAt 33 (.tmp 6) (.tmp 23) rfl wa.heap.size 0 (encM r.1) (by rfl) (by rfl) 33 _ HZ2.out (Nat.le_refl 6) sizeM6 (encM_one _) ?_
    intro w3 hb3 hf3
    replace hb3 : Blk w3 wa.heap.size (encM r.1).toArray 33 := hb3
    have F3 := Lib.hid (show Fr Nob wa w3 from F2.out.trans hf3 fun k hk => .inr (by rw [hk]; exact Nat.le_refl _))
    have HB3 := Lib.hid hb3
    clear hb3 hf3
    have hH := HS.out w3 F3.out
    refine hK.out _ _ hH ?_
    clear hK K
    refine wpAnyH_done (by kernel_rfl) ?_ _
    clear hH
    simp only [LastQ, List.getElem_cons_succ, List.getElem_cons_zero]
    go_simp
    have HGB := Lib.hid (HG.out.nob F3.out)
    go_wp2_with (first
      | (refine wpList_getAt rfl 33 (.tmp 6) rfl wa.heap.size 0 (by rfl) (encM r.1) _ (HB3.out.range 0 _ (by rfl)) Tryd.underlying33 rfl sizeM6 ?_)
      | (refine wpList_putAt rfl 33 (.tmp 32) (.tmp 28) rfl g 0 (encM r.1) (by rfl) (by rfl) 124 _ HGB.out (show 6 ≤ 30 by omega) sizeM6 (encM_one _) ?_))
    intro w4 hb4 hf4
    have HB4 := Lib.hid hb4
    have HF4 := Lib.hid hf4
    clear hb4 hf4
    go_wp2_with fail
    go_ret
    exact ⟨ret_i64 HR0.out, HX.out.put (HF.out.trans0 F3.out) HF4.out { s.cur.st with ctm := r.1 } rfl rfl HB4.out⟩
set_option maxRecDepth 8000 in
set_option maxHeartbeats 6400000 in
theorem gconcat_err (g : Nat) (F : Nat → Prop) (s : GS) (m : M6) (w : World) (h : Gs w g F s) (h1 : (m6L m).all fitZ = true) (h2 : ¬ (concatZ m s.cur.st.ctm).2 = 0) :
    Calls Tryd.prog 74 #[.pointer (some ⟨g, 0, none⟩), mV m] w fun e w' => e = .returned (.int .i64 (concatZ m s.cur.st.ctm).2) ∧ GsTo w g F s w' := by
  have hf : Fr Nob w (w.alloc (.cells #[.int .i64 m.a, .int .i64 m.b, .int .i64 m.c, .int .i64 m.d, .int .i64 m.e, .int .i64 m.f] 33)) := (Fr.refl Nob w).alloc _
  have HI := Lib.hid (check_any ⟨g, 0, none⟩ (m6L m) _ _ (w.alloc (.cells #[.int .i64 m.a, .int .i64 m.b, .int .i64 m.c, .int .i64 m.d, .int .i64 m.e, .int .i64 m.f] 33)) (Blk.new w (encM m).toArray 33).m6)
  rw [chkI_ok h1] at HI
  have HC := Lib.hid (fun w => mconcat_any m s.cur.st.ctm w)
  generalize concatZ m s.cur.st.ctm = r at *
  have hr1 : (r.2 == 0) = false := by simpa using h2
  have hr2 : (r.2 != 0) = true := by simpa using h2
  have HR0 := Lib.hid h2
  have HF := Lib.hid hf
  obtain ⟨lab, x, sv, xs, h⟩ := h
  have hg := h.cells.nob hf
  have HG := Lib.hid hg
  have HX := Lib.hid h
  have HM := Lib.hid (Blk.new w (encM m).toArray 33)
  have HS := Lib.hid (show ∀ w', Fr Nob (w.alloc (.cells #[.int .i64 m.a, .int .i64 m.b, .int .i64 m.c, .int .i64 m.d, .int .i64 m.e, .int .i64 m.f] 33)) w' → (fun w' => w'.rangeAt w.heap.size 0 (encM m) ∧ w'.rangeAt g 0 (encM s.cur.st.ctm)) w' from fun w' hw' => ⟨((Blk.new w (encM m).toArray 33).nob hw').range 0 _ rfl, (hg.nob hw').range 0 _ rfl⟩)
  clear h h1 h2 hf hg
  unfold mV
  go_enter Tryd.func74, Tryd.ntmps74
  go_wp2_with fail
  refine HI.out.mono ?_
  rintro e w1 ⟨rfl, rfl⟩
  go_upto_region 4 with (fail)
  generalize w.alloc (.cells #[.int .i64 m.a, .int .i64 m.b, .int .i64 m.c, .int .i64 m.d, .int .i64 m.e, .int .i64 m.f] 33) = wa at *
  go_wp2_with fail
  refine wp_region_last' (ops := _) (o := _) (l := _) 13 rfl rfl rfl (fun w' => w'.rangeAt w.heap.size 0 (encM m) ∧ w'.rangeAt g 0 (encM s.cur.st.ctm)) (by kernel_rfl) (by kernel_rfl) (HS.out _ (Fr.refl Nob wa).drew) fun hH => ?_
  simp only [List.take_succ_cons, List.take_zero]
  refine wpAnyH_take (i := 0) (v := _) rfl (by kernel_rfl) (by kernel_rfl) (by kernel_rfl) (fun _ _ _ h => h) (yieldsIf_load_mid (by rfl) 33 (.tmp 3) rfl w.heap.size 0 rfl (encM m) _ (fun w hw => hw.1) Tryd.underlying33 rfl sizeM6) hH ?_
  simp only [Act.put, List.getElem_toArray, List.getElem_cons_succ, List.getElem_cons_zero, List.setIfInBounds_toArray, List.set_cons_zero, List.set_cons_succ]
  refine wpAnyH_take (i := 1) (v := ?va2) rfl (by kernel_rfl) (by kernel_rfl) (by kernel_rfl) (fun _ _ _ h => h) (Or.inl ⟨by rfl, ?ha2⟩) hH ?ra2
  case ha2 => (intro w hSw; (try dsimp only at hSw); clear hSw; go_simp; (try with_reducible rfl))
  simp only [Act.put, List.getElem_toArray, List.getElem_cons_succ, List.getElem_cons_zero, List.setIfInBounds_toArray, List.set_cons_zero, List.set_cons_succ]
  refine wpAnyH_take (i := 2) (v := ?va3) rfl (by kernel_rfl) (by kernel_rfl) (by kernel_rfl) (fun _ _ _ h => h) (Or.inl ⟨by rfl, ?ha3⟩) hH ?ra3
  case ha3 => (intro w hSw; (try dsimp only at hSw); clear hSw; go_simp; (try with_reducible rfl))
  simp only [Act.put, List.getElem_toArray, List.getElem_cons_succ, List.getElem_cons_zero, List.setIfInBounds_toArray, List.set_cons_zero, List.set_cons_succ]
  refine wpAnyH_take (i := 3) (v := ?va4) rfl (by kernel_rfl) (by kernel_rfl) (by kernel_rfl) (fun _ _ _ h => h) (Or.inl ⟨by rfl, ?ha4⟩) hH ?ra4
  case ha4 => (intro w hSw; (try dsimp only at hSw); clear hSw; go_simp; (try with_reducible rfl))
  simp only [Act.put, List.getElem_toArray, List.getElem_cons_succ, List.getElem_cons_zero, List.setIfInBounds_toArray, List.set_cons_zero, List.set_cons_succ]
  refine wpAnyH_take (i := 4) (v := ?va5) rfl (by kernel_rfl) (by kernel_rfl) (by kernel_rfl) (fun _ _ _ h => h) (Or.inl ⟨by rfl, ?ha5⟩) hH ?ra5
  case ha5 => (intro w hSw; (try dsimp only at hSw); clear hSw; go_simp; (try with_reducible rfl))
  simp only [Act.put, List.getElem_toArray, List.getElem_cons_succ, List.getElem_cons_zero, List.setIfInBounds_toArray, List.set_cons_zero, List.set_cons_succ]
  refine wpAnyH_take (i := 5) (v := ?va6) rfl (by kernel_rfl) (by kernel_rfl) (by kernel_rfl) (fun _ _ _ h => h) (Or.inl ⟨by rfl, ?ha6⟩) hH ?ra6
  case ha6 => (intro w hSw; (try dsimp only at hSw); clear hSw; go_simp; (try with_reducible rfl))
  simp only [Act.put, List.getElem_toArray, List.getElem_cons_succ, List.getElem_cons_zero, List.setIfInBounds_toArray, List.set_cons_zero, List.set_cons_succ]
  refine wpAnyH_take (i := 6) (v := _) rfl (by kernel_rfl) (by kernel_rfl) (by kernel_rfl) (fun _ _ _ h => h) (yieldsIf_load_mid (by rfl) 33 (.tmp 20) rfl g 0 rfl (encM s.cur.st.ctm) _ (fun w hw => hw.2) Tryd.underlying33 rfl sizeM6) hH ?_
  simp only [Act.put, List.getElem_toArray, List.getElem_cons_succ, List.getElem_cons_zero, List.setIfInBounds_toArray, List.set_cons_zero, List.set_cons_succ]
  refine held_two 7 11 rfl rfl (by kernel_rfl) rfl rfl ?_ ?_
  · intro K hK
    replace hK := Lib.hid hK
    clear hH
    go_simp
    refine (HC.out _).mono ?_
    unfold pairM mV
    rintro e w2 ⟨rfl, h2⟩
    have F2 := Lib.hid (show Fr Nob wa w2 from Fr.trans0 (by repeat (first | exact Fr.refl _ _ | exact HAL.out | refine Fr.alloc ?_ _ | refine Fr.drew ?_ | refine Fr.drewN ?_ _)) h2)
    clear h2
    dsimp only
    have hH := HS.out w2 F2.out
    refine hK.out _ _ hH ?_
    clear hK K
    refine wpAnyH_take (i := 8) (v := ?vx0) rfl (by kernel_rfl) (by kernel_rfl) (by kernel_rfl) (fun _ _ _ h => h) (Or.inl ⟨by rfl, ?hx0⟩) hH ?rx0
    case hx0 => (intro w hSw; (try dsimp only at hSw); clear hSw; go_simp; (try with_reducible rfl))
    simp only [Act.put, List.getElem_toArray, List.getElem_cons_succ, List.getElem_cons_zero, List.setIfInBounds_toArray, List.set_cons_zero, List.set_cons_succ]
    refine wpAnyH_take (i := 9) (v := ?vx1) rfl (by kernel_rfl) (by kernel_rfl) (by kernel_rfl) (fun _ _ _ h => h) (Or.inl ⟨by rfl, ?hx1⟩) hH ?rx1
    case hx1 => (intro w hSw; (try dsimp only at hSw); clear hSw; go_simp; (try with_reducible rfl))
    simp only [Act.put, List.getElem_toArray, List.getElem_cons_succ, List.getElem_cons_zero, List.setIfInBounds_toArray, List.set_cons_zero, List.set_cons_succ]
    refine wpAnyH_take (i := 10) (v := ?vx2) rfl (by kernel_rfl) (by kernel_rfl) (by kernel_rfl) (fun _ _ _ h => h) (Or.inl ⟨by rfl, ?hx2⟩) hH ?rx2
    case hx2 => (intro w hSw; (try dsimp only at hSw); clear hSw; go_simp; (try with_reducible rfl))
    simp only [Act.put, List.getElem_toArray, List.getElem_cons_succ, List.getElem_cons_zero, List.setIfInBounds_toArray, List.set_cons_zero, List.set_cons_succ]
    refine held_one 11 rfl (by kernel_rfl) rfl fun K hK => ?_
    replace hK := Lib.hid hK
    clear hH
    go_simp
    have HAL := Lib.hid (show Fr Nob wa (w2.alloc (.cells #[.int .i64 0, .int .i64 0, .int .i64 0, .int .i64 0, .int .i64 0, .int .i64 0] 33)) from F2.out.alloc _)
    have HZ := Lib.hid (show Blk (w2.alloc (.cells #[.int .i64 0, .int .i64 0, .int .i64 0, .int .i64 0, .int .i64 0, .int .i64 0] 33)) w2.heap.size #[.int .i64 0, .int .i64 0, .int .i64 0, .int .i64 0, .int .i64 0, .int .i64 0] 33 from Blk.new w2 _ _)
    have hH := HS.out (w2.alloc (.cells #[.int .i64 0, .int .i64 0, .int .i64 0, .int .i64 0, .int .i64 0, .int .i64 0] 33)) HAL.out
    refine hK.out _ _ hH ?_
    clear hK K
    refine held_one 12 rfl (by kernel_rfl) rfl fun K hK => ?_
    replace hK := Lib.hid hK
    clear hH
    refine wp_putAt 33 (.tmp 6) (.tmp 23) rfl w2.heap.size 0 (encM r.1) (by rfl) (by rfl) 33 _ HZ.out (Nat.le_refl 6) sizeM6 (encM_one _) ?_
    intro w3 hb3 hf3
    replace hb3 : Blk w3 w2.heap.size (encM r.1).toArray 33 := hb3
    have F3 := Lib.hid (show Fr Nob wa w3 from HAL.out.trans hf3 fun k hk => .inr (by rw [hk]; exact F2.out.size))
    have HB3 := Lib.hid hb3
    clear hb3 hf3
    have hH := HS.out w3 F3.out
    refine hK.out _ _ hH ?_
    clear hK K
    refine wpAnyH_done (by kernel_rfl) ?_ _
    clear hH
    simp only [LastQ, List.getElem_cons_succ, List.getElem_cons_zero]
    go_simp
    go_wp2_with fail
    go_ret
    exact ⟨rfl, GsTo.same ⟨lab, x, sv, xs, HX.out⟩ (HF.out.trans0 F3.out)⟩
  · intro K hK
    replace hK := Lib.hid hK
    clear hH
    go_simp
    have HAL := Lib.hid (show Fr Nob wa (wa.drew.alloc (.cells #[.int .i64 0, .int .i64 0, .int .i64 0, .int .i64 0, .int .i64 0, .int .i64 0] 33)) from (Fr.refl Nob wa).drew.alloc _)
    have HZ := Lib.hid (show Blk (wa.drew.alloc (.cells #[.int .i64 0, .int .i64 0, .int .i64 0, .int .i64 0, .int .i64 0, .int .i64 0] 33)) wa.heap.size #[.int .i64 0, .int .i64 0, .int .i64 0, .int .i64 0, .int .i64 0, .int .i64 0] 33 from Blk.new wa.drew _ _)
    have hH := HS.out (wa.drew.alloc (.cells #[.int .i64 0, .int .i64 0, .int .i64 0, .int .i64 0, .int .i64 0, .int .i64 0] 33)) HAL.out
    refine hK.out _ _ hH ?_
    clear hK K
    refine held_one 7 rfl (by kernel_rfl) rfl fun K hK => ?_
    replace hK := Lib.hid hK
    clear hH
    go_simp
    refine (HC.out _).mono ?_
    unfold pairM mV
    rintro e w2 ⟨rfl, h2⟩
    have F2z := Lib.hid h2
    have F2 := Lib.hid (show Fr Nob wa w2 from Fr.trans0 (by repeat (first | exact Fr.refl _ _ | exact HAL.out | refine Fr.alloc ?_ _ | refine Fr.drew ?_ | refine Fr.drewN ?_ _)) h2)
    clear h2
    dsimp only
    have hH := HS.out w2 F2.out
    refine hK.out _ _ hH ?_
    clear hK K
    have HZ2 := Lib.hid (HZ.out.nob (show Fr Nob _ w2 from F2z.out))
    refine wpAnyH_take (i := 8) (v := ?vy0) rfl (by kernel_rfl) (by kernel_rfl) (by kernel_rfl) (fun _ _ _ h => h) (Or.inl ⟨by rfl, ?hy0⟩) hH ?ry0
    case hy0 => (intro w hSw; (try dsimp only at hSw); clear hSw; go_simp; (try with_reducible rfl))
    simp only [Act.put, List.getElem_toArray, List.getElem_cons_succ, List.getElem_cons_zero, List.setIfInBounds_toArray, List.set_cons_zero, List.set_cons_succ]
    refine wpAnyH_take (i := 9) (v := ?vy1) rfl (by kernel_rfl) (by kernel_rfl) (by kernel_rfl) (fun _ _ _ h => h) (Or.inl ⟨by rfl, ?hy1⟩) hH ?ry1
    case hy1 => (intro w hSw; (try dsimp only at hSw); clear hSw; go_simp; (try with_reducible rfl))
    simp only [Act.put, List.getElem_toArray, List.getElem_cons_succ, List.getElem_cons_zero, List.setIfInBounds_toArray, List.set_cons_zero, List.set_cons_succ]
    refine wpAnyH_take (i := 10) (v := ?vy2) rfl (by kernel_rfl) (by kernel_rfl) (by kernel_rfl) (fun _ _ _ h => h) (Or.inl ⟨by rfl, ?hy2⟩) hH ?ry2
    case hy2 => (intro w hSw; (try dsimp only at hSw); clear hSw; go_simp; (try with_reducible rfl))
    simp only [Act.put, List.getElem_toArray, List.getElem_cons_succ, List.getElem_cons_zero, List.setIfInBounds_toArray, List.set_cons_zero, List.set_cons_succ]
    refine held_one 12 rfl (by kernel_rfl) rfl fun K hK => ?_
    replace hK := Lib.hid hK
    clear hH
    refine wp_putAt 33 (.tmp 6) (.tmp 23) rfl wa.heap.size 0 (encM r.1) (by rfl) (by rfl) 33 _ HZ2.out (Nat.le_refl 6) sizeM6 (encM_one _) ?_
    intro w3 hb3 hf3
    replace hb3 : Blk w3 wa.heap.size (encM r.1).toArray 33 := hb3
    have F3 := Lib.hid (show Fr Nob wa w3 from F2.out.trans hf3 fun k hk => .inr (by rw [hk]; exact Nat.le_refl _))
    have HB3 := Lib.hid hb3
    clear hb3 hf3
    have hH := HS.out w3 F3.out
    refine hK.out _ _ hH ?_
    clear hK K
    refine wpAnyH_done (by kernel_rfl) ?_ _
    clear hH
    simp only [LastQ, List.getElem_cons_succ, List.getElem_cons_zero]
    go_simp
    go_wp2_with fail
    go_ret
    exact ⟨rfl, GsTo.same ⟨lab, x, sv, xs, HX.out⟩ (HF.out.trans0 F3.out)⟩
theorem gconcat_any (g : Nat) (F : Nat → Prop) (s : GS) (m : M6) (w : World) (h : Gs w g F s) :
    Calls Tryd.prog 74 #[.pointer (some ⟨g, 0, none⟩), mV m] w fun e w' => e = .returned (.int .i64 (concatF m s.cur.st).1) ∧ GsTo w g F { s with cur := { s.cur with st := (concatF m s.cur.st).2 } } w' := by
  unfold concatF
  by_cases h1 : (m6L m).all fitZ = true
  · rw [if_pos h1]
    by_cases h2 : (concatZ m s.cur.st.ctm).2 = 0
    · rw [if_pos h2]; exact gconcat_ok g F s m w h h1 h2
    · rw [if_neg h2]; exact gconcat_err g F s m w h h1 h2
  · rw [if_neg h1]
    have HI := Lib.hid (check_any ⟨g, 0, none⟩ (m6L m) _ _ (w.alloc (.cells (encM m).toArray 33)) (Blk.new w (encM m).toArray 33).m6)
    rw [chkI_no h1] at HI
    have HF := Lib.hid ((Fr.refl Nob w).alloc (.cells (encM m).toArray 33))
    have HH := Lib.hid h
    clear h h1
    unfold mV
    go_enter Tryd.func74, Tryd.ntmps74
    go_wp2_with fail
    refine HI.out.mono ?_
    rintro e w1 ⟨rfl, rfl⟩
    go_wp2_with fail
    go_ret
    exact ⟨rfl, GsTo.same HH.out HF.out⟩
end Go.Proofs.YtkkejjfmidgciaaDoor
