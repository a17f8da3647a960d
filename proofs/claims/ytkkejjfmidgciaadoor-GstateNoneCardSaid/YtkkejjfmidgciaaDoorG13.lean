/-
  The walks of the calls of no states.
-/
import Derived.Test.YtkkejjfmidgciaaDoorG12
namespace Go.Proofs.YtkkejjfmidgciaaDoor
open Go.RowKit
set_option linter.unusedVariables false
set_option linter.unusedSimpArgs false
theorem grestore_none (w : World) : Calls Tryd.prog 37 #[.pointer none] w fun e w' => e = .returned (.tuple #[]) ∧ w = w' := by
  go_enter Tryd.func37, Tryd.ntmps37
  go_wp2_with fail
  refine (gdepth_none _).mono ?_
  rintro e w1 ⟨rfl, rfl⟩
  go_wp2_with fail
  go_end0
  exact ⟨rfl, rfl⟩
theorem grestall_none (w : World) : Calls Tryd.prog 72 #[.pointer none] w fun e w' => e = .returned (.tuple #[]) ∧ w = w' := by
  go_enter Tryd.func72, Tryd.ntmps72
  go_wp2_with fail
  refine (gdepth_none _).mono ?_
  rintro e w1 ⟨rfl, rfl⟩
  go_wp2_with fail
  go_end0
  exact ⟨rfl, rfl⟩
theorem ginit_none (w : World) : Calls Tryd.prog 73 #[.pointer none] w fun e w' => e = .returned (.tuple #[]) ∧ w = w' := by
  go_enter Tryd.func73, Tryd.ntmps73
  go_wp2_with fail
  refine bodyPost_ret (results_none rfl _ _ _) rfl ?_
  exact ⟨rfl, rfl⟩
theorem gunclip_none (w : World) : Calls Tryd.prog 80 #[.pointer none] w fun e w' => e = .returned (.tuple #[]) ∧ w = w' := by
  go_enter Tryd.func80, Tryd.ntmps80
  go_wp2_with fail
  go_end0
  exact ⟨rfl, rfl⟩
theorem gcopy_none (w : World) : Calls Tryd.prog 40 #[.pointer none] w fun e w' => e = .returned (.pointer none) ∧ w = w' := by
  go_enter Tryd.func40, Tryd.ntmps40
  go_wp2_with fail
  go_ret
  exact ⟨rfl, rfl⟩
theorem gclip_none (b : Bool) (w : World) : Calls Tryd.prog 62 #[.pointer none, .bool b] w fun e w' => e = .returned (.int .i64 21) ∧ w = w' := by
  go_enter Tryd.func62, Tryd.ntmps62
  go_wp2_with fail
  refine (check_none _ _ _ _).mono ?_
  rintro e w1 ⟨rfl, rfl⟩
  go_wp2_with fail
  go_ret
  exact ⟨rfl, rfl⟩
theorem gmatrix_none (m : M6) (w : World) : Calls Tryd.prog 61 #[.pointer none, mV m] w fun e w' => e = .returned (.int .i64 21) ∧ Fr Nob w w' := by
  have HF := Lib.hid ((Fr.refl Nob w).alloc (.cells #[.int .i64 m.a, .int .i64 m.b, .int .i64 m.c, .int .i64 m.d, .int .i64 m.e, .int .i64 m.f] 33))
  unfold mV
  go_enter Tryd.func61, Tryd.ntmps61
  go_wp2_with fail
  refine (check_none _ _ _ _).mono ?_
  rintro e w1 ⟨rfl, rfl⟩
  go_wp2_with fail
  go_ret
  exact ⟨rfl, HF.out⟩
theorem gconcat_none (m : M6) (w : World) : Calls Tryd.prog 74 #[.pointer none, mV m] w fun e w' => e = .returned (.int .i64 21) ∧ Fr Nob w w' := by
  have HF := Lib.hid ((Fr.refl Nob w).alloc (.cells #[.int .i64 m.a, .int .i64 m.b, .int .i64 m.c, .int .i64 m.d, .int .i64 m.e, .int .i64 m.f] 33))
  unfold mV
  go_enter Tryd.func74, Tryd.ntmps74
  go_wp2_with fail
  refine (check_none _ _ _ _).mono ?_
  rintro e w1 ⟨rfl, rfl⟩
  go_wp2_with fail
  go_ret
  exact ⟨rfl, HF.out⟩
theorem gfont_none (n : Int) (m : M6) (w : World) : Calls Tryd.prog 60 #[.pointer none, .int .i64 n, mV m] w fun e w' => e = .returned (.int .i64 21) ∧ Fr Nob w w' := by
  have HF := Lib.hid ((Fr.refl Nob w).alloc (.cells #[.int .i64 m.a, .int .i64 m.b, .int .i64 m.c, .int .i64 m.d, .int .i64 m.e, .int .i64 m.f] 33))
  unfold mV
  go_enter Tryd.func60, Tryd.ntmps60
  go_wp2_with fail
  refine (check_none _ _ _ _).mono ?_
  rintro e w1 ⟨rfl, rfl⟩
  go_wp2_with fail
  go_ret
  exact ⟨rfl, HF.out⟩
theorem gcolor_none (A : Option Addr) (n c : Nat) (w : World) : Calls Tryd.prog 75 #[.pointer none, .slice A n c] w fun e w' => e = .returned (.int .i64 21) ∧ w = w' := by
  go_enter Tryd.func75, Tryd.ntmps75
  go_wp2_with fail
  refine (check_none _ _ _ _).mono ?_
  rintro e w1 ⟨rfl, rfl⟩
  go_wp2_with fail
  go_ret
  exact ⟨rfl, rfl⟩
/-- Numbers behind a first one, in a list that is made. -/
theorem OwnS.one (w : World) (n : Int) : OwnS (w.alloc (.cells #[.int .i64 n] 3)) 3 1 (.slice (some ⟨w.heap.size, 0, none⟩) 1 1) 1 (ints [n]) :=
  ⟨by simp [ints], .inr ⟨w.heap.size, 1, _, rfl, Blk.new _ _ _, Nat.le_refl _, by decide, by simp, by simp [ints]⟩⟩
theorem gdash_none (v : Value) (l : List Int) (n : Int) (S : Nat → Prop) (w : World) (h : RowIn w S 1 v l.length (ints l)) (hl : l.length ≤ 1000000) :
    Calls Tryd.prog 76 #[.pointer none, v, .int .i64 n] w fun e w' => e = .returned (.int .i64 21) ∧ Fr Nob w w' := by
  obtain ⟨i0, hi, hz0, hz1, hz2⟩ := info_parts infoInt
  obtain ⟨A, c, rfl, _⟩ := h.form
  have hf : Fr Nob w (w.alloc (.cells #[.int .i64 n] 3)) := (Fr.refl Nob w).alloc _
  have HR := Lib.hid (h.nob hf)
  have HO := Lib.hid (OwnS.one w n)
  have HF := Lib.hid hf
  clear h hf
  go_enter Tryd.func76, Tryd.ntmps76
  go_wp2_with (at_builtin; refine wpList_app _ rfl _ _ 30 rfl 3 i0 _ 1 8 Tryd.underlying30 hi hz0 hz1 hz2 rfl (by decide) _ 1 (ints [n]) rfl HO.out S _ l.length (ints l) rfl HR.out (ints_one l) (by unfold maxLen; omega) (by omega) ?_)
  intro v' w1 hown hfr hat
  have HF1 := Lib.hid (HF.out.trans hfr fun k hk => .inr (by simp [inB, Value.ownBlock] at hk; omega))
  obtain ⟨A1, c1, rfl, _⟩ := hown.form
  clear hown hfr hat
  go_wp2_with fail
  refine (check_none _ _ _ _).mono ?_
  rintro e w2 ⟨rfl, rfl⟩
  go_wp2_with fail
  go_ret
  exact ⟨rfl, HF1.out⟩
theorem gnow_none (w : World) : Calls Tryd.prog 32 #[.pointer none] w fun e w' => e = .returned (gV gStart nilV nilV) ∧ Fr Nob w w' := by
  have HF := Lib.hid ((Fr.refl Nob w).alloc (.cells #[.int .i64 0, .int .i64 0, .int .i64 0, .int .i64 0, .int .i64 0, .int .i64 0, .int .i64 0, .int .i64 0, .int .i64 0, .int .i64 0, .int .i64 0, .int .i64 0, .int .i64 0, .int .i64 0, .int .i64 0, .slice none 0 0, .int .i64 0, .int .i64 0, .int .i64 0, .int .i64 0, .int .i64 0, .int .i64 0, .int .i64 0, .int .i64 0, .slice none 0 0, .bool false] 79))
  have HZ := Lib.hid (show Blk (w.alloc (.cells #[.int .i64 0, .int .i64 0, .int .i64 0, .int .i64 0, .int .i64 0, .int .i64 0, .int .i64 0, .int .i64 0, .int .i64 0, .int .i64 0, .int .i64 0, .int .i64 0, .int .i64 0, .int .i64 0, .int .i64 0, .slice none 0 0, .int .i64 0, .int .i64 0, .int .i64 0, .int .i64 0, .int .i64 0, .int .i64 0, .int .i64 0, .int .i64 0, .slice none 0 0, .bool false] 79)) w.heap.size (encG gZero nilV nilV).toArray 79 from Blk.new w _ _)
  go_enter Tryd.func32, Tryd.ntmps32
  go_wp2_with fail
  refine (start_any _).mono ?_
  rintro e w1 ⟨rfl, h1⟩
  have HF1 := Lib.hid (HF.out.trans0 h1)
  have HZ1 := Lib.hid (HZ.out.nob h1)
  clear h1
  unfold gV
  go_wp2_with (refine wpList_putAt rfl 79 (.tmp 2) (.tmp 5) rfl w.heap.size 0 (encG gStart nilV nilV) (by rfl) (by rfl) 79 _ HZ1.out (by decide) sizeG (encG_one _ _ _ ⟨_, _, _, rfl⟩ ⟨_, _, _, rfl⟩) ?_)
  intro w3 hb3 hf3
  rw [over_all (encG gZero nilV nilV).toArray (encG gStart nilV nilV) rfl] at hb3
  have HB3 := Lib.hid hb3
  have H3 := Lib.hid (HF1.out.trans hf3 fun k hk => .inr (by rw [hk]; exact Nat.le_refl _))
  clear hb3 hf3
  go_wp2_with fail
  exact bodyPost_ret (results_cl rfl _ _ _ 79 _ _ rfl HB3.out Tryd.underlying79 rfl sizeG) rfl ⟨rfl, H3.out⟩
end Go.Proofs.YtkkejjfmidgciaaDoor
