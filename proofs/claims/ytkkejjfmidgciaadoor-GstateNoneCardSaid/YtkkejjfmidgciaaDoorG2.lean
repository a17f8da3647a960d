/-
  The walks of Identity, Start, New.
-/
import Derived.Test.YtkkejjfmidgciaaDoorG1
import Derived.Test.YtkkejjfmidgciaaDoorH1
namespace Go.Proofs.YtkkejjfmidgciaaDoor
open Go.RowKit
set_option linter.unusedVariables false
set_option linter.unusedSimpArgs false
def mId : M6 := ⟨65536, 0, 0, 65536, 0, 0⟩
def gStart : Gst := ⟨mId, ⟨1, 0, 0, 0, 0⟩, 65536, 0, 0, 655360, [], 0, -1, mId, [], false⟩
def gZero : Gst := ⟨⟨0, 0, 0, 0, 0, 0⟩, ⟨0, 0, 0, 0, 0⟩, 0, 0, 0, 0, [], 0, 0, ⟨0, 0, 0, 0, 0, 0⟩, [], false⟩
def mV (m : M6) : Value := .agg #[.int .i64 m.a, .int .i64 m.b, .int .i64 m.c, .int .i64 m.d, .int .i64 m.e, .int .i64 m.f]
def gV (s : Gst) (dv cv : Value) : Value := .agg (encG s dv cv).toArray
def nilV : Value := .slice none 0 0
theorem encG_one (s : Gst) (dv cv : Value) (hd : ∃ A n c, dv = .slice A n c) (hc : ∃ A n c, cv = .slice A n c) : ∀ u ∈ encG s dv cv, u.oneCell' = true := by
  obtain ⟨A, n, c, rfl⟩ := hd
  obtain ⟨A', n', c', rfl⟩ := hc
  intro u hu
  simp only [encG, List.mem_cons, List.not_mem_nil, or_false] at hu
  rcases hu with rfl | rfl | rfl | rfl | rfl | rfl | rfl | rfl | rfl | rfl | rfl | rfl | rfl | rfl | rfl | rfl | rfl | rfl | rfl | rfl | rfl | rfl | rfl | rfl | rfl | rfl <;> rfl
theorem sizeG : (Tryd.prog.info? 79).map (·.size) = some 26 := by kernel_rfl
theorem ident_any (w : World) : Calls Tryd.prog 86 #[] w fun e w' => e = .returned (mV mId) ∧ Fr Nob w w' := by
  have HB := Lib.hid (Blk.new w #[.int .i64 65536, .int .i64 0, .int .i64 0, .int .i64 65536, .int .i64 0, .int .i64 0] 33)
  unfold mV mId
  go_enter Tryd.func86, Tryd.ntmps86
  go_wp2
  exact bodyPost_ret (results_c rfl _ _ _ 33 _ _ rfl HB.out Tryd.underlying33 rfl (by kernel_rfl)) rfl ⟨rfl, (Fr.refl _ _).alloc _⟩
theorem start_any (w : World) : Calls Tryd.prog 41 #[] w fun e w' => e = .returned (gV gStart nilV nilV) ∧ Fr Nob w w' := by
  have HB := Lib.hid (Blk.new w (encG gZero nilV nilV).toArray 79)
  have HF := Lib.hid ((Fr.refl Nob w).alloc (.cells (encG gZero nilV nilV).toArray 79))
  go_enter Tryd.func41, Tryd.ntmps41
  go_wp2_with fail
  refine (ident_any _).mono ?_
  unfold mV mId
  rintro e w1 ⟨rfl, h1⟩
  have HB1 := Lib.hid (HB.out.nob h1)
  have H1 := Lib.hid (HF.out.trans0 h1)
  clear h1 HB HF
  go_wp2_with fail
  refine (ident_any _).mono ?_
  unfold mV mId
  rintro e w2 ⟨rfl, h2⟩
  have HB2 := Lib.hid (HB1.out.nob h2)
  have H2 := Lib.hid (H1.out.trans0 h2)
  clear h2 HB1 H1
  go_wp2_with (refine wpList_putAt rfl 79 (.tmp 0) (.tmp 5) rfl w.heap.size 0 (encG gStart nilV nilV) (by rfl) (by rfl) 79 _ HB2.out (by decide) sizeG (encG_one _ _ _ ⟨_, _, _, rfl⟩ ⟨_, _, _, rfl⟩) ?_)
  intro w3 hb3 hf3
  rw [over_all (encG gZero nilV nilV).toArray (encG gStart nilV nilV) rfl] at hb3
  have HB3 := Lib.hid hb3
  have H3 := Lib.hid (H2.out.trans hf3 fun k hk => .inr (by rw [hk]; exact Nat.le_refl _))
  clear hb3 hf3
  go_wp2_with fail
  exact bodyPost_ret (results_cl rfl _ _ _ 79 _ _ rfl HB3.out Tryd.underlying79 rfl sizeG) rfl ⟨rfl, H3.out⟩
/-- New states. -/
def sNew (most segs : Int) : GS := ⟨⟨gStart, ⟨segs, [], oo, oo⟩⟩, most, segs, []⟩
theorem gnew_any (most segs : Int) (w : World) :
    Calls Tryd.prog 29 #[.int .i64 most, .int .i64 segs] w fun e w' => ∃ g, e = .returned (.pointer (some ⟨g, 0, none⟩)) ∧ Gs w' g (Bt w w') (sNew most segs) ∧ Fr Nob w w' := by
  go_enter Tryd.func29, Tryd.ntmps29
  go_wp2_with fail
  refine (start_any _).mono ?_
  unfold gV
  simp only [encG, gStart, mId, nilV]
  rintro e w1 ⟨rfl, h1⟩
  have H1 := Lib.hid h1
  clear h1
  go_wp2_with fail
  refine (new_any segs w1).mono ?_
  rintro e w2 ⟨rfl, hp, h2⟩
  have HP := Lib.hid hp
  have H2 := Lib.hid (H1.out.trans0 h2)
  have hz := H1.out.size
  have hl := hp.1.lt
  clear hp h2
  go_wp2_with fail
  go_ret
  refine ⟨_, rfl, ⟨fun k => if k = w1.heap.size then 2 else 1, ⟨.slice none 0 0, .slice none 0 0, .slice none 0 0, w1.heap.size⟩, .slice none 0 0, [], rfl, Blk.new w2 _ _, ⟨⟨by omega, by simp⟩, by rw [if_neg (by omega)]⟩, OwnS.nil _ _ _, fun k hk => by simp [Value.ownBlock] at hk, ⟨⟨RowIn.nil _ _ _, Clps.nil _ _⟩, HP.out.nob ((Fr.refl Nob w2).alloc _), ?_⟩, fun i hi => by simp at hi⟩, H2.out.alloc _⟩
  rintro k (rfl | hk)
  · exact ⟨⟨hz, by simp; omega⟩, by rw [if_pos rfl]⟩
  · simp [Value.ownBlock] at hk
end Go.Proofs.YtkkejjfmidgciaaDoor
