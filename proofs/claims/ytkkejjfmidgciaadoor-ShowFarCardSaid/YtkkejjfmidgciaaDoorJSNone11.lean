/-
  Texts joined in build order: How far bytes go: show.far, show.Extent, the reference's Far. The reference's Far; show.Extent. paint.New; a page's side; the reference's Clip of no path. The reference's path, wherever it lies; the walks of its start, Current. The reference's path as functions on lists; a path that is built goes as the reference's, and is sound. No program, no conditions. The walk of the reference's Move.
-/
import Derived.Test.YtkkejjfmidgciaaDoorJSNone10
import Derived.Deep.RegionHeld3
import Derived.IntWalk
import Derived.Deep.RegionLaw
/- How far bytes go: show.far, show.Extent, the reference's Far. -/
namespace Go.Proofs.YtkkejjfmidgciaaDoor
open Go.RowKit
set_option linter.unusedVariables false
set_option linter.unusedSimpArgs false
/-- How far bytes go. -/
def farZ (font : Int) (fm : M6) (l : List Int) : Pt × Int := if fitZ (rq (sumF font l * 65536) 1000) then deltaZ fm ⟨rq (sumF font l * 65536) 1000, 0⟩ else (oo, 18)
theorem pairV_eq {a b : Pt × Int} (h : a = b) : Ending.returned (pairV a) = .returned (pairV b) := by rw [h]
set_option maxRecDepth 8000 in
set_option maxHeartbeats 1600000 in
theorem sfar_any (st : Gst) (dv cv v : Value) (l : List Int) (S : Nat → Prop) (w : World) (h : RowIn w S 1 v l.length (bytesV l)) (hl : l.length ≤ 6000) :
    Calls Tryd.prog 66 #[gV st dv cv, v] w fun e w' => e = .returned (pairV (farZ st.font st.fm l)) ∧ Fr Nob w w' := by
  have hb := sum_bound st.font l
  obtain ⟨s0, s1⟩ := hb
  have s2 : sumF st.font l ≤ 59994000 := by omega
  have hf0 : Fr Nob w ((w.alloc (.cells (encG st dv cv).toArray 79)).alloc (.cells #[.int .i64 0, .int .i64 0] 56)) := ((Fr.refl Nob w).alloc _).alloc _
  have HB := Lib.hid (show Blk ((w.alloc (.cells (encG st dv cv).toArray 79)).alloc (.cells #[.int .i64 0, .int .i64 0] 56)) w.heap.size (encG st dv cv).toArray 79 from (Blk.new w _ _).alloc _)
  have HZ := Lib.hid (show Blk ((w.alloc (.cells (encG st dv cv).toArray 79)).alloc (.cells #[.int .i64 0, .int .i64 0] 56)) (w.heap.size + 1) #[.int .i64 0, .int .i64 0] 56 from Blk.new1 w _ _ _)
  have HS := Lib.hid (fun w' (hf : Fr Nob w w') => sum_any st.font l v S w' (h.nob hf) hl)
  have HF0 := Lib.hid hf0
  have HQ : Hid (rq (sumF st.font l * 65536) 1000 = if 1000 - (sumF st.font l * 65536) % 1000 ≤ (sumF st.font l * 65536) % 1000 then (sumF st.font l * 65536) / 1000 + 1 else (sumF st.font l * 65536) / 1000) := rfl
  have HFZ : Hid (farZ st.font st.fm l = if fitZ (rq (sumF st.font l * 65536) 1000) then deltaZ st.fm ⟨rq (sumF st.font l * 65536) 1000, 0⟩ else (oo, 18)) := rfl
  generalize farZ st.font st.fm l = rz at *
  generalize sumF st.font l = sm at *
  obtain ⟨x, hx⟩ : ∃ x, sm * 65536 = x := ⟨_, rfl⟩
  rw [hx] at HQ HFZ
  have x0 : 0 ≤ x := by omega
  have x1 : x ≤ 3931766784000 := by omega
  have r0 := Int.emod_nonneg x (show (1000 : Int) ≠ 0 by decide)
  have r1 := Int.emod_lt_of_pos x (show (0 : Int) < 1000 by decide)
  have d0 := Int.ediv_nonneg x0 (show (0 : Int) ≤ 1000 by decide)
  have d1 : x / 1000 ≤ 3931766784 := by omega
  generalize rq x 1000 = q at *
  have key : ∃ c : Bool, Hid (c = decide (1000 ≤ 2 * (x % 1000))) ∧ Hid (q = if c then x / 1000 + 1 else x / 1000) := by
    refine ⟨_, rfl, ?_⟩
    show q = _
    rw [HQ.out]
    by_cases c : 1000 ≤ 2 * (x % 1000)
    · rw [if_pos (by omega), decide_eq_true c]; rfl
    · rw [if_neg (by omega), decide_eq_false c]; rfl
  obtain ⟨c, hc, hq⟩ := key
  clear h hf0 HQ
  unfold gV
  by_cases c1 : 1000 ≤ 2 * (x % 1000)
  · have e0 : q = x / 1000 + 1 := by have := hq.out; rw [hc.out, decide_eq_true c1] at this; exact this
    clear hc hq
    have b0 : -2147483648 ≤ q := by omega
    by_cases hfit : fitZ q = true
    · have HR := Lib.hid (show rz = deltaZ st.fm ⟨q, 0⟩ by rw [HFZ.out, if_pos hfit])
      have HT := Lib.hid (fix_fits q)
      have HD := Lib.hid (fun w => mdelta_any st.fm ⟨q, 0⟩ w)
      rw [hfit] at HT
      generalize deltaZ st.fm ⟨q, 0⟩ = dz at *
      clear hfit
      subst e0
      go_enter Tryd.func66, Tryd.ntmps66
      go_upto_region 1 with (fail)
      generalize (w.alloc (.cells (encG st dv cv).toArray 79)).alloc (.cells #[.int .i64 0, .int .i64 0] 56) = wa at *
      have k17 : wa.cell? ⟨w.heap.size, 17, none⟩ = some (.int .i64 st.font) := HB.out.cell 17
      go_wp2_with fail
      refine (HS.out wa HF0.out).mono ?_
      rintro _ w1 ⟨rfl, hf1⟩
      have HF1 := Lib.hid (HF0.out.trans0 hf1)
      have HB1 := HB.out.nob hf1
      have k18 : w1.cell? ⟨w.heap.size, 18, none⟩ = some (.int .i64 st.fm.a) := HB1.cell 18
      have k19 : w1.cell? ⟨w.heap.size, 19, none⟩ = some (.int .i64 st.fm.b) := HB1.cell 19
      have k20 : w1.cell? ⟨w.heap.size, 20, none⟩ = some (.int .i64 st.fm.c) := HB1.cell 20
      have k21 : w1.cell? ⟨w.heap.size, 21, none⟩ = some (.int .i64 st.fm.d) := HB1.cell 21
      have k22 : w1.cell? ⟨w.heap.size, 22, none⟩ = some (.int .i64 st.fm.e) := HB1.cell 22
      have k23 : w1.cell? ⟨w.heap.size, 23, none⟩ = some (.int .i64 st.fm.f) := HB1.cell 23
      have HZ1 := Lib.hid (HZ.out.nob hf1)
      clear hf1 k17
      go_wp2_with fail
      refine (HT.out _).mono ?_
      rintro _ w9 ⟨rfl, rfl⟩
      go_wp2_with fail
      refine (HD.out _).mono ?_
      unfold pairV ptV
      rintro _ w2 ⟨rfl, hf2⟩
      have HF2 := Lib.hid (HF1.out.trans0 hf2)
      have HZ2 := Lib.hid (HZ1.out.nob hf2)
      have z0 := HZ2.out.cell 0
      have z1 := HZ2.out.cell 1
      have y0 := HZ2.out.free 0
      have y1 := HZ2.out.free 1
      simp only [List.getElem?_toArray, List.getElem?_cons_succ, List.getElem?_cons_zero] at z0 z1
      clear hf2 k18 k19 k20 k21 k22 k23
      go_wp2_with fail
      exact bodyPost_ret (results_ct rfl _ _ _ 56 _ _ rfl ((HZ2.out.set 0 _).set 1 _) Tryd.underlying56 rfl (by kernel_rfl)) rfl ⟨by rw [HR.out]; rfl, (HF2.out.setCell (p := ⟨w.heap.size + 1, 0, none⟩) (.inr (by show w.heap.size ≤ w.heap.size + 1; omega)) _).setCell (p := ⟨w.heap.size + 1, 1, none⟩) (.inr (by show w.heap.size ≤ w.heap.size + 1; omega)) _⟩
    · have hfit' : fitZ q = false := by simpa using hfit
      have HR := Lib.hid (show rz = (oo, 18) by rw [HFZ.out, hfit']; rfl)
      have HT := Lib.hid (fix_fits q)
      rw [hfit'] at HT
      clear hfit hfit'
      subst e0
      go_enter Tryd.func66, Tryd.ntmps66
      go_upto_region 1 with (fail)
      generalize (w.alloc (.cells (encG st dv cv).toArray 79)).alloc (.cells #[.int .i64 0, .int .i64 0] 56) = wa at *
      have k17 : wa.cell? ⟨w.heap.size, 17, none⟩ = some (.int .i64 st.font) := HB.out.cell 17
      go_wp2_with fail
      refine (HS.out wa HF0.out).mono ?_
      rintro _ w1 ⟨rfl, hf1⟩
      have HF1 := Lib.hid (HF0.out.trans0 hf1)
      have HZ1 := Lib.hid (HZ.out.nob hf1)
      have z0 := HZ1.out.cell 0
      have z1 := HZ1.out.cell 1
      have y0 := HZ1.out.free 0
      have y1 := HZ1.out.free 1
      simp only [List.getElem?_toArray, List.getElem?_cons_succ, List.getElem?_cons_zero] at z0 z1
      clear hf1 k17
      go_wp2_with fail
      refine (HT.out _).mono ?_
      rintro _ w9 ⟨rfl, rfl⟩
      go_wp2_with fail
      exact bodyPost_ret (results_ct rfl _ _ _ 56 _ _ rfl ((HZ1.out.set 0 _).set 1 _) Tryd.underlying56 rfl (by kernel_rfl)) rfl ⟨by rw [HR.out]; rfl, (HF1.out.setCell (p := ⟨w.heap.size + 1, 0, none⟩) (.inr (by show w.heap.size ≤ w.heap.size + 1; omega)) _).setCell (p := ⟨w.heap.size + 1, 1, none⟩) (.inr (by show w.heap.size ≤ w.heap.size + 1; omega)) _⟩
  · have e0 : q = x / 1000 := by have := hq.out; rw [hc.out, decide_eq_false c1] at this; exact this
    clear hc hq
    have b0 : -2147483648 ≤ q := by omega
    by_cases hfit : fitZ q = true
    · have HR := Lib.hid (show rz = deltaZ st.fm ⟨q, 0⟩ by rw [HFZ.out, if_pos hfit])
      have HT := Lib.hid (fix_fits q)
      have HD := Lib.hid (fun w => mdelta_any st.fm ⟨q, 0⟩ w)
      rw [hfit] at HT
      generalize deltaZ st.fm ⟨q, 0⟩ = dz at *
      clear hfit
      subst e0
      go_enter Tryd.func66, Tryd.ntmps66
      go_upto_region 1 with (fail)
      generalize (w.alloc (.cells (encG st dv cv).toArray 79)).alloc (.cells #[.int .i64 0, .int .i64 0] 56) = wa at *
      have k17 : wa.cell? ⟨w.heap.size, 17, none⟩ = some (.int .i64 st.font) := HB.out.cell 17
      go_wp2_with fail
      refine (HS.out wa HF0.out).mono ?_
      rintro _ w1 ⟨rfl, hf1⟩
      have HF1 := Lib.hid (HF0.out.trans0 hf1)
      have HB1 := HB.out.nob hf1
      have k18 : w1.cell? ⟨w.heap.size, 18, none⟩ = some (.int .i64 st.fm.a) := HB1.cell 18
      have k19 : w1.cell? ⟨w.heap.size, 19, none⟩ = some (.int .i64 st.fm.b) := HB1.cell 19
      have k20 : w1.cell? ⟨w.heap.size, 20, none⟩ = some (.int .i64 st.fm.c) := HB1.cell 20
      have k21 : w1.cell? ⟨w.heap.size, 21, none⟩ = some (.int .i64 st.fm.d) := HB1.cell 21
      have k22 : w1.cell? ⟨w.heap.size, 22, none⟩ = some (.int .i64 st.fm.e) := HB1.cell 22
      have k23 : w1.cell? ⟨w.heap.size, 23, none⟩ = some (.int .i64 st.fm.f) := HB1.cell 23
      have HZ1 := Lib.hid (HZ.out.nob hf1)
      clear hf1 k17
      go_wp2_with fail
      refine (HT.out _).mono ?_
      rintro _ w9 ⟨rfl, rfl⟩
      go_wp2_with fail
      refine (HD.out _).mono ?_
      unfold pairV ptV
      rintro _ w2 ⟨rfl, hf2⟩
      have HF2 := Lib.hid (HF1.out.trans0 hf2)
      have HZ2 := Lib.hid (HZ1.out.nob hf2)
      have z0 := HZ2.out.cell 0
      have z1 := HZ2.out.cell 1
      have y0 := HZ2.out.free 0
      have y1 := HZ2.out.free 1
      simp only [List.getElem?_toArray, List.getElem?_cons_succ, List.getElem?_cons_zero] at z0 z1
      clear hf2 k18 k19 k20 k21 k22 k23
      go_wp2_with fail
      exact bodyPost_ret (results_ct rfl _ _ _ 56 _ _ rfl ((HZ2.out.set 0 _).set 1 _) Tryd.underlying56 rfl (by kernel_rfl)) rfl ⟨by rw [HR.out]; rfl, (HF2.out.setCell (p := ⟨w.heap.size + 1, 0, none⟩) (.inr (by show w.heap.size ≤ w.heap.size + 1; omega)) _).setCell (p := ⟨w.heap.size + 1, 1, none⟩) (.inr (by show w.heap.size ≤ w.heap.size + 1; omega)) _⟩
    · have hfit' : fitZ q = false := by simpa using hfit
      have HR := Lib.hid (show rz = (oo, 18) by rw [HFZ.out, hfit']; rfl)
      have HT := Lib.hid (fix_fits q)
      rw [hfit'] at HT
      clear hfit hfit'
      subst e0
      go_enter Tryd.func66, Tryd.ntmps66
      go_upto_region 1 with (fail)
      generalize (w.alloc (.cells (encG st dv cv).toArray 79)).alloc (.cells #[.int .i64 0, .int .i64 0] 56) = wa at *
      have k17 : wa.cell? ⟨w.heap.size, 17, none⟩ = some (.int .i64 st.font) := HB.out.cell 17
      go_wp2_with fail
      refine (HS.out wa HF0.out).mono ?_
      rintro _ w1 ⟨rfl, hf1⟩
      have HF1 := Lib.hid (HF0.out.trans0 hf1)
      have HZ1 := Lib.hid (HZ.out.nob hf1)
      have z0 := HZ1.out.cell 0
      have z1 := HZ1.out.cell 1
      have y0 := HZ1.out.free 0
      have y1 := HZ1.out.free 1
      simp only [List.getElem?_toArray, List.getElem?_cons_succ, List.getElem?_cons_zero] at z0 z1
      clear hf1 k17
      go_wp2_with fail
      refine (HT.out _).mono ?_
      rintro _ w9 ⟨rfl, rfl⟩
      go_wp2_with fail
      exact bodyPost_ret (results_ct rfl _ _ _ 56 _ _ rfl ((HZ1.out.set 0 _).set 1 _) Tryd.underlying56 rfl (by kernel_rfl)) rfl ⟨by rw [HR.out]; rfl, (HF1.out.setCell (p := ⟨w.heap.size + 1, 0, none⟩) (.inr (by show w.heap.size ≤ w.heap.size + 1; omega)) _).setCell (p := ⟨w.heap.size + 1, 1, none⟩) (.inr (by show w.heap.size ≤ w.heap.size + 1; omega)) _⟩
end Go.Proofs.YtkkejjfmidgciaaDoor
/- The reference's Far; show.Extent. -/
namespace Go.Proofs.YtkkejjfmidgciaaDoor
open Go.RowKit
set_option linter.unusedVariables false
set_option linter.unusedSimpArgs false
/-- A state of the reference's in a block of its own. -/
def RSt (w : World) (g : Nat) (st : Gst) (dv cv : Value) (most : Int) (lv : Value) : Prop := Blk w g (encG st dv cv ++ [.int .i64 most, lv]).toArray 63
theorem RSt.cells {w : World} {g : Nat} {st : Gst} {dv cv : Value} {most : Int} {lv : Value} (h : RSt w g st dv cv most lv) : Blk w g #[.int .i64 st.ctm.a, .int .i64 st.ctm.b, .int .i64 st.ctm.c, .int .i64 st.ctm.d, .int .i64 st.ctm.e, .int .i64 st.ctm.f, .int .i64 st.col.sp, .int .i64 st.col.p0, .int .i64 st.col.p1, .int .i64 st.col.p2, .int .i64 st.col.p3, .int .i64 st.width, .int .i64 st.cap, .int .i64 st.join, .int .i64 st.miter, dv, .int .i64 st.phase, .int .i64 st.font, .int .i64 st.fm.a, .int .i64 st.fm.b, .int .i64 st.fm.c, .int .i64 st.fm.d, .int .i64 st.fm.e, .int .i64 st.fm.f, cv, .bool st.dark, .int .i64 most, lv] 63 := h
theorem RSt.nob {w w' : World} {g : Nat} {st : Gst} {dv cv : Value} {most : Int} {lv : Value} (h : RSt w g st dv cv most lv) (hf : Fr Nob w w') : RSt w' g st dv cv most lv := Blk.nob h hf
set_option maxRecDepth 8000 in
set_option maxHeartbeats 1600000 in
theorem rfar_any (g : Nat) (st : Gst) (dv cv v lv : Value) (most : Int) (l : List Int) (S : Nat → Prop) (w : World) (hg : RSt w g st dv cv most lv) (h : RowIn w S 1 v l.length (bytesV l)) (hl : l.length ≤ 6000) :
    Calls Tryd.prog 27 #[.pointer (some ⟨g, 0, none⟩), v] w fun e w' => e = .returned (pairV (farZ st.font st.fm l)) ∧ Fr Nob w w' := by
  have hb := sum_bound st.font l
  obtain ⟨s0, s1⟩ := hb
  have s2 : sumF st.font l ≤ 59994000 := by omega
  have hf0 : Fr Nob w (w.alloc (.cells #[.int .i64 0, .int .i64 0] 56)) := (Fr.refl Nob w).alloc _
  have HB := Lib.hid (hg.nob hf0)
  have HZ := Lib.hid (show Blk (w.alloc (.cells #[.int .i64 0, .int .i64 0] 56)) w.heap.size #[.int .i64 0, .int .i64 0] 56 from Blk.new w _ _)
  have HS := Lib.hid (fun w' (hf : Fr Nob w w') => rsum_any st.font l v S w' (h.nob hf) hl)
  have HF0 := Lib.hid hf0
  have HFZ : Hid (farZ st.font st.fm l = if fitZ (rq (sumF st.font l * 65536) 1000) then deltaZ st.fm ⟨rq (sumF st.font l * 65536) 1000, 0⟩ else (oo, 18)) := rfl
  generalize farZ st.font st.fm l = rz at *
  generalize sumF st.font l = sm at *
  obtain ⟨x, hx⟩ : ∃ x, sm * 65536 = x := ⟨_, rfl⟩
  rw [hx] at HFZ
  have x0 : 0 ≤ x := by omega
  have x1 : x ≤ 3931766784000 := by omega
  have HQ := Lib.hid (fun w => rround_pos x 1000 w ⟨x0, by omega⟩ (by decide))
  generalize rq x 1000 = q at *
  clear h hg hf0
  by_cases hfit : fitZ q = true
  · have HR := Lib.hid (show rz = deltaZ st.fm ⟨q, 0⟩ by rw [HFZ.out, if_pos hfit])
    have HT := Lib.hid (ref_fits q)
    have HD := Lib.hid (fun w => rdelta_any st.fm ⟨q, 0⟩ w)
    rw [hfit] at HT
    generalize deltaZ st.fm ⟨q, 0⟩ = dz at *
    clear hfit
    go_enter Tryd.func27, Tryd.ntmps27
    go_upto_region 1 with (fail)
    generalize w.alloc (.cells #[.int .i64 0, .int .i64 0] 56) = wa at *
    have k17 : wa.cell? ⟨g, 17, none⟩ = some (.int .i64 st.font) := HB.out.cells.cell 17
    go_wp2_with fail
    refine (HS.out wa HF0.out).mono ?_
    rintro _ w1 ⟨rfl, hf1⟩
    have HF1 := Lib.hid (HF0.out.trans0 hf1)
    have HB1 := Lib.hid (HB.out.nob hf1)
    have HZ1 := Lib.hid (HZ.out.nob hf1)
    clear hf1 k17
    go_wp2_with fail
    refine (HQ.out _).mono ?_
    rintro _ w2 ⟨rfl, hf2⟩
    have HF2 := Lib.hid (HF1.out.trans0 hf2)
    have HB2 := (HB1.out.nob hf2).cells
    have k18 : w2.cell? ⟨g, 18, none⟩ = some (.int .i64 st.fm.a) := HB2.cell 18
    have k19 : w2.cell? ⟨g, 19, none⟩ = some (.int .i64 st.fm.b) := HB2.cell 19
    have k20 : w2.cell? ⟨g, 20, none⟩ = some (.int .i64 st.fm.c) := HB2.cell 20
    have k21 : w2.cell? ⟨g, 21, none⟩ = some (.int .i64 st.fm.d) := HB2.cell 21
    have k22 : w2.cell? ⟨g, 22, none⟩ = some (.int .i64 st.fm.e) := HB2.cell 22
    have k23 : w2.cell? ⟨g, 23, none⟩ = some (.int .i64 st.fm.f) := HB2.cell 23
    have HZ2 := Lib.hid (HZ1.out.nob hf2)
    clear hf2 HB2
    go_wp2_with fail
    refine (HT.out _).mono ?_
    rintro _ w9 ⟨rfl, rfl⟩
    go_wp2_with fail
    refine (HD.out _).mono ?_
    unfold pairV ptV
    rintro _ w3 ⟨rfl, hf3⟩
    have HF3 := Lib.hid (HF2.out.trans0 hf3)
    have HZ3 := Lib.hid (HZ2.out.nob hf3)
    have z0 := HZ3.out.cell 0
    have z1 := HZ3.out.cell 1
    have y0 := HZ3.out.free 0
    have y1 := HZ3.out.free 1
    simp only [List.getElem?_toArray, List.getElem?_cons_succ, List.getElem?_cons_zero] at z0 z1
    clear hf3 k18 k19 k20 k21 k22 k23
    go_wp2_with fail
    exact bodyPost_ret (results_ct rfl _ _ _ 56 _ _ rfl ((HZ3.out.set 0 _).set 1 _) Tryd.underlying56 rfl (by kernel_rfl)) rfl ⟨by rw [HR.out]; rfl, (HF3.out.setCell (p := ⟨w.heap.size, 0, none⟩) (.inr (Nat.le_refl _)) _).setCell (p := ⟨w.heap.size, 1, none⟩) (.inr (Nat.le_refl _)) _⟩
  · have hfit' : fitZ q = false := by simpa using hfit
    have HR := Lib.hid (show rz = (oo, 18) by rw [HFZ.out, hfit']; rfl)
    have HT := Lib.hid (ref_fits q)
    rw [hfit'] at HT
    clear hfit hfit'
    go_enter Tryd.func27, Tryd.ntmps27
    go_upto_region 1 with (fail)
    generalize w.alloc (.cells #[.int .i64 0, .int .i64 0] 56) = wa at *
    have k17 : wa.cell? ⟨g, 17, none⟩ = some (.int .i64 st.font) := HB.out.cells.cell 17
    go_wp2_with fail
    refine (HS.out wa HF0.out).mono ?_
    rintro _ w1 ⟨rfl, hf1⟩
    have HF1 := Lib.hid (HF0.out.trans0 hf1)
    have HZ1 := Lib.hid (HZ.out.nob hf1)
    clear hf1 k17
    go_wp2_with fail
    refine (HQ.out _).mono ?_
    rintro _ w2 ⟨rfl, hf2⟩
    have HF2 := Lib.hid (HF1.out.trans0 hf2)
    have HZ2 := Lib.hid (HZ1.out.nob hf2)
    have z0 := HZ2.out.cell 0
    have z1 := HZ2.out.cell 1
    have y0 := HZ2.out.free 0
    have y1 := HZ2.out.free 1
    simp only [List.getElem?_toArray, List.getElem?_cons_succ, List.getElem?_cons_zero] at z0 z1
    clear hf2
    go_wp2_with fail
    refine (HT.out _).mono ?_
    rintro _ w9 ⟨rfl, rfl⟩
    go_wp2_with fail
    exact bodyPost_ret (results_ct rfl _ _ _ 56 _ _ rfl ((HZ2.out.set 0 _).set 1 _) Tryd.underlying56 rfl (by kernel_rfl)) rfl ⟨by rw [HR.out]; rfl, (HF2.out.setCell (p := ⟨w.heap.size, 0, none⟩) (.inr (Nat.le_refl _)) _).setCell (p := ⟨w.heap.size, 1, none⟩) (.inr (Nat.le_refl _)) _⟩
theorem extent_none (A : Option Addr) (n c : Nat) (w : World) : Calls Tryd.prog 26 #[.pointer none, .slice A n c] w fun e w' => e = .returned (pairV (oo, 21)) ∧ Fr Nob w w' := by
  have HZ := Lib.hid (Blk.new w #[.int .i64 0, .int .i64 0] 56)
  go_enter Tryd.func26, Tryd.ntmps26
  go_wp2_with fail
  exact bodyPost_ret (results_ct rfl _ _ _ 56 _ _ rfl HZ.out Tryd.underlying56 rfl (by kernel_rfl)) rfl ⟨rfl, (Fr.refl Nob w).alloc _⟩
/-- What Extent answers. -/
def extF (st : Gst) (l : List Int) : Pt × Int := if st.font < 0 then (oo, 7) else farZ st.font st.fm l
set_option maxRecDepth 8000 in
set_option maxHeartbeats 1600000 in
theorem extent_any (g : Nat) (F S : Nat → Prop) (s : GS) (v : Value) (l : List Int) (w : World) (h : Gs w g F s) (hb : SmallG s.cur.st) (hr : RowIn w S 1 v l.length (bytesV l)) (hl : l.length ≤ 6000) :
    Calls Tryd.prog 26 #[.pointer (some ⟨g, 0, none⟩), v] w fun e w' => e = .returned (pairV (extF s.cur.st l)) ∧ Fr Nob w w' := by
  obtain ⟨A, c, rfl, _, _⟩ := hr.form
  have hf0 : Fr Nob w (w.alloc (.cells #[.int .i64 0, .int .i64 0] 56)) := (Fr.refl Nob w).alloc _
  have HP := Lib.hid (show Blk (w.alloc (.cells #[.int .i64 0, .int .i64 0] 56)) w.heap.size #[.int .i64 0, .int .i64 0] 56 from Blk.new w _ _)
  have HG := Lib.hid (h.nob hf0)
  have HR := Lib.hid (hr.lts.nob hf0)
  have HF0 := Lib.hid hf0
  have HB := Lib.hid hb
  have HX : Hid (extF s.cur.st l = if s.cur.st.font < 0 then (oo, 7) else farZ s.cur.st.font s.cur.st.fm l) := rfl
  generalize extF s.cur.st l = rz at *
  clear h hf0 hb hr
  go_enter Tryd.func26, Tryd.ntmps26
  go_upto_region 1 with (fail)
  generalize w.alloc (.cells #[.int .i64 0, .int .i64 0] 56) = wa at *
  go_wp2_with fail
  refine (gnow_any g F s wa HG.out HB.out).mono ?_
  rintro e w3 ⟨dv, cv, rfl, hg3, hf3⟩
  have HF3 := Lib.hid (HF0.out.trans0 hf3)
  obtain ⟨Ad, cd, hdv, _⟩ := hg3.d.form
  obtain ⟨Ac, cc, hcv, _⟩ := hg3.c.form
  subst hdv
  subst hcv
  have HZ0 := Lib.hid (Blk.new w3 (encG gZero nilV nilV).toArray 79)
  have HF30 := Lib.hid (HF3.out.alloc (.cells (encG gZero nilV nilV).toArray 79))
  have HP3 := Lib.hid ((HP.out.nob hf3).alloc (.cells (encG gZero nilV nilV).toArray 79))
  have HR3 := Lib.hid ((HR.out.nob hf3).nob ((Fr.refl Nob w3).alloc (.cells (encG gZero nilV nilV).toArray 79)))
  have HLT := Lib.hid HF3.out.size
  have HPL := Lib.hid (HP.out.nob hf3).lt
  clear hg3 hf3
  unfold gV
  go_wp2_with (refine wpList_putAt rfl 79 (.tmp 6) (.tmp 11) rfl w3.heap.size 0 (encG s.cur.st (.slice Ad s.cur.st.dash.length cd) (.slice Ac s.cur.st.clips.length cc)) (by rfl) (by rfl) 79 _ HZ0.out (Nat.le_refl 26) sizeG (encG_one _ _ _ ⟨_, _, _, rfl⟩ ⟨_, _, _, rfl⟩) ?_)
  intro w4 hb4 hf4
  rw [over_all (encG gZero nilV nilV).toArray (encG s.cur.st (.slice Ad s.cur.st.dash.length cd) (.slice Ac s.cur.st.clips.length cc)) rfl] at hb4
  have HB4 := Lib.hid hb4
  have HF4 := Lib.hid (HF30.out.trans hf4 fun k hk => .inr (by rw [hk]; exact HLT.out))
  have HP4 := Lib.hid (HP3.out.fr hf4 fun hk => by have := HPL.out; omega)
  have HR4 := Lib.hid (HR3.out.fr hf4 fun k hk e => by have := hk.2; have := HF3.out.size; omega)
  have k17 : w4.cell? ⟨w3.heap.size, 17, none⟩ = some (.int .i64 s.cur.st.font) := hb4.cell 17
  clear hb4 hf4
  by_cases hfn : s.cur.st.font < 0
  · have HQ := Lib.hid (show rz = (oo, 7) by rw [HX.out, if_pos hfn])
    have z0 := HP4.out.cell 0
    have z1 := HP4.out.cell 1
    have y0 := HP4.out.free 0
    have y1 := HP4.out.free 1
    simp only [List.getElem?_toArray, List.getElem?_cons_succ, List.getElem?_cons_zero] at z0 z1
    go_wp2_with fail
    exact bodyPost_ret (results_ct rfl _ _ _ 56 _ _ rfl ((HP4.out.set 0 _).set 1 _) Tryd.underlying56 rfl (by kernel_rfl)) rfl ⟨by rw [HQ.out]; rfl, (HF4.out.setCell (p := ⟨w.heap.size, 0, none⟩) (.inr (Nat.le_refl _)) _).setCell (p := ⟨w.heap.size, 1, none⟩) (.inr (Nat.le_refl _)) _⟩
  · have HQ := Lib.hid (show rz = farZ s.cur.st.font s.cur.st.fm l by rw [HX.out, if_neg hfn])
    have HSF := Lib.hid (fun w h => sfar_any s.cur.st (.slice Ad s.cur.st.dash.length cd) (.slice Ac s.cur.st.clips.length cc) (.slice A l.length c) l (fun k => S k ∧ k < w.heap.size) w h hl)
    have HSG : Hid (∀ w' (S' : Nat → Prop), RowIn w' S' 1 (.slice A l.length c) l.length (bytesV l) → Calls Tryd.prog 66 #[.agg (encG s.cur.st (.slice Ad s.cur.st.dash.length cd) (.slice Ac s.cur.st.clips.length cc)).toArray, .slice A l.length c] w' fun e w'' => e = .returned (pairV (farZ s.cur.st.font s.cur.st.fm l)) ∧ Fr Nob w' w'') := fun w' S' h => sfar_any s.cur.st (.slice Ad s.cur.st.dash.length cd) (.slice Ac s.cur.st.clips.length cc) (.slice A l.length c) l S' w' h hl
    generalize farZ s.cur.st.font s.cur.st.fm l = fz at *
    clear HSF
    go_wp2_with (refine wpList_getAt rfl 79 (.tmp 6) rfl w3.heap.size 0 (by rfl) (encG s.cur.st (.slice Ad s.cur.st.dash.length cd) (.slice Ac s.cur.st.clips.length cc)) _ (HB4.out.range 0 _ (by rfl)) Tryd.underlying79 rfl sizeG ?_)
    refine (HSG.out _ _ HR4.out).mono ?_
    unfold pairV ptV
    rintro e w5 ⟨rfl, hf5⟩
    have HF5 := Lib.hid (HF4.out.trans0 hf5)
    have HP5 := Lib.hid (HP4.out.nob hf5)
    have z0 := HP5.out.cell 0
    have z1 := HP5.out.cell 1
    have y0 := HP5.out.free 0
    have y1 := HP5.out.free 1
    simp only [List.getElem?_toArray, List.getElem?_cons_succ, List.getElem?_cons_zero] at z0 z1
    clear hf5 k17
    go_wp2_with fail
    exact bodyPost_ret (results_ct rfl _ _ _ 56 _ _ rfl ((HP5.out.set 0 _).set 1 _) Tryd.underlying56 rfl (by kernel_rfl)) rfl ⟨by rw [HQ.out]; rfl, (HF5.out.setCell (p := ⟨w.heap.size, 0, none⟩) (.inr (Nat.le_refl _)) _).setCell (p := ⟨w.heap.size, 1, none⟩) (.inr (Nat.le_refl _)) _⟩
end Go.Proofs.YtkkejjfmidgciaaDoor
/- paint.New; a page's side; the reference's Clip of no path. -/
namespace Go.Proofs.YtkkejjfmidgciaaDoor
open Go.RowKit
set_option linter.unusedVariables false
set_option linter.unusedSimpArgs false
def sideB (n : Int) : Bool := decide (65536 ≤ n) && (decide (n ≤ 943718400) && decide (n % 65536 = 0))
theorem side_any (n : Int) (w : World) : Calls Tryd.prog 47 #[.int .i64 n] w fun e w' => e = .returned (.bool (sideB n)) ∧ w = w' := by
  unfold sideB
  by_cases h1 : 65536 ≤ n
  · by_cases h2 : n ≤ 943718400
    · by_cases h3 : n % 65536 = 0
      · rw [decide_eq_true h1, decide_eq_true h2, decide_eq_true h3]
        have h0 : 0 ≤ n := by omega
        have q3 : (n % 65536 == 0) = true := by simpa using h3
        clear h3
        go_enter Tryd.func47, Tryd.ntmps47
        go_wp2
        go_ret
        exact ⟨rfl, rfl⟩
      · rw [decide_eq_true h1, decide_eq_true h2, decide_eq_false h3]
        have h0 : 0 ≤ n := by omega
        have q3 : (n % 65536 == 0) = false := by simpa using h3
        clear h3
        go_enter Tryd.func47, Tryd.ntmps47
        go_wp2
        go_ret
        exact ⟨rfl, rfl⟩
    · rw [decide_eq_true h1, decide_eq_false h2]
      go_enter Tryd.func47, Tryd.ntmps47
      go_wp2
      go_ret
      exact ⟨rfl, rfl⟩
  · rw [decide_eq_false h1]
    go_enter Tryd.func47, Tryd.ntmps47
    go_wp2
    go_ret
    exact ⟨rfl, rfl⟩
theorem pnew_any (a b n : Int) (ha : sideB a = true) (hb : sideB b = true) (hn : 1 ≤ n ∧ n ≤ 256) (w : World) :
    Calls Tryd.prog 14 #[.int .i64 a, .int .i64 b, .int .i64 n] w fun e w' => e = .returned (.tuple #[.pointer (some ⟨w.heap.size, 0, none⟩), .int .i64 0]) ∧ Blk w' w.heap.size #[.int .i64 a, .int .i64 b, .slice none 0 0, .int .i64 n, .slice none 0 0] 103 ∧ Fr Nob w w' := by
  have HA := Lib.hid (side_any a w)
  have HB := Lib.hid (side_any b w)
  rw [ha] at HA
  rw [hb] at HB
  obtain ⟨n1, n2⟩ := hn
  have i1 : ¬ n < 1 := by omega
  have i2 : ¬ 256 < n := by omega
  clear ha hb
  go_enter Tryd.func14, Tryd.ntmps14
  go_wp2_with fail
  refine HA.out.mono ?_
  rintro _ w1 ⟨rfl, rfl⟩
  go_wp2_with fail
  refine HB.out.mono ?_
  rintro _ w1 ⟨rfl, rfl⟩
  go_wp2_with fail
  go_ret2
  exact ⟨rfl, Blk.new w _ _, (Fr.refl Nob w).alloc _⟩
theorem rclip_dark (g : Nat) (st : Gst) (dv : Value) (most : Int) (eo : Bool) (w : World) (hd : ∃ A n c, dv = .slice A n c) (h : RSt w g st dv nilV most nilV) :
    Calls Tryd.prog 63 #[.pointer (some ⟨g, 0, none⟩), .bool eo] w fun e w' => e = .returned (.int .i64 0) ∧ RSt w' g { st with dark := true } dv nilV most nilV ∧ Fr (fun k => k = g) w w' := by
  have hc := h.cells
  have k24 : w.cell? ⟨g, 24, none⟩ = some (.slice none 0 0) := hc.cell 24
  have k25 : w.cell? ⟨g, 25, none⟩ = some (.bool st.dark) := hc.cell 25
  have k27 : w.cell? ⟨g, 27, none⟩ = some (.slice none 0 0) := hc.cell 27
  have f25 := hc.free 25
  have HS := Lib.hid (hc.set 25 (.bool true))
  clear h hc
  go_enter Tryd.func63, Tryd.ntmps63
  go_wp2_with fail
  go_ret
  exact ⟨rfl, HS.out, (Fr.refl (fun k => k = g) w).setCell (p := ⟨g, 25, none⟩) (.inl rfl) _⟩
end Go.Proofs.YtkkejjfmidgciaaDoor
/- The reference's path, wherever it lies; the walks of its start, Current. -/
namespace Go.Proofs.YtkkejjfmidgciaaDoor
open Go.RowKit
set_option linter.unusedVariables false
set_option linter.unusedSimpArgs false
/-- The reference's path, at the cell o of block g; v: its list, which lies in the blocks of S. -/
structure Rq (w : World) (S : Nat → Prop) (g o : Nat) (v : Value) (most : Int) (l : List Sg) : Prop where
  c0 : w.cell? ⟨g, o, none⟩ = some (.int .i64 most)
  c1 : w.cell? ⟨g, o + 1, none⟩ = some v
  f1 : w.frozen? ⟨g, o + 1, none⟩ = false
  row : RowIn w S 7 v l.length (encSs l)
  ng : ¬ S g
theorem frozen_fr {S : Nat → Prop} {w w' : World} {a : Addr} {v : Value} {b : Bool} (hc : w.cell? a = some v) (h : w.frozen? a = b) (hf : Fr S w w') (hn : ¬ S a.block) : w'.frozen? a = b := by
  have hb := hf.block _ (World.block_lt_of_cell? w _ hc) hn
  unfold World.frozen? at h ⊢
  rw [hb]; exact h
theorem Rq.fr {w w' : World} {S T : Nat → Prop} {g o : Nat} {v : Value} {most : Int} {l : List Sg} (h : Rq w S g o v most l) (hf : Fr T w w') (hg : ¬ T g) (hS : ∀ k, S k → ¬ T k) : Rq w' S g o v most l :=
  ⟨cell_fr h.c0 hf hg, cell_fr h.c1 hf hg, frozen_fr h.c1 h.f1 hf hg, h.row.fr hf hS, h.ng⟩
theorem Rq.nob {w w' : World} {S : Nat → Prop} {g o : Nat} {v : Value} {most : Int} {l : List Sg} (h : Rq w S g o v most l) (hf : Fr Nob w w') : Rq w' S g o v most l := h.fr hf (fun hh => hh) fun _ _ hh => hh
theorem Rq.lt {w : World} {S : Nat → Prop} {g o : Nat} {v : Value} {most : Int} {l : List Sg} (h : Rq w S g o v most l) : g < w.heap.size := World.block_lt_of_cell? w _ h.c0
theorem setCell_self {w : World} {b o : Nat} {v : Value} (h : w.cell? ⟨b, o, none⟩ = some v) : w.setCell ⟨b, o, none⟩ v = w := by
  have hlt := World.block_lt_of_cell? w _ h
  unfold World.cell? at h
  unfold World.setCell
  simp only [Option.isSome_none, Bool.false_eq_true, if_false]
  have hw : ∀ H, H = w.heap → ({ w with heap := H } : World) = w := by rintro _ rfl; rfl
  refine hw _ (Array.ext (by simp) fun i h1 h2 => ?_)
  rw [Array.getElem_modify]
  split
  · next hi =>
    subst hi
    have hb : w.heap[b]? = some w.heap[b] := Array.getElem?_eq_getElem h2
    simp only [hb] at h
    generalize w.heap[b] = x at *
    cases x with
    | cells cs e f =>
      simp only at h ⊢
      have hc : cs[o]? = some v := by simpa using h
      congr 1
      refine Array.ext (by simp) fun j q1 q2 => ?_
      rw [Array.getElem_setIfInBounds]
      split
      · next hj => subst hj; rw [Array.getElem?_eq_getElem q2] at hc; exact (Option.some.inj hc).symm
      · rfl
    | _ => rfl
  · rfl
/-- What a call leaves of the reference's path: new memory, its list's cell. -/
def RqTo (w : World) (S : Nat → Prop) (g o : Nat) (l : List Sg) (w' : World) : Prop :=
  ∃ v w1, Fr Nob w w1 ∧ w' = w1.setCell ⟨g, o + 1, none⟩ v ∧ RowIn w1 (fun k => S k ∨ Bt w w1 k) 7 v l.length (encSs l)
theorem RqTo.same {w w' : World} {S : Nat → Prop} {g o : Nat} {v : Value} {most : Int} {l : List Sg} (h : Rq w S g o v most l) (hf : Fr Nob w w') : RqTo w S g o l w' :=
  ⟨v, w', hf, (setCell_self (h.nob hf).c1).symm, (h.nob hf).row.mono fun k hk => .inl hk⟩
theorem RqTo.after {w w1 w' : World} {S : Nat → Prop} {g o : Nat} {l : List Sg} (h : RqTo w1 S g o l w') (hf : Fr Nob w w1) : RqTo w S g o l w' := by
  obtain ⟨v, w2, h1, h2, h3⟩ := h
  refine ⟨v, w2, hf.trans0 h1, h2, h3.mono fun k hk => ?_⟩
  rcases hk with hk | hk
  · exact .inl hk
  · exact .inr ⟨Nat.le_trans hf.size hk.1, hk.2⟩
theorem RqTo.fr {w w' : World} {S : Nat → Prop} {g o : Nat} {l : List Sg} (h : RqTo w S g o l w') : Fr (fun k => k = g) w w' := by
  obtain ⟨v, w2, h1, rfl, _⟩ := h
  exact (h1.mono (T := fun k => k = g) fun _ hh => hh.elim).setCell (p := ⟨g, o + 1, none⟩) (.inl rfl) _
theorem RqTo.rq {w w' : World} {S : Nat → Prop} {g o : Nat} {v : Value} {most : Int} {l l' : List Sg} (h : Rq w S g o v most l) (ht : RqTo w S g o l' w') : ∃ v', Rq w' (fun k => S k ∨ Bt w w' k) g o v' most l' := by
  obtain ⟨v', w2, h1, rfl, h3⟩ := ht
  have hr := h.nob h1
  have hg := h.lt
  have hng : ¬ (S g ∨ Bt w w2 g) := by rintro (e | e); exact h.ng e; have := e.1; omega
  have hf : Fr (fun k => k = g) w2 (w2.setCell ⟨g, o + 1, none⟩ v') := (Fr.refl (fun k => k = g) w2).setCell (p := ⟨g, o + 1, none⟩) (.inl rfl) v'
  have hz : (w2.setCell ⟨g, o + 1, none⟩ v').heap.size = w2.heap.size := by simp [World.setCell]
  have e2 : ∀ k, (S k ∨ Bt w (w2.setCell ⟨g, o + 1, none⟩ v') k) ↔ (S k ∨ Bt w w2 k) := fun k => by unfold Bt; rw [hz]
  refine ⟨v', ?_, World.cell?_setCell_same _ _ _ hr.c1, ?_, (h3.fr hf fun k hk e => by subst e; exact hng hk).mono fun k hk => (e2 k).2 hk, fun hk => hng ((e2 g).1 hk)⟩
  · rw [World.cell?_setCell_other (h := by intro e; have := congrArg Addr.off e; simp at this)]; exact hr.c0
  · rw [World.frozen?_setCell]; exact hr.f1
/-- Where the last MoveTo of the first k was. -/
def startK (l : List Sg) : Nat → Pt
  | 0 => oo
  | k + 1 => if (l.getD k sgZ).kind = 1 then (l.getD k sgZ).a else startK l k
def startF (l : List Sg) : Pt := startK l l.length
end Go.Proofs.YtkkejjfmidgciaaDoor
/- The reference's path as functions on lists; a path that is built goes as the reference's, and is sound. No program, no conditions. -/
namespace Go.Proofs.YtkkejjfmidgciaaDoor
open Go.RowKit
set_option linter.unusedVariables false
set_option linter.unusedSimpArgs false
/-- Where the last one ended. -/
def curR (l : List Sg) : Pt := if lastK l = 4 then startF l else if lastK l = 3 then (l.getD (l.length - 1) sgZ).c else (l.getD (l.length - 1) sgZ).a
def rMove (most : Int) (l : List Sg) (a : Pt) : Int × List Sg :=
  if fitP a then
    if lastK l = 1 then (0, l.set (l.length - 1) (moveS a))
    else if most < l.length + 1 then (9, l) else (0, l ++ [moveS a])
  else (11, l)
def rDraw (most : Int) (l : List Sg) (s : Sg) : Int × List Sg :=
  if l.length = 0 then (10, l)
  else if lastK l = 4 then (if most < l.length + 2 then (9, l) else (0, l ++ [moveS (curR l), s]))
  else if most < l.length + 1 then (9, l) else (0, l ++ [s])
def rLine (most : Int) (l : List Sg) (a : Pt) : Int × List Sg := if fitP a then rDraw most l (lineS a) else (11, l)
def rCurve (most : Int) (l : List Sg) (a b c : Pt) : Int × List Sg := if [a, b, c].all fitP then rDraw most l ⟨3, a, b, c⟩ else (11, l)
def rClose (most : Int) (l : List Sg) : Int × List Sg :=
  if l.length = 0 ∨ lastK l = 4 then (0, l) else if most < l.length + 1 then (9, l) else (0, l ++ [closeS])

theorem lastK_zero (l : List Sg) (h : l.length = 0) : lastK l = 0 := by simp [lastK, h]
theorem lastK_getD (l : List Sg) : lastK l = (l.getD (l.length - 1) sgZ).kind := by
  unfold lastK
  split
  · next h => rw [List.getD_eq_getElem?_getD, List.getElem?_eq_getElem (by omega)]; rfl
  · next h => rw [List.getD_eq_getElem?_getD, List.getElem?_eq_none (by omega)]; rfl
theorem lastK_snoc (l : List Sg) (s : Sg) : lastK (l ++ [s]) = s.kind := by
  rw [lastK_getD]; simp [List.getD_eq_getElem?_getD]
theorem snoc_getD (l : List Sg) (s : Sg) : (l ++ [s]).getD ((l ++ [s]).length - 1) sgZ = s := by simp [List.getD_eq_getElem?_getD]
theorem startK_app (l m : List Sg) : ∀ k, k ≤ l.length → startK (l ++ m) k = startK l k
  | 0, _ => rfl
  | k + 1, h => by
    have e : (l ++ m).getD k sgZ = l.getD k sgZ := by
      rw [List.getD_eq_getElem?_getD, List.getD_eq_getElem?_getD, List.getElem?_append_left (by omega)]
    simp only [startK, e, startK_app l m k (by omega)]
theorem startF_snoc (l : List Sg) (s : Sg) : startF (l ++ [s]) = if s.kind = 1 then s.a else startF l := by
  unfold startF
  have e : (l ++ [s]).length = l.length + 1 := by simp
  rw [e]
  simp only [startK, startK_app l [s] l.length (Nat.le_refl _)]
  have : (l ++ [s]).getD l.length sgZ = s := by simp [List.getD_eq_getElem?_getD]
  rw [this]
theorem curR_snoc (l : List Sg) (s : Sg) : curR (l ++ [s]) = if s.kind = 4 then startF l else if s.kind = 3 then s.c else s.a := by
  unfold curR
  rw [lastK_snoc, snoc_getD, startF_snoc]
  by_cases h : s.kind = 4
  · rw [if_pos h, if_pos h, if_neg (by omega)]
  · rw [if_neg h, if_neg h]
theorem set_last (l : List Sg) (h : 0 < l.length) (s : Sg) : l.set (l.length - 1) s = l.take (l.length - 1) ++ [s] := by
  refine List.ext_getElem? fun i => ?_
  rw [List.getElem?_set]
  by_cases e : l.length - 1 = i
  · subst e; rw [if_pos rfl, if_pos (by omega), List.getElem?_append_right (by simp)]; simp
  · rw [if_neg e]
    by_cases hi : i < l.length - 1
    · rw [List.getElem?_append_left (by simp; omega), List.getElem?_take, if_pos hi]
    · rw [List.getElem?_eq_none (by omega), List.getElem?_eq_none (by simp; omega)]
/-- Sound, but for how long it is. -/
theorem lastK_take (l : List Sg) (k : Nat) (h : k ≤ l.length) : lastK (l.take k) = prevK l k := by
  unfold lastK prevK
  have hl : (l.take k).length = k := by simp; omega
  by_cases h0 : k = 0
  · subst h0; simp
  · rw [dif_pos (by omega), if_neg h0]
    have : k - 1 < l.length := by omega
    simp only [hl]
    rw [List.getElem_take]
    simp [List.getD_eq_getElem?_getD, this]
def Snd (l : List Sg) : Prop := ∀ k, k < l.length → snd1 l k = true
theorem snd1_app (l m : List Sg) (k : Nat) (h : k < l.length) : snd1 (l ++ m) k = snd1 l k := by
  have e : ∀ j, j < l.length → (l ++ m).getD j sgZ = l.getD j sgZ := fun j hj => by
    rw [List.getD_eq_getElem?_getD, List.getD_eq_getElem?_getD, List.getElem?_append_left hj]
  unfold snd1 prevK
  rw [e k h]
  by_cases h0 : k = 0
  · rw [if_pos h0, if_pos h0]
  · rw [if_neg h0, if_neg h0, e (k - 1) (by omega)]
theorem prevK_end (l : List Sg) (s : Sg) : prevK (l ++ [s]) l.length = lastK l := by
  unfold prevK
  by_cases h0 : l.length = 0
  · rw [if_pos h0, lastK_zero l h0]
  · rw [if_neg h0, lastK_getD, List.getD_eq_getElem?_getD, List.getD_eq_getElem?_getD, List.getElem?_append_left (by omega)]
theorem Snd.snoc {l : List Sg} (h : Snd l) (s : Sg) (h1 : folB s.kind (lastK l) = true) (h2 : sgOk s = true) : Snd (l ++ [s]) := by
  intro k hk
  by_cases e : k < l.length
  · rw [snd1_app l [s] k e]; exact h k e
  · have : k = l.length := by simp at hk; omega
    subst this
    unfold snd1
    rw [prevK_end]
    have e : (l ++ [s]).getD l.length sgZ = s := by simp [List.getD_eq_getElem?_getD]
    rw [e, h1, h2]; rfl
theorem Snd.take {l : List Sg} (h : Snd l) (n : Nat) : Snd (l.take n) := by
  intro k hk
  have hk' : k < n ∧ k < l.length := by simp at hk; omega
  have := h k hk'.2
  rw [← List.take_append_drop n l, snd1_app _ _ k hk] at this
  exact this
theorem Snd.kinds {l : List Sg} (h : Snd l) (h0 : 0 < l.length) : lastK l = 1 ∨ lastK l = 2 ∨ lastK l = 3 ∨ lastK l = 4 := by
  have := h (l.length - 1) (by omega)
  rw [lastK_getD]
  unfold snd1 at this
  generalize l.getD (l.length - 1) sgZ = s at *
  simp only [Bool.and_eq_true, sgOk, decide_eq_true_eq] at this
  obtain ⟨_, hp, _⟩ := this
  by_cases a : s.kind = 1 ∨ s.kind = 2 ∨ s.kind = 3 ∨ s.kind = 4
  · exact a
  · have : ptsK s.kind = -1 := by unfold ptsK; rw [if_neg (by omega), if_neg (by omega), if_neg (by omega)]
    omega
theorem ok_move {a : Pt} (h : fitP a = true) : sgOk (moveS a) = true := by
  simp [sgOk, moveS, ptsK, pts, someP, h]; decide
theorem ok_line {a : Pt} (h : fitP a = true) : sgOk (lineS a) = true := by
  simp [sgOk, lineS, ptsK, pts, someP, h]; decide
theorem ok_curve {a b c : Pt} (h : [a, b, c].all fitP = true) : sgOk ⟨3, a, b, c⟩ = true := by
  simp only [sgOk, pts, h]; simp [ptsK, someP]
theorem ok_close : sgOk closeS = true := by decide

/-- A path as it is built. -/
structure Good (p : PS) : Prop where
  snd : Snd p.list
  now : 0 < p.list.length → p.now = curR p.list
  start : 0 < p.list.length → p.start = startF p.list
  fit : 0 < p.list.length → fitP p.now = true ∧ fitP p.start = true
theorem Good.nil (most : Int) (a b : Pt) : Good ⟨most, [], a, b⟩ := ⟨fun k h => by simp at h, fun h => by simp at h, fun h => by simp at h, fun h => by simp at h⟩
/-- A step: the same answer, the same list, and good again. -/
structure Like (p : PS) (r : Int × PS) (q : Int × List Sg) : Prop where
  e : r.1 = q.1
  l : r.2.list = q.2
  most : r.2.most = p.most
  good : Good r.2
  len : r.2.list.length ≤ p.list.length + 2
theorem fol_move {k : Int} (h : ¬ k = 1) : folB 1 k = true := by simp [folB, h]
theorem fol_other {s k : Int} (hs : ¬ s = 1) (h0 : ¬ k = 0) (h4 : ¬ k = 4) : folB s k = true := by simp [folB, hs, h0, h4]
theorem move_like (p : PS) (a : Pt) (h : Good p) : Like p (moveF p a) (rMove p.most p.list a) := by
  unfold moveF rMove
  by_cases hf : fitP a
  · rw [if_pos hf, if_pos hf]
    by_cases h1 : lastK p.list = 1
    · rw [if_pos h1, if_pos h1]
      have h0 : 0 < p.list.length := by
        rcases Nat.eq_zero_or_pos p.list.length with e | e
        · rw [lastK_zero _ e] at h1; omega
        · exact e
      refine ⟨rfl, rfl, rfl, ?_, by simp⟩
      have hl := set_last p.list h0 (moveS a)
      have hfol : folB 1 (lastK (p.list.take (p.list.length - 1))) = true := by
        have h2 := h.snd (p.list.length - 1) (by omega)
        rw [lastK_take _ _ (by omega)]
        unfold snd1 at h2
        rw [← lastK_getD, h1] at h2
        simp only [Bool.and_eq_true] at h2
        exact h2.1
      refine ⟨?_, fun _ => ?_, fun _ => ?_, fun _ => ⟨hf, hf⟩⟩
      · show Snd (p.list.set (p.list.length - 1) (moveS a))
        rw [hl]; exact (h.snd.take _).snoc _ hfol (ok_move hf)
      · show a = curR (p.list.set (p.list.length - 1) (moveS a))
        rw [hl, curR_snoc]; rfl
      · show a = startF (p.list.set (p.list.length - 1) (moveS a))
        rw [hl, startF_snoc]; rfl
    · rw [if_neg h1, if_neg h1]
      by_cases h2 : p.most < p.list.length + 1
      · rw [if_pos h2, if_pos h2]; exact ⟨rfl, rfl, rfl, h, by simp⟩
      · rw [if_neg h2, if_neg h2]
        refine ⟨rfl, rfl, rfl, ⟨h.snd.snoc _ (fol_move h1) (ok_move hf), fun _ => ?_, fun _ => ?_, fun _ => ⟨hf, hf⟩⟩, by simp⟩
        · show a = curR (p.list ++ [moveS a]); rw [curR_snoc]; rfl
        · show a = startF (p.list ++ [moveS a]); rw [startF_snoc]; rfl
  · rw [if_neg hf, if_neg hf]; exact ⟨rfl, rfl, rfl, h, by simp⟩
theorem lastK_pos {p : PS} (h : Good p) (h0 : 0 < p.list.length) : ¬ lastK p.list = 0 := by have := h.snd.kinds h0; omega
theorem draw_like (p : PS) (s : Sg) (tq : Pt) (h : Good p) (hk : s.kind = 2 ∨ s.kind = 3) (hs : sgOk s = true) (hto : (if s.kind = 3 then s.c else s.a) = tq) (hf : fitP tq = true) : Like p (drawF p s tq) (rDraw p.most p.list s) := by
  unfold drawF rDraw
  rcases Nat.eq_zero_or_pos p.list.length with h0 | h0
  · rw [if_pos (lastK_zero _ h0), if_pos h0]; exact ⟨rfl, rfl, rfl, h, by simp⟩
  · have hn := lastK_pos h h0
    have hft := h.fit h0
    rw [if_neg hn, if_neg (show ¬ p.list.length = 0 by omega)]
    by_cases h4 : lastK p.list = 4
    · rw [if_pos h4, if_pos h4]
      unfold addF
      by_cases h2 : p.most < p.list.length + 2
      · rw [if_pos (by simpa using h2), if_pos h2]; exact ⟨rfl, rfl, rfl, h, by simp⟩
      · rw [if_neg (by simpa using h2), if_neg h2]
        have e : p.list ++ [moveS p.now, s] = (p.list ++ [moveS p.now]) ++ [s] := by simp
        refine ⟨rfl, by rw [h.now h0], rfl, ⟨?_, fun _ => ?_, fun _ => ?_, fun _ => ⟨hf, hft.2⟩⟩, by simp⟩
        · show Snd (p.list ++ [moveS p.now, s])
          rw [e]
          refine (h.snd.snoc _ (fol_move (by omega)) (ok_move hft.1)).snoc _ ?_ hs
          rw [lastK_snoc]
          exact fol_other (by omega) (by simp [moveS]) (by simp [moveS])
        · show tq = curR (p.list ++ [moveS p.now, s])
          rw [e, curR_snoc, if_neg (by omega), hto]
        · show p.start = startF (p.list ++ [moveS p.now, s])
          rw [e, startF_snoc, if_neg (by omega), startF_snoc, h.start h0]
          have := h.now h0
          rw [show (moveS p.now).kind = 1 from rfl, if_pos rfl, show (moveS p.now).a = p.now from rfl, this]
          unfold curR; rw [if_pos h4]
    · rw [if_neg h4, if_neg h4]
      unfold addF
      by_cases h2 : p.most < p.list.length + 1
      · rw [if_pos (by simpa using h2), if_pos h2]; exact ⟨rfl, rfl, rfl, h, by simp⟩
      · rw [if_neg (by simpa using h2), if_neg h2]
        refine ⟨rfl, rfl, rfl, ⟨h.snd.snoc _ (fol_other (by omega) hn h4) hs, fun _ => ?_, fun _ => ?_, fun _ => ⟨hf, hft.2⟩⟩, by simp⟩
        · show tq = curR (p.list ++ [s]); rw [curR_snoc, if_neg (by omega), hto]
        · show p.start = startF (p.list ++ [s]); rw [startF_snoc, if_neg (by omega), h.start h0]
theorem line_like (p : PS) (a : Pt) (h : Good p) : Like p (lineF p a) (rLine p.most p.list a) := by
  unfold lineF rLine
  by_cases hf : fitP a
  · rw [if_pos hf, if_pos hf]; exact draw_like p (lineS a) a h (.inl rfl) (ok_line hf) rfl hf
  · rw [if_neg hf, if_neg hf]; exact ⟨rfl, rfl, rfl, h, by simp⟩
theorem curve_like (p : PS) (a b c : Pt) (h : Good p) : Like p (curveF p a b c) (rCurve p.most p.list a b c) := by
  unfold curveF rCurve
  by_cases hf : [a, b, c].all fitP
  · rw [if_pos hf, if_pos hf]; exact draw_like p ⟨3, a, b, c⟩ c h (.inr rfl) (ok_curve hf) rfl (by simp at hf; exact hf.2.2)
  · rw [if_neg hf, if_neg hf]; exact ⟨rfl, rfl, rfl, h, by simp⟩
theorem close_like (p : PS) (h : Good p) : Like p (closeF p) (rClose p.most p.list) := by
  unfold closeF rClose
  rcases Nat.eq_zero_or_pos p.list.length with h0 | h0
  · rw [if_pos (.inl (lastK_zero _ h0)), if_pos (.inl h0)]; exact ⟨rfl, rfl, rfl, h, by simp⟩
  · have hn := lastK_pos h h0
    have hft := h.fit h0
    by_cases h4 : lastK p.list = 4
    · rw [if_pos (.inr h4), if_pos (.inr h4)]; exact ⟨rfl, rfl, rfl, h, by simp⟩
    · rw [if_neg (by rintro (e | e); exact hn e; exact h4 e), if_neg (by rintro (e | e); omega; exact h4 e)]
      unfold addF
      by_cases h2 : p.most < p.list.length + 1
      · rw [if_pos (by simpa using h2), if_pos h2]; exact ⟨rfl, rfl, rfl, h, by simp⟩
      · rw [if_neg (by simpa using h2), if_neg h2]
        refine ⟨rfl, rfl, rfl, ⟨h.snd.snoc _ (fol_other (by decide) hn h4) ok_close, fun _ => ?_, fun _ => ?_, fun _ => ⟨hft.2, hft.2⟩⟩, by simp⟩
        · show p.start = curR (p.list ++ [closeS]); rw [curR_snoc, if_pos (show closeS.kind = 4 from rfl), h.start h0]
        · show p.start = startF (p.list ++ [closeS]); rw [startF_snoc, if_neg (by decide), h.start h0]
theorem Good.sound {p : PS} (h : Good p) (hl : p.list.length ≤ 4096) : SoundP p.list := ⟨hl, h.snd⟩
end Go.Proofs.YtkkejjfmidgciaaDoor
/- The walk of the reference's Move. -/
namespace Go.Proofs.YtkkejjfmidgciaaDoor
open Go.RowKit
set_option linter.unusedVariables false
set_option linter.unusedSimpArgs false
theorem RqTo.drew {w w' : World} {S : Nat → Prop} {g o : Nat} {l : List Sg} (h : RqTo w S g o l w') : RqTo w S g o l w'.drew := by
  obtain ⟨v, w1, h1, rfl, h3⟩ := h
  exact ⟨v, w1.drew, h1.drew, by rw [World.setCell_drew], h3.fr ((Fr.refl Nob w1).drew) fun _ _ hh => hh⟩
/-- What the last steps leave: the new list is stored. -/
theorem RqTo.put {w w2 : World} {S : Nat → Prop} {g o : Nat} {l : List Sg} {v : Value} {n : Nat} {cs : List Value} (hf : Fr Nob w w2) (ho : OwnS w2 91 7 v n cs) (hn : n = l.length) (hc : cs = encSs l) (hv : NewV w v) : RqTo w S g o l (w2.setCell ⟨g, o + 1, none⟩ v) := by
  subst hn; subst hc
  exact ⟨v, w2, hf, rfl, (ho.bt hv).mono fun k hk => .inr hk⟩
theorem cutRow {w : World} {S : Nat → Prop} {A : Option Addr} {cap m : Nat} {l : List Sg} (h : RowIn w S 7 (.slice A l.length cap) l.length (encSs l)) (hm : m ≤ l.length) : RowIn w S 7 (.slice A m cap) (l.take m).length (encSs (l.take m)) := by
  have h1 := h.takeV m hm
  have e : (encSs l).take (m * 7) = encSs (l.take m) := by
    have h2 : encSs l = encSs (l.take m) ++ encSs (l.drop m) := by rw [← encSs_append, List.take_append_drop]
    have h3 : (encSs (l.take m)).length = m * 7 := by rw [encSs_len]; simp; omega
    rw [h2, ← h3, List.take_left]
  rw [e] at h1
  have e2 : (l.take m).length = m := by simp; omega
  rw [e2]
  exact h1
set_option maxRecDepth 8000 in
set_option maxHeartbeats 6400000 in
theorem rmove_more (S : Nat → Prop) (g o : Nat) (v : Value) (most : Int) (l : List Sg) (a : Pt) (w : World) (h : Rq w S g o v most l) (hmo : -9223372036854775808 ≤ most ∧ most ≤ 9223372036854775807) (hlen : l.length ≤ 1000000000)
    (hf : fitP a = true) (h1 : ¬ lastK l = 1) (h2 : ¬ most < l.length + 1) :
    Calls Tryd.prog 65 #[.pointer (some ⟨g, o, none⟩), ptV a] w fun e w' => e = .returned (.int .i64 0) ∧ RqTo w S g o (l ++ [moveS a]) w' := by
  obtain ⟨i0, hi, hz0, hz1, hz2⟩ := info_parts info43
  replace hi := Lib.hid hi
  replace hz0 := Lib.hid hz0
  replace hz1 := Lib.hid hz1
  replace hz2 := Lib.hid hz2
  obtain ⟨wa, hwa⟩ : ∃ wa, w.alloc (.cells #[.int .i64 a.x, .int .i64 a.y] 56) = wa := ⟨_, rfl⟩
  have hfa : Fr Nob w wa := by rw [← hwa]; exact (Fr.refl Nob w).alloc _
  have hb : Blk wa w.heap.size #[.int .i64 a.x, .int .i64 a.y] 56 := by rw [← hwa]; exact Blk.new w _ _
  have y0 := hb.cell 0
  have y1 := hb.cell 1
  simp only [List.getElem?_toArray, List.getElem?_cons_succ, List.getElem?_cons_zero] at y0 y1
  have HFA := Lib.hid hfa
  have HR := Lib.hid (h.nob hfa)
  have E1 := Lib.hid hf
  obtain ⟨A, cap, rfl, ha1, ha2⟩ := h.row.form
  have hk := lastK_getD l
  clear h hfa hb hf
  have x1 := hmo.1
  have x2 := hmo.2
  clear hmo
  obtain ⟨n, hn⟩ : ∃ n, n = l.length := ⟨_, rfl⟩
  have HN := Lib.hid hn
  have d1 : decide (most < (n : Int) + 1) = false := by simp; omega
  -- the last one's kind
  have hlast : n = 0 ∨ ∃ m b off kd, n = m + 1 ∧ A = some ⟨b, off, none⟩ ∧ (kd == (1 : Int)) = false ∧ ∀ w', Fr Nob wa w' → w'.cell? ⟨b, off + m * 7, none⟩ = some (.int .i64 kd) := by
    rcases Nat.eq_zero_or_pos n with h0 | h0
    · exact .inl h0
    · refine .inr ?_
      obtain ⟨b, off, cap', hv, _, _, _, hc⟩ := HR.out.row.sg (by omega)
      cases hv
      have hs := hc (n - 1) (by omega)
      refine ⟨n - 1, b, off, _, by omega, rfl, ?_, fun w' hw' => cell_nob hs.c0 hw'⟩
      rw [hk, getD_at (by omega)] at h1
      have e : l[l.length - 1]'(by omega) = l[n - 1]'(by omega) := by congr 1; omega
      rw [e] at h1
      simpa using h1
  clear hk h1 h2
  have hnl : n ≤ 1000000000 := by omega
  clear hn
  go_enter Tryd.func65, Tryd.ntmps65
  unfold ptV
  go_wp2_with fail
  refine (fitp_any a wa).mono ?_
  rw [E1.out]
  rintro e w1 ⟨rfl, hf1⟩
  have z0 := cell_nob y0 hf1
  have z1 := cell_nob y1 hf1
  have hr1 := HR.out.nob hf1
  have c1 := hr1.c1
  rw [← HN.out] at c1
  have H1 := Lib.hid hf1
  clear hr1 y0 y1 hf1
  have hfq : Fr Nob w1 (w1.alloc (.cells #[.int .i64 1, .int .i64 a.x, .int .i64 a.y, .int .i64 0, .int .i64 0, .int .i64 0, .int .i64 0] 91)) := (Fr.refl Nob w1).alloc _
  have hbq : Blk (w1.alloc (.cells #[.int .i64 1, .int .i64 a.x, .int .i64 a.y, .int .i64 0, .int .i64 0, .int .i64 0, .int .i64 0] 91)) w1.heap.size (encS (moveS a)).toArray 91 := Blk.new w1 _ _
  have HQ := Lib.hid (H1.out.trans0 hfq)
  have HW := Lib.hid (HFA.out.trans0 HQ.out)
  have hrq := HR.out.nob HQ.out
  have q0 := hrq.c0
  have q1 := hrq.c1
  rw [← HN.out] at q1
  have f1 := hrq.f1
  have HRQ := Lib.hid hrq
  have HBQ := Lib.hid hbq
  have hrow := hrq.row
  rw [← HN.out] at hrow
  have HROW := Lib.hid hrow
  -- what the loads read
  have hS : ∀ w', Fr Nob (w1.alloc (.cells #[.int .i64 1, .int .i64 a.x, .int .i64 a.y, .int .i64 0, .int .i64 0, .int .i64 0, .int .i64 0] 91)) w' → w'.cell? ⟨g, o + 1, none⟩ = some (.slice A n cap) ∧ w'.frozen? ⟨g, o + 1, none⟩ = false ∧ w'.cell? ⟨w1.heap.size, 0, none⟩ = some (.int .i64 1) ∧ w'.cell? ⟨w1.heap.size, 1, none⟩ = some (.int .i64 a.x) ∧ w'.cell? ⟨w1.heap.size, 2, none⟩ = some (.int .i64 a.y) ∧ w'.cell? ⟨w1.heap.size, 3, none⟩ = some (.int .i64 0) ∧ w'.cell? ⟨w1.heap.size, 4, none⟩ = some (.int .i64 0) ∧ w'.cell? ⟨w1.heap.size, 5, none⟩ = some (.int .i64 0) ∧ w'.cell? ⟨w1.heap.size, 6, none⟩ = some (.int .i64 0) := fun w' hw' => by
    have hr := HRQ.out.nob hw'
    have hc1 := hr.c1
    rw [← HN.out] at hc1
    have hb := SgAt.own (HBQ.out.nob hw')
    exact ⟨hc1, hr.f1, hb.c0, hb.c1, hb.c2, hb.c3, hb.c4, hb.c5, hb.c6⟩
  have HS := Lib.hid hS
  clear hfq hbq hrq hS hrow
  have wn : IntKind.i64.wrap ((n : Int) + 1) = (n : Int) + 1 := IntWalk.i64_in _ (by omega)
  rcases hlast with h0 | ⟨m, b, off, kd, h0, rfl, hkd, hc⟩
  · have dn : decide (0 < n) = false := decide_eq_false (by omega)
    clear h0
    go_wp2_with fail
    generalize (w1.alloc (.cells #[.int .i64 1, .int .i64 a.x, .int .i64 a.y, .int .i64 0, .int .i64 0, .int .i64 0, .int .i64 0] 91)) = wq at *
    clear z0 z1 c1 q0 q1 f1 d1 dn wn
    obtain ⟨p0, p1, p2, p3, p4, p5, p6, p7, p8⟩ := HS.out wq (Fr.refl _ _)
    have ng1 : g < wq.heap.size := HRQ.out.lt
    have ng2 : g < wq.heap.size + 1 := by omega
    have nw1 : w1.heap.size < wq.heap.size := HBQ.out.lt
    have nw2 : w1.heap.size < wq.heap.size + 1 := by omega
    go_region_law
      ((first
        | (refine step_app0 _ rfl (.tmp 55) (.tmp 59) 25 rfl 91 i0 _ 7 56 Tryd.underlying25 hi.out hz0.out hz1.out hz2.out rfl (by decide) _ (by rfl) (by first | exact (Blk.new _ _ _).drew | exact ((Blk.new _ _ _).alloc _).drew | exact (Blk.new1 _ _ _ _).drew) S _ n (encSs l) (by rfl) (HROW.out.nob (by repeat (first | exact Fr.refl _ _ | exact H3.out | exact H2.out | refine Fr.alloc ?_ _ | refine Fr.drew ?_))) (encSs_one _) (by unfold maxLen; omega) (by omega) ?_
           intro v1 w2 ho hfr hat
           have H2 := Lib.hid (show Fr Nob wq w2 from Fr.trans0 (by repeat (first | exact Fr.refl _ _ | exact H3.out | exact H2.out | refine Fr.alloc ?_ _ | refine Fr.drew ?_)) hfr)
           have HV2 := Lib.hid (show NewV wq v1 from fun b hb => by rcases hat with h | h <;> rw [h] at hb <;> cases hb <;> first | (simp; done) | (simp; omega))
           have HO2 := Lib.hid ho
           have HFR := Lib.hid hfr
           obtain ⟨r0, r1, r2, r3, r4, r5, r6, r7, r8⟩ := HS.out w2 H2.out
           have mw1 : w1.heap.size < w2.heap.size := (HBQ.out.nob H2.out).lt
           have mg1 : g < w2.heap.size := (HRQ.out.nob H2.out).lt
           clear ho hfr hat)
        | (refine step_app rfl (.tmp 60) (.tmp 62) 25 rfl 91 i0 _ 7 56 Tryd.underlying25 hi.out hz0.out hz1.out hz2.out rfl (by decide) _ n (encSs l) (by rfl) (HO2.out.nob (by repeat (first | exact Fr.refl _ _ | refine Fr.alloc ?_ _ | refine Fr.drew ?_))) _ _ 1 (encSs [moveS a]) (by rfl) (Blk.sgs (l := [moveS a]) (by first | exact (Blk.new w2 _ _).drew | exact ((Blk.new1 _ _ _ _).drew).nob HFR.out | exact (((Blk.new _ _ _).alloc _).drew).nob HFR.out) (by simp)) (encSs_one _) (by unfold maxLen; omega) (by omega) ?_
           intro v3 w3 ho hfr hat _
           have H3 := Lib.hid (fr_of_app hfr (by repeat (first | exact Fr.refl _ _ | exact H3.out | exact H2.out | refine Fr.alloc ?_ _ | refine Fr.drew ?_)) HV2.out)
           have HV3 := Lib.hid (new_of_app hat (by repeat (first | exact Fr.refl _ _ | exact H3.out | exact H2.out | refine Fr.alloc ?_ _ | refine Fr.drew ?_)) HV2.out)
           have HO3 := Lib.hid ho
           obtain ⟨A3, cap3, rfl, _, _⟩ := ho.form
           obtain ⟨k0, k1, _⟩ := HS.out w3 H3.out
           clear ho hfr hat)))
    all_goals
      go_wp2_with fail
      go_ret
      exact ⟨rfl, (RqTo.put (l := l ++ [moveS a]) H3.out HO3.out (by simp [HN.out]) (by simp [encSs_append]) HV3.out).after HW.out⟩
  · have hc1 := hc _ HQ.out
    have e0 : (n : Int) - 1 = m := by omega
    have i1 : (m : Int) < n := by omega
    have i0' : (0 : Int) ≤ m := by omega
    have wm : IntKind.i64.wrap (m : Int) = m := IntWalk.i64_in _ (by omega)
    have dn : decide (0 < n) = true := decide_eq_true (by omega)
    clear hc h0
    go_wp2_with fail
    generalize (w1.alloc (.cells #[.int .i64 1, .int .i64 a.x, .int .i64 a.y, .int .i64 0, .int .i64 0, .int .i64 0, .int .i64 0] 91)) = wq at *
    clear z0 z1 c1 q0 q1 f1 d1 dn wn hc1 e0 i1 i0' wm hkd
    obtain ⟨p0, p1, p2, p3, p4, p5, p6, p7, p8⟩ := HS.out wq (Fr.refl _ _)
    have ng1 : g < wq.heap.size := HRQ.out.lt
    have ng2 : g < wq.heap.size + 1 := by omega
    have nw1 : w1.heap.size < wq.heap.size := HBQ.out.lt
    have nw2 : w1.heap.size < wq.heap.size + 1 := by omega
    go_region_law
      ((first
        | (refine step_app0 _ rfl (.tmp 55) (.tmp 59) 25 rfl 91 i0 _ 7 56 Tryd.underlying25 hi.out hz0.out hz1.out hz2.out rfl (by decide) _ (by rfl) (by first | exact (Blk.new _ _ _).drew | exact ((Blk.new _ _ _).alloc _).drew | exact (Blk.new1 _ _ _ _).drew) S _ n (encSs l) (by rfl) (HROW.out.nob (by repeat (first | exact Fr.refl _ _ | exact H3.out | exact H2.out | refine Fr.alloc ?_ _ | refine Fr.drew ?_))) (encSs_one _) (by unfold maxLen; omega) (by omega) ?_
           intro v1 w2 ho hfr hat
           have H2 := Lib.hid (show Fr Nob wq w2 from Fr.trans0 (by repeat (first | exact Fr.refl _ _ | exact H3.out | exact H2.out | refine Fr.alloc ?_ _ | refine Fr.drew ?_)) hfr)
           have HV2 := Lib.hid (show NewV wq v1 from fun b hb => by rcases hat with h | h <;> rw [h] at hb <;> cases hb <;> first | (simp; done) | (simp; omega))
           have HO2 := Lib.hid ho
           have HFR := Lib.hid hfr
           obtain ⟨r0, r1, r2, r3, r4, r5, r6, r7, r8⟩ := HS.out w2 H2.out
           have mw1 : w1.heap.size < w2.heap.size := (HBQ.out.nob H2.out).lt
           have mg1 : g < w2.heap.size := (HRQ.out.nob H2.out).lt
           clear ho hfr hat)
        | (refine step_app rfl (.tmp 60) (.tmp 62) 25 rfl 91 i0 _ 7 56 Tryd.underlying25 hi.out hz0.out hz1.out hz2.out rfl (by decide) _ n (encSs l) (by rfl) (HO2.out.nob (by repeat (first | exact Fr.refl _ _ | refine Fr.alloc ?_ _ | refine Fr.drew ?_))) _ _ 1 (encSs [moveS a]) (by rfl) (Blk.sgs (l := [moveS a]) (by first | exact (Blk.new w2 _ _).drew | exact ((Blk.new1 _ _ _ _).drew).nob HFR.out | exact (((Blk.new _ _ _).alloc _).drew).nob HFR.out) (by simp)) (encSs_one _) (by unfold maxLen; omega) (by omega) ?_
           intro v3 w3 ho hfr hat _
           have H3 := Lib.hid (fr_of_app hfr (by repeat (first | exact Fr.refl _ _ | exact H3.out | exact H2.out | refine Fr.alloc ?_ _ | refine Fr.drew ?_)) HV2.out)
           have HV3 := Lib.hid (new_of_app hat (by repeat (first | exact Fr.refl _ _ | exact H3.out | exact H2.out | refine Fr.alloc ?_ _ | refine Fr.drew ?_)) HV2.out)
           have HO3 := Lib.hid ho
           obtain ⟨A3, cap3, rfl, _, _⟩ := ho.form
           obtain ⟨k0, k1, _⟩ := HS.out w3 H3.out
           clear ho hfr hat)))
    all_goals
      go_wp2_with fail
      go_ret
      exact ⟨rfl, (RqTo.put (l := l ++ [moveS a]) H3.out HO3.out (by simp [HN.out]) (by simp [encSs_append]) HV3.out).after HW.out⟩
end Go.Proofs.YtkkejjfmidgciaaDoor
