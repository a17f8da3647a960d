/-
  The walks of the calls that set a number of a state.
-/
import Derived.Test.YtkkejjfmidgciaaDoorG9
namespace Go.Proofs.YtkkejjfmidgciaaDoor
open Go.RowKit
set_option linter.unusedVariables false
set_option linter.unusedSimpArgs false
/-- A state whose lists stay: its numbers are written. -/
theorem GsX.put {w w1 w' : World} {g : Nat} {F : Nat → Prop} {s : GS} {lab : Nat → Nat} {x : LvG} {sv : Value} {xs : List (Lv × LvG)} (h : GsX w g F s lab x sv xs) (hN : Fr Nob w w1) (hf : Fr (fun k => k = g) w1 w') (st : Gst) (hd : st.dash = s.cur.st.dash) (hc : st.clips = s.cur.st.clips)
    (hb : Blk w' g #[.int .i64 st.ctm.a, .int .i64 st.ctm.b, .int .i64 st.ctm.c, .int .i64 st.ctm.d, .int .i64 st.ctm.e, .int .i64 st.ctm.f, .int .i64 st.col.sp, .int .i64 st.col.p0, .int .i64 st.col.p1, .int .i64 st.col.p2, .int .i64 st.col.p3, .int .i64 st.width, .int .i64 st.cap, .int .i64 st.join, .int .i64 st.miter, x.dv, .int .i64 st.phase, .int .i64 st.font, .int .i64 st.fm.a, .int .i64 st.fm.b, .int .i64 st.fm.c, .int .i64 st.fm.d, .int .i64 st.fm.e, .int .i64 st.fm.f, x.cv, .bool st.dark, .pointer (some ⟨x.pg, 0, none⟩), .int .i64 s.most, .int .i64 s.segs, sv] 124) : GsTo w g F { s with cur := { s.cur with st := st } } w' := by
  have h1 := h.nob hN fun _ _ hh => hh
  have hG := h1.gin hf
  have h2 := h1.upd st x.dv x.cv hb hf ⟨by rw [hd]; exact hG.d, by rw [hc]; exact hG.c⟩
  exact ⟨Gs.mono ⟨lab, _, sv, xs, h2⟩ fun k hk => .inl hk, (hN.mono (T := F) fun _ hh => hh.elim).trans hf fun k hk => .inl (hk ▸ h.g1.1)⟩
theorem chkI_one (n : Int) : chkI [n] = if fitZ n then 0 else 11 := by simp [chkI]
theorem Blk.ints {w : World} {g : Nat} {ks : List Int} (h : Blk w g (ints ks).toArray 3) (hl : ks.length ≤ maxLen) : RowIn w (fun k => k = g) 1 (.slice (some ⟨g, 0, none⟩) ks.length ks.length) ks.length (YtkkejjfmidgciaaDoor.ints ks) := by
  simpa using h.row (n := ks.length) (size := 1) (by simp [ints_len]) hl
def shapeF (n : Int) : Int := if n < 0 ∨ 2 < n then 11 else 0
theorem gshape_any (g : Addr) (n : Int) (w : World) : Calls Tryd.prog 118 #[.pointer (some g), .int .i64 n] w fun e w' => e = .returned (.int .i64 (shapeF n)) ∧ w = w' := by
  have HI := Lib.hid (check_any g [] (.slice none 0 0) Nob w (RowIn.nil _ _ _))
  rw [show chkI [] = 0 from rfl] at HI
  by_cases h1 : n < 0
  · rw [show shapeF n = 11 by unfold shapeF; rw [if_pos (.inl h1)]]
    go_enter Tryd.func118, Tryd.ntmps118
    go_wp2_with fail
    refine HI.out.mono ?_
    rintro e w1 ⟨rfl, rfl⟩
    go_wp2_with fail
    go_ret
    exact ⟨rfl, rfl⟩
  · by_cases h2 : 2 < n
    · rw [show shapeF n = 11 by unfold shapeF; rw [if_pos (.inr h2)]]
      go_enter Tryd.func118, Tryd.ntmps118
      go_wp2_with fail
      refine HI.out.mono ?_
      rintro e w1 ⟨rfl, rfl⟩
      go_wp2_with fail
      go_ret
      exact ⟨rfl, rfl⟩
    · rw [show shapeF n = 0 by unfold shapeF; rw [if_neg (by omega)]]
      go_enter Tryd.func118, Tryd.ntmps118
      go_wp2_with fail
      refine HI.out.mono ?_
      rintro e w1 ⟨rfl, rfl⟩
      go_wp2_with fail
      go_ret
      exact ⟨rfl, rfl⟩
theorem gshape_none (n : Int) (w : World) : Calls Tryd.prog 118 #[.pointer none, .int .i64 n] w fun e w' => e = .returned (.int .i64 21) ∧ w = w' := by
  go_enter Tryd.func118, Tryd.ntmps118
  go_wp2_with fail
  refine (check_none _ _ _ _).mono ?_
  rintro e w1 ⟨rfl, rfl⟩
  go_wp2_with fail
  go_ret
  exact ⟨rfl, rfl⟩

def capF (n : Int) (st : Gst) : Int × Gst := (shapeF n, if shapeF n = 0 then { st with cap := n } else st)
theorem gcap_any (g : Nat) (F : Nat → Prop) (s : GS) (n : Int) (w : World) (h : Gs w g F s) :
    Calls Tryd.prog 77 #[.pointer (some ⟨g, 0, none⟩), .int .i64 n] w fun e w' => e = .returned (.int .i64 (capF n s.cur.st).1) ∧ GsTo w g F { s with cur := { s.cur with st := (capF n s.cur.st).2 } } w' := by
  have HI := Lib.hid (gshape_any ⟨g, 0, none⟩ n w)
  unfold capF
  by_cases h1 : n < 0 ∨ 2 < n
  · have hs : shapeF n = 11 := by unfold shapeF; rw [if_pos h1]
    rw [hs] at HI ⊢
    rw [if_neg (by decide)]
    have HH := Lib.hid h
    clear h h1 hs
    go_enter Tryd.func77, Tryd.ntmps77
    go_wp2_with fail
    refine HI.out.mono ?_
    rintro e w1 ⟨rfl, rfl⟩
    go_wp2_with fail
    go_ret
    exact ⟨rfl, GsTo.same HH.out (Fr.refl _ _)⟩
  · have hs : shapeF n = 0 := by unfold shapeF; rw [if_neg h1]
    rw [hs] at HI ⊢
    rw [if_pos rfl]
    obtain ⟨lab, x, sv, xs, h⟩ := h
    have c := h.cells.cell 12
    have q := h.cells.free 12
    simp only [List.getElem?_toArray, List.getElem?_cons_succ, List.getElem?_cons_zero] at c
    have HH := Lib.hid h
    clear h h1 hs
    go_enter Tryd.func77, Tryd.ntmps77
    go_wp2_with fail
    refine HI.out.mono ?_
    rintro e w1 ⟨rfl, rfl⟩
    go_wp2_with fail
    go_ret
    exact ⟨rfl, HH.out.put (Fr.refl _ _) ((Fr.refl (fun k => k = g) _).setCell (p := ⟨g, 12, none⟩) (.inl rfl) _) { s.cur.st with cap := n } rfl rfl (HH.out.cells.set 12 _)⟩
theorem gcap_none (n : Int) (w : World) : Calls Tryd.prog 77 #[.pointer none, .int .i64 n] w fun e w' => e = .returned (.int .i64 21) ∧ w = w' := by
  go_enter Tryd.func77, Tryd.ntmps77
  go_wp2_with fail
  refine (gshape_none _ _).mono ?_
  rintro e w1 ⟨rfl, rfl⟩
  go_wp2_with fail
  go_ret
  exact ⟨rfl, rfl⟩

def joinF (n : Int) (st : Gst) : Int × Gst := (shapeF n, if shapeF n = 0 then { st with join := n } else st)
theorem gjoin_any (g : Nat) (F : Nat → Prop) (s : GS) (n : Int) (w : World) (h : Gs w g F s) :
    Calls Tryd.prog 78 #[.pointer (some ⟨g, 0, none⟩), .int .i64 n] w fun e w' => e = .returned (.int .i64 (joinF n s.cur.st).1) ∧ GsTo w g F { s with cur := { s.cur with st := (joinF n s.cur.st).2 } } w' := by
  have HI := Lib.hid (gshape_any ⟨g, 0, none⟩ n w)
  unfold joinF
  by_cases h1 : n < 0 ∨ 2 < n
  · have hs : shapeF n = 11 := by unfold shapeF; rw [if_pos h1]
    rw [hs] at HI ⊢
    rw [if_neg (by decide)]
    have HH := Lib.hid h
    clear h h1 hs
    go_enter Tryd.func78, Tryd.ntmps78
    go_wp2_with fail
    refine HI.out.mono ?_
    rintro e w1 ⟨rfl, rfl⟩
    go_wp2_with fail
    go_ret
    exact ⟨rfl, GsTo.same HH.out (Fr.refl _ _)⟩
  · have hs : shapeF n = 0 := by unfold shapeF; rw [if_neg h1]
    rw [hs] at HI ⊢
    rw [if_pos rfl]
    obtain ⟨lab, x, sv, xs, h⟩ := h
    have c := h.cells.cell 13
    have q := h.cells.free 13
    simp only [List.getElem?_toArray, List.getElem?_cons_succ, List.getElem?_cons_zero] at c
    have HH := Lib.hid h
    clear h h1 hs
    go_enter Tryd.func78, Tryd.ntmps78
    go_wp2_with fail
    refine HI.out.mono ?_
    rintro e w1 ⟨rfl, rfl⟩
    go_wp2_with fail
    go_ret
    exact ⟨rfl, HH.out.put (Fr.refl _ _) ((Fr.refl (fun k => k = g) _).setCell (p := ⟨g, 13, none⟩) (.inl rfl) _) { s.cur.st with join := n } rfl rfl (HH.out.cells.set 13 _)⟩
theorem gjoin_none (n : Int) (w : World) : Calls Tryd.prog 78 #[.pointer none, .int .i64 n] w fun e w' => e = .returned (.int .i64 21) ∧ w = w' := by
  go_enter Tryd.func78, Tryd.ntmps78
  go_wp2_with fail
  refine (gshape_none _ _).mono ?_
  rintro e w1 ⟨rfl, rfl⟩
  go_wp2_with fail
  go_ret
  exact ⟨rfl, rfl⟩

def widthF (n : Int) (st : Gst) : Int × Gst := if fitZ n = true ∧ 0 ≤ n then (0, { st with width := n }) else (11, st)
theorem gwidth_any (g : Nat) (F : Nat → Prop) (s : GS) (n : Int) (w : World) (h : Gs w g F s) :
    Calls Tryd.prog 71 #[.pointer (some ⟨g, 0, none⟩), .int .i64 n] w fun e w' => e = .returned (.int .i64 (widthF n s.cur.st).1) ∧ GsTo w g F { s with cur := { s.cur with st := (widthF n s.cur.st).2 } } w' := by
  have hf : Fr Nob w (w.alloc (.cells #[.int .i64 n] 3)) := (Fr.refl Nob w).alloc _
  have HI := Lib.hid (check_any ⟨g, 0, none⟩ [n] _ _ (w.alloc (.cells #[.int .i64 n] 3)) ((show Blk (w.alloc (.cells #[.int .i64 n] 3)) w.heap.size (ints [n]).toArray 3 from Blk.new _ _ _).ints (by simp [maxLen])))
  rw [chkI_one] at HI
  unfold widthF
  have HF := Lib.hid hf
  by_cases h1 : fitZ n = true
  · rw [if_pos h1] at HI
    by_cases h2 : n < 0
    · rw [if_neg (by omega)]
      have HH := Lib.hid h
      clear h h1 hf
      go_enter Tryd.func71, Tryd.ntmps71
      go_wp2_with fail
      refine HI.out.mono ?_
      rintro e w1 ⟨rfl, rfl⟩
      go_wp2_with fail
      go_ret
      exact ⟨rfl, GsTo.same HH.out HF.out⟩
    · rw [if_pos ⟨h1, by omega⟩]
      obtain ⟨lab, x, sv, xs, h⟩ := h
      have hb := h.cells.nob hf
      have c := hb.cell 11
      have q := hb.free 11
      simp only [List.getElem?_toArray, List.getElem?_cons_succ, List.getElem?_cons_zero] at c
      have HH := Lib.hid h
      have HB := Lib.hid hb
      clear h h1 hf hb
      go_enter Tryd.func71, Tryd.ntmps71
      go_wp2_with fail
      refine HI.out.mono ?_
      rintro e w1 ⟨rfl, rfl⟩
      generalize w.alloc (.cells #[.int .i64 n] 3) = wa at *
      go_wp2_with fail
      go_ret
      exact ⟨rfl, HH.out.put HF.out ((Fr.refl (fun k => k = g) _).setCell (p := ⟨g, 11, none⟩) (.inl rfl) _) { s.cur.st with width := n } rfl rfl (HB.out.set 11 _)⟩
  · rw [if_neg h1] at HI
    rw [if_neg (fun hh => h1 hh.1)]
    have HH := Lib.hid h
    clear h h1 hf
    go_enter Tryd.func71, Tryd.ntmps71
    go_wp2_with fail
    refine HI.out.mono ?_
    rintro e w1 ⟨rfl, rfl⟩
    go_wp2_with fail
    go_ret
    exact ⟨rfl, GsTo.same HH.out HF.out⟩
theorem gwidth_none (n : Int) (w : World) : Calls Tryd.prog 71 #[.pointer none, .int .i64 n] w fun e w' => e = .returned (.int .i64 21) ∧ Fr Nob w w' := by
  have HF := Lib.hid (show Fr Nob w (w.alloc (.cells #[.int .i64 n] 3)) from (Fr.refl Nob w).alloc _)
  go_enter Tryd.func71, Tryd.ntmps71
  go_wp2_with fail
  refine (check_none _ _ _ _).mono ?_
  rintro e w1 ⟨rfl, rfl⟩
  go_wp2_with fail
  go_ret
  exact ⟨rfl, HF.out⟩

def miterF (n : Int) (st : Gst) : Int × Gst := if fitZ n = true ∧ 65536 ≤ n then (0, { st with miter := n }) else (11, st)
theorem gmiter_any (g : Nat) (F : Nat → Prop) (s : GS) (n : Int) (w : World) (h : Gs w g F s) :
    Calls Tryd.prog 79 #[.pointer (some ⟨g, 0, none⟩), .int .i64 n] w fun e w' => e = .returned (.int .i64 (miterF n s.cur.st).1) ∧ GsTo w g F { s with cur := { s.cur with st := (miterF n s.cur.st).2 } } w' := by
  have hf : Fr Nob w (w.alloc (.cells #[.int .i64 n] 3)) := (Fr.refl Nob w).alloc _
  have HI := Lib.hid (check_any ⟨g, 0, none⟩ [n] _ _ (w.alloc (.cells #[.int .i64 n] 3)) ((show Blk (w.alloc (.cells #[.int .i64 n] 3)) w.heap.size (ints [n]).toArray 3 from Blk.new _ _ _).ints (by simp [maxLen])))
  rw [chkI_one] at HI
  unfold miterF
  have HF := Lib.hid hf
  by_cases h1 : fitZ n = true
  · rw [if_pos h1] at HI
    by_cases h2 : n < 65536
    · rw [if_neg (by omega)]
      have HH := Lib.hid h
      clear h h1 hf
      go_enter Tryd.func79, Tryd.ntmps79
      go_wp2_with fail
      refine HI.out.mono ?_
      rintro e w1 ⟨rfl, rfl⟩
      go_wp2_with fail
      go_ret
      exact ⟨rfl, GsTo.same HH.out HF.out⟩
    · rw [if_pos ⟨h1, by omega⟩]
      obtain ⟨lab, x, sv, xs, h⟩ := h
      have hb := h.cells.nob hf
      have c := hb.cell 14
      have q := hb.free 14
      simp only [List.getElem?_toArray, List.getElem?_cons_succ, List.getElem?_cons_zero] at c
      have HH := Lib.hid h
      have HB := Lib.hid hb
      clear h h1 hf hb
      go_enter Tryd.func79, Tryd.ntmps79
      go_wp2_with fail
      refine HI.out.mono ?_
      rintro e w1 ⟨rfl, rfl⟩
      generalize w.alloc (.cells #[.int .i64 n] 3) = wa at *
      go_wp2_with fail
      go_ret
      exact ⟨rfl, HH.out.put HF.out ((Fr.refl (fun k => k = g) _).setCell (p := ⟨g, 14, none⟩) (.inl rfl) _) { s.cur.st with miter := n } rfl rfl (HB.out.set 14 _)⟩
  · rw [if_neg h1] at HI
    rw [if_neg (fun hh => h1 hh.1)]
    have HH := Lib.hid h
    clear h h1 hf
    go_enter Tryd.func79, Tryd.ntmps79
    go_wp2_with fail
    refine HI.out.mono ?_
    rintro e w1 ⟨rfl, rfl⟩
    go_wp2_with fail
    go_ret
    exact ⟨rfl, GsTo.same HH.out HF.out⟩
theorem gmiter_none (n : Int) (w : World) : Calls Tryd.prog 79 #[.pointer none, .int .i64 n] w fun e w' => e = .returned (.int .i64 21) ∧ Fr Nob w w' := by
  have HF := Lib.hid (show Fr Nob w (w.alloc (.cells #[.int .i64 n] 3)) from (Fr.refl Nob w).alloc _)
  go_enter Tryd.func79, Tryd.ntmps79
  go_wp2_with fail
  refine (check_none _ _ _ _).mono ?_
  rintro e w1 ⟨rfl, rfl⟩
  go_wp2_with fail
  go_ret
  exact ⟨rfl, HF.out⟩
end Go.Proofs.YtkkejjfmidgciaaDoor
