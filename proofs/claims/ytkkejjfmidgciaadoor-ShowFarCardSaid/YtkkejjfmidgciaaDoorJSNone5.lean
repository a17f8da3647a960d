/-
  Texts joined in build order: The walks of the calls that set a number of a state. The walks of points, follows, of the reference's Fits and FitsPoint, of path.Sound. Words of my own for all seats: what an argument that is a slice reads as; the row of a law out of its walk. No program, no conditions. What the path's laws are handed: points, slices of segments. The walk of path.Sound. '==' of segments; the walk of SameSegs. The walks of the comparisons of what is the same: numbers, pens, clips, states.
-/
import Derived.Test.YtkkejjfmidgciaaDoorJSNone4
import Derived.ProofKit
import Derived.Deep.Slices
import Derived.ShutString
import Derived.ChangeOld
import Derived.SizedLaws
import Derived.ChangeKeysEq
import Derived.Deep.RegionHeld3
/- The walks of the calls that set a number of a state. -/
namespace Go.Proofs.YtkkejjfmidgciaaDoor
open Go.RowKit
set_option linter.unusedVariables false
set_option linter.unusedSimpArgs false
/-- A state whose lists stay: its numbers are written. -/
theorem GsX.put {w w1 w' : World} {g : Nat} {F : Nat → Prop} {s : GS} {lab : Nat → Nat} {x : LvG} {sv : Value} {xs : List (Lv × LvG)} (h : GsX w g F s lab x sv xs) (hN : Fr Nob w w1) (hf : Fr (fun k => k = g) w1 w') (st : Gst) (hd : st.dash = s.cur.st.dash) (hc : st.clips = s.cur.st.clips)
    (hb : Blk w' g #[.int .i64 st.ctm.a, .int .i64 st.ctm.b, .int .i64 st.ctm.c, .int .i64 st.ctm.d, .int .i64 st.ctm.e, .int .i64 st.ctm.f, .int .i64 st.col.sp, .int .i64 st.col.p0, .int .i64 st.col.p1, .int .i64 st.col.p2, .int .i64 st.col.p3, .int .i64 st.width, .int .i64 st.cap, .int .i64 st.join, .int .i64 st.miter, x.dv, .int .i64 st.phase, .int .i64 st.font, .int .i64 st.fm.a, .int .i64 st.fm.b, .int .i64 st.fm.c, .int .i64 st.fm.d, .int .i64 st.fm.e, .int .i64 st.fm.f, x.cv, .bool st.dark, .pointer (some ⟨x.pg, 0, none⟩), .int .i64 s.most, .int .i64 s.segs, sv] 124) : GsTo w g F { s with cur := { s.cur with st := st } } w' := by
  have h1 := h.nob hN fun _ _ hh => hh
  have hG := h1.gin hf
  have h2 := h1.upd st x.dv x.cv hb hf ⟨by rw [hd]; exact hG.d, by rw [hc]; exact hG.c⟩
  exact ⟨Gs.mono ⟨lab, _, sv, xs, h2⟩ fun k hk => .inl hk, (hN.mono (T := F) fun _ hh => hh.elim).trans hf fun k hk => .inl (hk ▸ h.g1.1)⟩
theorem chkI_one (n : Int) : chkI [n] = if fitZ n then 0 else 11 := by simp [chkI]
theorem Blk.ints {w : World} {g : Nat} {ks : List Int} (h : Blk w g (ints ks).toArray 3) (hl : ks.length ≤ maxLen) : RowIn w (fun k => k = g) 1 (.slice (some ⟨g, 0, none⟩) ks.length ks.length) ks.length (YtkkejjfmidgciaaDoor.ints ks) := by
  simpa using h.row (n := ks.length) (size := 1) (by simp [ints_len]) hl
def shapeF (n : Int) : Int := if n < 0 ∨ 2 < n then 11 else 0
theorem gshape_any (g : Addr) (n : Int) (w : World) : Calls Tryd.prog 118 #[.pointer (some g), .int .i64 n] w fun e w' => e = .returned (.int .i64 (shapeF n)) ∧ w = w' := by
  have HI := Lib.hid (check_any g [] (.slice none 0 0) Nob w (RowIn.nil _ _ _))
  rw [show chkI [] = 0 from rfl] at HI
  by_cases h1 : n < 0
  · rw [show shapeF n = 11 by unfold shapeF; rw [if_pos (.inl h1)]]
    go_enter Tryd.func118, Tryd.ntmps118
    go_wp2_with fail
    refine HI.out.mono ?_
    rintro e w1 ⟨rfl, rfl⟩
    go_wp2_with fail
    go_ret
    exact ⟨rfl, rfl⟩
  · by_cases h2 : 2 < n
    · rw [show shapeF n = 11 by unfold shapeF; rw [if_pos (.inr h2)]]
      go_enter Tryd.func118, Tryd.ntmps118
      go_wp2_with fail
      refine HI.out.mono ?_
      rintro e w1 ⟨rfl, rfl⟩
      go_wp2_with fail
      go_ret
      exact ⟨rfl, rfl⟩
    · rw [show shapeF n = 0 by unfold shapeF; rw [if_neg (by omega)]]
      go_enter Tryd.func118, Tryd.ntmps118
      go_wp2_with fail
      refine HI.out.mono ?_
      rintro e w1 ⟨rfl, rfl⟩
      go_wp2_with fail
      go_ret
      exact ⟨rfl, rfl⟩
theorem gshape_none (n : Int) (w : World) : Calls Tryd.prog 118 #[.pointer none, .int .i64 n] w fun e w' => e = .returned (.int .i64 21) ∧ w = w' := by
  go_enter Tryd.func118, Tryd.ntmps118
  go_wp2_with fail
  refine (check_none _ _ _ _).mono ?_
  rintro e w1 ⟨rfl, rfl⟩
  go_wp2_with fail
  go_ret
  exact ⟨rfl, rfl⟩

def capF (n : Int) (st : Gst) : Int × Gst := (shapeF n, if shapeF n = 0 then { st with cap := n } else st)
theorem gcap_any (g : Nat) (F : Nat → Prop) (s : GS) (n : Int) (w : World) (h : Gs w g F s) :
    Calls Tryd.prog 77 #[.pointer (some ⟨g, 0, none⟩), .int .i64 n] w fun e w' => e = .returned (.int .i64 (capF n s.cur.st).1) ∧ GsTo w g F { s with cur := { s.cur with st := (capF n s.cur.st).2 } } w' := by
  have HI := Lib.hid (gshape_any ⟨g, 0, none⟩ n w)
  unfold capF
  by_cases h1 : n < 0 ∨ 2 < n
  · have hs : shapeF n = 11 := by unfold shapeF; rw [if_pos h1]
    rw [hs] at HI ⊢
    rw [if_neg (by decide)]
    have HH := Lib.hid h
    clear h h1 hs
    go_enter Tryd.func77, Tryd.ntmps77
    go_wp2_with fail
    refine HI.out.mono ?_
    rintro e w1 ⟨rfl, rfl⟩
    go_wp2_with fail
    go_ret
    exact ⟨rfl, GsTo.same HH.out (Fr.refl _ _)⟩
  · have hs : shapeF n = 0 := by unfold shapeF; rw [if_neg h1]
    rw [hs] at HI ⊢
    rw [if_pos rfl]
    obtain ⟨lab, x, sv, xs, h⟩ := h
    have c := h.cells.cell 12
    have q := h.cells.free 12
    simp only [List.getElem?_toArray, List.getElem?_cons_succ, List.getElem?_cons_zero] at c
    have HH := Lib.hid h
    clear h h1 hs
    go_enter Tryd.func77, Tryd.ntmps77
    go_wp2_with fail
    refine HI.out.mono ?_
    rintro e w1 ⟨rfl, rfl⟩
    go_wp2_with fail
    go_ret
    exact ⟨rfl, HH.out.put (Fr.refl _ _) ((Fr.refl (fun k => k = g) _).setCell (p := ⟨g, 12, none⟩) (.inl rfl) _) { s.cur.st with cap := n } rfl rfl (HH.out.cells.set 12 _)⟩
theorem gcap_none (n : Int) (w : World) : Calls Tryd.prog 77 #[.pointer none, .int .i64 n] w fun e w' => e = .returned (.int .i64 21) ∧ w = w' := by
  go_enter Tryd.func77, Tryd.ntmps77
  go_wp2_with fail
  refine (gshape_none _ _).mono ?_
  rintro e w1 ⟨rfl, rfl⟩
  go_wp2_with fail
  go_ret
  exact ⟨rfl, rfl⟩

def joinF (n : Int) (st : Gst) : Int × Gst := (shapeF n, if shapeF n = 0 then { st with join := n } else st)
theorem gjoin_any (g : Nat) (F : Nat → Prop) (s : GS) (n : Int) (w : World) (h : Gs w g F s) :
    Calls Tryd.prog 78 #[.pointer (some ⟨g, 0, none⟩), .int .i64 n] w fun e w' => e = .returned (.int .i64 (joinF n s.cur.st).1) ∧ GsTo w g F { s with cur := { s.cur with st := (joinF n s.cur.st).2 } } w' := by
  have HI := Lib.hid (gshape_any ⟨g, 0, none⟩ n w)
  unfold joinF
  by_cases h1 : n < 0 ∨ 2 < n
  · have hs : shapeF n = 11 := by unfold shapeF; rw [if_pos h1]
    rw [hs] at HI ⊢
    rw [if_neg (by decide)]
    have HH := Lib.hid h
    clear h h1 hs
    go_enter Tryd.func78, Tryd.ntmps78
    go_wp2_with fail
    refine HI.out.mono ?_
    rintro e w1 ⟨rfl, rfl⟩
    go_wp2_with fail
    go_ret
    exact ⟨rfl, GsTo.same HH.out (Fr.refl _ _)⟩
  · have hs : shapeF n = 0 := by unfold shapeF; rw [if_neg h1]
    rw [hs] at HI ⊢
    rw [if_pos rfl]
    obtain ⟨lab, x, sv, xs, h⟩ := h
    have c := h.cells.cell 13
    have q := h.cells.free 13
    simp only [List.getElem?_toArray, List.getElem?_cons_succ, List.getElem?_cons_zero] at c
    have HH := Lib.hid h
    clear h h1 hs
    go_enter Tryd.func78, Tryd.ntmps78
    go_wp2_with fail
    refine HI.out.mono ?_
    rintro e w1 ⟨rfl, rfl⟩
    go_wp2_with fail
    go_ret
    exact ⟨rfl, HH.out.put (Fr.refl _ _) ((Fr.refl (fun k => k = g) _).setCell (p := ⟨g, 13, none⟩) (.inl rfl) _) { s.cur.st with join := n } rfl rfl (HH.out.cells.set 13 _)⟩
theorem gjoin_none (n : Int) (w : World) : Calls Tryd.prog 78 #[.pointer none, .int .i64 n] w fun e w' => e = .returned (.int .i64 21) ∧ w = w' := by
  go_enter Tryd.func78, Tryd.ntmps78
  go_wp2_with fail
  refine (gshape_none _ _).mono ?_
  rintro e w1 ⟨rfl, rfl⟩
  go_wp2_with fail
  go_ret
  exact ⟨rfl, rfl⟩

def widthF (n : Int) (st : Gst) : Int × Gst := if fitZ n = true ∧ 0 ≤ n then (0, { st with width := n }) else (11, st)
theorem gwidth_any (g : Nat) (F : Nat → Prop) (s : GS) (n : Int) (w : World) (h : Gs w g F s) :
    Calls Tryd.prog 71 #[.pointer (some ⟨g, 0, none⟩), .int .i64 n] w fun e w' => e = .returned (.int .i64 (widthF n s.cur.st).1) ∧ GsTo w g F { s with cur := { s.cur with st := (widthF n s.cur.st).2 } } w' := by
  have hf : Fr Nob w (w.alloc (.cells #[.int .i64 n] 3)) := (Fr.refl Nob w).alloc _
  have HI := Lib.hid (check_any ⟨g, 0, none⟩ [n] _ _ (w.alloc (.cells #[.int .i64 n] 3)) ((show Blk (w.alloc (.cells #[.int .i64 n] 3)) w.heap.size (ints [n]).toArray 3 from Blk.new _ _ _).ints (by simp [maxLen])))
  rw [chkI_one] at HI
  unfold widthF
  have HF := Lib.hid hf
  by_cases h1 : fitZ n = true
  · rw [if_pos h1] at HI
    by_cases h2 : n < 0
    · rw [if_neg (by omega)]
      have HH := Lib.hid h
      clear h h1 hf
      go_enter Tryd.func71, Tryd.ntmps71
      go_wp2_with fail
      refine HI.out.mono ?_
      rintro e w1 ⟨rfl, rfl⟩
      go_wp2_with fail
      go_ret
      exact ⟨rfl, GsTo.same HH.out HF.out⟩
    · rw [if_pos ⟨h1, by omega⟩]
      obtain ⟨lab, x, sv, xs, h⟩ := h
      have hb := h.cells.nob hf
      have c := hb.cell 11
      have q := hb.free 11
      simp only [List.getElem?_toArray, List.getElem?_cons_succ, List.getElem?_cons_zero] at c
      have HH := Lib.hid h
      have HB := Lib.hid hb
      clear h h1 hf hb
      go_enter Tryd.func71, Tryd.ntmps71
      go_wp2_with fail
      refine HI.out.mono ?_
      rintro e w1 ⟨rfl, rfl⟩
      generalize w.alloc (.cells #[.int .i64 n] 3) = wa at *
      go_wp2_with fail
      go_ret
      exact ⟨rfl, HH.out.put HF.out ((Fr.refl (fun k => k = g) _).setCell (p := ⟨g, 11, none⟩) (.inl rfl) _) { s.cur.st with width := n } rfl rfl (HB.out.set 11 _)⟩
  · rw [if_neg h1] at HI
    rw [if_neg (fun hh => h1 hh.1)]
    have HH := Lib.hid h
    clear h h1 hf
    go_enter Tryd.func71, Tryd.ntmps71
    go_wp2_with fail
    refine HI.out.mono ?_
    rintro e w1 ⟨rfl, rfl⟩
    go_wp2_with fail
    go_ret
    exact ⟨rfl, GsTo.same HH.out HF.out⟩
theorem gwidth_none (n : Int) (w : World) : Calls Tryd.prog 71 #[.pointer none, .int .i64 n] w fun e w' => e = .returned (.int .i64 21) ∧ Fr Nob w w' := by
  have HF := Lib.hid (show Fr Nob w (w.alloc (.cells #[.int .i64 n] 3)) from (Fr.refl Nob w).alloc _)
  go_enter Tryd.func71, Tryd.ntmps71
  go_wp2_with fail
  refine (check_none _ _ _ _).mono ?_
  rintro e w1 ⟨rfl, rfl⟩
  go_wp2_with fail
  go_ret
  exact ⟨rfl, HF.out⟩

def miterF (n : Int) (st : Gst) : Int × Gst := if fitZ n = true ∧ 65536 ≤ n then (0, { st with miter := n }) else (11, st)
theorem gmiter_any (g : Nat) (F : Nat → Prop) (s : GS) (n : Int) (w : World) (h : Gs w g F s) :
    Calls Tryd.prog 79 #[.pointer (some ⟨g, 0, none⟩), .int .i64 n] w fun e w' => e = .returned (.int .i64 (miterF n s.cur.st).1) ∧ GsTo w g F { s with cur := { s.cur with st := (miterF n s.cur.st).2 } } w' := by
  have hf : Fr Nob w (w.alloc (.cells #[.int .i64 n] 3)) := (Fr.refl Nob w).alloc _
  have HI := Lib.hid (check_any ⟨g, 0, none⟩ [n] _ _ (w.alloc (.cells #[.int .i64 n] 3)) ((show Blk (w.alloc (.cells #[.int .i64 n] 3)) w.heap.size (ints [n]).toArray 3 from Blk.new _ _ _).ints (by simp [maxLen])))
  rw [chkI_one] at HI
  unfold miterF
  have HF := Lib.hid hf
  by_cases h1 : fitZ n = true
  · rw [if_pos h1] at HI
    by_cases h2 : n < 65536
    · rw [if_neg (by omega)]
      have HH := Lib.hid h
      clear h h1 hf
      go_enter Tryd.func79, Tryd.ntmps79
      go_wp2_with fail
      refine HI.out.mono ?_
      rintro e w1 ⟨rfl, rfl⟩
      go_wp2_with fail
      go_ret
      exact ⟨rfl, GsTo.same HH.out HF.out⟩
    · rw [if_pos ⟨h1, by omega⟩]
      obtain ⟨lab, x, sv, xs, h⟩ := h
      have hb := h.cells.nob hf
      have c := hb.cell 14
      have q := hb.free 14
      simp only [List.getElem?_toArray, List.getElem?_cons_succ, List.getElem?_cons_zero] at c
      have HH := Lib.hid h
      have HB := Lib.hid hb
      clear h h1 hf hb
      go_enter Tryd.func79, Tryd.ntmps79
      go_wp2_with fail
      refine HI.out.mono ?_
      rintro e w1 ⟨rfl, rfl⟩
      generalize w.alloc (.cells #[.int .i64 n] 3) = wa at *
      go_wp2_with fail
      go_ret
      exact ⟨rfl, HH.out.put HF.out ((Fr.refl (fun k => k = g) _).setCell (p := ⟨g, 14, none⟩) (.inl rfl) _) { s.cur.st with miter := n } rfl rfl (HB.out.set 14 _)⟩
  · rw [if_neg h1] at HI
    rw [if_neg (fun hh => h1 hh.1)]
    have HH := Lib.hid h
    clear h h1 hf
    go_enter Tryd.func79, Tryd.ntmps79
    go_wp2_with fail
    refine HI.out.mono ?_
    rintro e w1 ⟨rfl, rfl⟩
    go_wp2_with fail
    go_ret
    exact ⟨rfl, GsTo.same HH.out HF.out⟩
theorem gmiter_none (n : Int) (w : World) : Calls Tryd.prog 79 #[.pointer none, .int .i64 n] w fun e w' => e = .returned (.int .i64 21) ∧ Fr Nob w w' := by
  have HF := Lib.hid (show Fr Nob w (w.alloc (.cells #[.int .i64 n] 3)) from (Fr.refl Nob w).alloc _)
  go_enter Tryd.func79, Tryd.ntmps79
  go_wp2_with fail
  refine (check_none _ _ _ _).mono ?_
  rintro e w1 ⟨rfl, rfl⟩
  go_wp2_with fail
  go_ret
  exact ⟨rfl, HF.out⟩
end Go.Proofs.YtkkejjfmidgciaaDoor
/- The walks of points, follows, of the reference's Fits and FitsPoint, of path.Sound. -/
namespace Go.Proofs.YtkkejjfmidgciaaDoor
open Go.RowKit
set_option linter.unusedVariables false
set_option linter.unusedSimpArgs false
def ptsK (k : Int) : Int := if k = 1 ∨ k = 2 then 1 else if k = 3 then 3 else if k = 4 then 0 else -1
theorem points_any (k : Int) (w : World) : Calls Tryd.prog 126 #[.int .i64 k] w fun e w' => e = .returned (.int .i64 (ptsK k)) ∧ w = w' := by
  by_cases h1 : k = 1
  · subst h1; rw [show ptsK 1 = 1 from rfl]
    go_enter Tryd.func126, Tryd.ntmps126; go_wp2; go_ret; exact ⟨rfl, rfl⟩
  by_cases h2 : k = 2
  · subst h2; rw [show ptsK 2 = 1 from rfl]
    go_enter Tryd.func126, Tryd.ntmps126; go_wp2; go_ret; exact ⟨rfl, rfl⟩
  by_cases h3 : k = 3
  · subst h3; rw [show ptsK 3 = 3 from rfl]
    go_enter Tryd.func126, Tryd.ntmps126; go_wp2; go_ret; exact ⟨rfl, rfl⟩
  by_cases h4 : k = 4
  · subst h4; rw [show ptsK 4 = 0 from rfl]
    go_enter Tryd.func126, Tryd.ntmps126; go_wp2; go_ret; exact ⟨rfl, rfl⟩
  have e1 : (k == 1) = false := by simpa using h1
  have e2 : (k == 2) = false := by simpa using h2
  have e3 : (k == 3) = false := by simpa using h3
  have e4 : (k == 4) = false := by simpa using h4
  rw [show ptsK k = -1 by simp [ptsK, h1, h2, h3, h4]]
  clear h1 h2 h3 h4
  go_enter Tryd.func126, Tryd.ntmps126; go_wp2; go_ret; exact ⟨rfl, rfl⟩
def folB (k last : Int) : Bool := if k = 1 then !(last == 1) else !(last == 0) && !(last == 4)
theorem follows_any (k last : Int) (w : World) : Calls Tryd.prog 127 #[.int .i64 k, .int .i64 last] w fun e w' => e = .returned (.bool (folB k last)) ∧ w = w' := by
  by_cases h1 : k = 1
  · subst h1; rw [show folB 1 last = !(last == 1) from rfl]
    generalize hq : (last == 1) = q
    go_enter Tryd.func127, Tryd.ntmps127; go_wp2; go_ret; exact ⟨ret_bool (by rw [← hq]; rfl), rfl⟩
  have e1 : (k == 1) = false := by simpa using h1
  by_cases h2 : last = 0
  · subst h2
    rw [show folB k 0 = false by simp [folB, h1]]
    clear h1
    go_enter Tryd.func127, Tryd.ntmps127; go_wp2; go_ret; exact ⟨rfl, rfl⟩
  have e2 : (last == 0) = false := by simpa using h2
  have e2' : (last != 0) = true := by simpa using h2
  rw [show folB k last = !(last == 4) by simp [folB, h1, h2]]
  clear h1 h2
  generalize hq : (last == 4) = q
  go_enter Tryd.func127, Tryd.ntmps127; go_wp2; go_ret; exact ⟨ret_bool (by rw [← hq]; rfl), rfl⟩
theorem ref_fits (z : Int) (w : World) : Calls Tryd.prog 54 #[.int .i64 z] w fun e w' => e = .returned (.bool (fitZ z)) ∧ w = w' := by
  by_cases h1 : -2147483648 ≤ z
  · have d1 : decide (-2147483648 ≤ z) = true := by simpa using h1
    rw [show fitZ z = decide (z ≤ 2147483647) by simp [fitZ, h1]]
    go_enter Tryd.func54, Tryd.ntmps54
    go_wp2
    go_ret
    exact ⟨rfl, rfl⟩
  · have d1 : decide (-2147483648 ≤ z) = false := by simpa using h1
    rw [show fitZ z = false by simp [fitZ, h1]]
    go_enter Tryd.func54, Tryd.ntmps54
    go_wp2
    go_ret
    exact ⟨rfl, rfl⟩
theorem fitp_any (p : Pt) (w : World) : Calls Tryd.prog 100 #[ptV p] w fun e w' => e = .returned (.bool (fitP p)) ∧ Fr Nob w w' := by
  unfold ptV
  by_cases h : fitZ p.x
  · rw [show fitP p = fitZ p.y by simp [fitP, h]]
    go_enter Tryd.func100, Tryd.ntmps100
    go_wp2_with fail
    refine (ref_fits p.x _).mono ?_
    rintro e w1 ⟨rfl, rfl⟩
    rw [h]
    go_wp2_with fail
    refine (ref_fits p.y _).mono ?_
    rintro e w1 ⟨rfl, rfl⟩
    go_wp2_with fail
    go_ret
    exact ⟨rfl, (Fr.refl _ _).alloc _⟩
  · have hf : fitZ p.x = false := by simpa using h
    rw [show fitP p = false by simp [fitP, hf]]
    clear h
    go_enter Tryd.func100, Tryd.ntmps100
    go_wp2_with fail
    refine (ref_fits p.x _).mono ?_
    rintro e w1 ⟨rfl, rfl⟩
    rw [hf]
    go_wp2_with fail
    go_ret
    exact ⟨rfl, (Fr.refl _ _).alloc _⟩
theorem pt_eqIn (x y : Pt) (d : Nat) (w : World) : (Op.equalIn (d + 2) 56 (.agg #[.int .i64 x.x, .int .i64 x.y]) (.agg #[.int .i64 y.x, .int .i64 y.y])).run Tryd.prog w = .ok (decide (x = y)) w := by
  have e : decide (x = y) = (x.x == y.x && (x.y == y.y && true)) := by
    cases x; cases y
    simp only [Pt.mk.injEq]
    rw [Bool.eq_iff_iff]
    simp
  rw [e]
  refine eq_struct Tryd.underlying56 (by kernel_rfl) ?_
  refine eqf_cons (by rfl) (by go_simp; rfl) (by go_simp; rfl) (by go_simp) ?_
  refine eqf_cons (by rfl) (by go_simp; rfl) (by go_simp; rfl) (by go_simp) ?_
  exact eqf_nil
attribute [local go_sem high] pt_eqIn
theorem asks_some : Asks 129 fun p => !decide (p = oo) := fun p w => by
  have h := pt_eqIn p oo
  unfold oo at h
  go_enter Tryd.func129, Tryd.ntmps129
  go_wp2
  go_ret
  exact ⟨rfl, (Fr.refl _ _).alloc _⟩
end Go.Proofs.YtkkejjfmidgciaaDoor
/- Words of my own for all seats: what an argument that is a slice reads as; the row of a law out of its walk. No program, no conditions. -/
namespace Go.Proofs.YtkkejjfmidgciaaDoor
open Go.RowKit
set_option linter.unusedVariables false
set_option linter.unusedSimpArgs false
theorem flatn_len {α β : Type} (f : α → List β) (size : Nat) : ∀ (l : List α), (∀ x ∈ l, (f x).length = size) → (l.flatMap f).length = l.length * size
  | [], _ => by simp
  | a :: r, h => by
    rw [List.flatMap_cons, List.length_append, h a (by simp), flatn_len f size r (fun x hx => h x (by simp [hx])), List.length_cons, Nat.succ_mul]; omega
theorem flatn_at {α β : Type} (f : α → List β) (size : Nat) : ∀ (l : List α), (∀ x ∈ l, (f x).length = size) → ∀ (k j : Nat) (hk : k < l.length), j < size → (l.flatMap f)[k * size + j]? = (f l[k])[j]?
  | [], _, k, j, hk, _ => by simp at hk
  | a :: r, h, k, j, hk, hj => by
    rw [List.flatMap_cons]
    have ha : (f a).length = size := h a (by simp)
    cases k with
    | zero => rw [List.getElem?_append_left (by omega)]; simp
    | succ k =>
      rw [List.getElem?_append_right (by rw [ha, Nat.succ_mul]; omega), ha, show (k + 1) * size + j - size = k * size + j by rw [Nat.succ_mul]; omega]
      exact flatn_at f size r (fun x hx => h x (by simp [hx])) k j (by simpa using hk) hj

theorem read_slice {H T : Type} {enc : TypeId × Value → H} {P : Program} {w : World} {base : Nat} {spare : Nat → Bool} {held : Bool} {t e : TypeId} {fuel : Nat} {v : Value} {x : DataW H × List MemPlace}
    (ht : P.underlying t = some (.slice e)) (size : Nat) (hc : P.cellsOf e = size) (hs : 0 < size) (R : T → List Value → Prop)
    (hR : ∀ n cs y, DataW.trod enc P w base spare held n e cs = some y → ∃ t, R t cs)
    (h : DataW.trod enc P w base spare held fuel t [v] = some x) :
    ∃ xs : List (T × List Value), RowIn w (Lt w) size v xs.length (xs.flatMap (·.2)) ∧ (∀ y ∈ xs, R y.1 y.2 ∧ y.2.length = size) := by
  subst hc
  rcases Go.Deep.open_slice ht h with ⟨hcs, _⟩ | ⟨a, len, cap, m, n, D, Pl, hcs, _, hl, hm, hmm, _, hx⟩
  · obtain rfl : v = .slice none 0 0 := by simpa using hcs
    exact ⟨[], RowIn.nil w _ _, fun y hy => by simp at hy⟩
  · obtain rfl : v = .slice (some a) len cap := by simpa using hcs
    have hlm : len ≤ m := by rw [hmm]; split <;> omega
    have hy : ∀ i : Fin len, ∃ y : T × List Value, R y.1 y.2 ∧ y.2.length = P.cellsOf e ∧ ∀ j, j < P.cellsOf e → w.cell? ((a.add (i.val * P.cellsOf e)).add j) = y.2[j]? := fun i => by
      obtain ⟨cs', h1, h2⟩ := hx i.val (by omega)
      obtain ⟨_, h3, h4⟩ := World.cells?_some h1
      obtain ⟨t, ht⟩ := hR _ _ _ h2
      exact ⟨(t, cs'), ht, h3, h4⟩
    let F : Fin len → T × List Value := fun i => Classical.choose (hy i)
    have hF : ∀ i, R (F i).1 (F i).2 ∧ (F i).2.length = P.cellsOf e ∧ ∀ j, j < P.cellsOf e → w.cell? ((a.add (i.val * P.cellsOf e)).add j) = (F i).2[j]? := fun i => Classical.choose_spec (hy i)
    have hmem : ∀ y ∈ List.ofFn F, R y.1 y.2 ∧ y.2.length = P.cellsOf e := fun y hy => by
      obtain ⟨i, rfl⟩ := List.mem_ofFn.1 hy
      exact ⟨(hF i).1, (hF i).2.1⟩
    have hlenF : (List.ofFn F).length = len := List.length_ofFn
    refine ⟨List.ofFn F, ?_, hmem⟩
    rw [hlenF]
    have hfl := flatn_len (·.2) (P.cellsOf e) (List.ofFn F) fun y hy => (hmem y hy).2
    refine ⟨by rw [hfl, hlenF], some a, cap, rfl, hl, hm, (fun hh => by cases hh), fun k u hu => ?_⟩
    have hk : k < len * P.cellsOf e := by
      have := (List.getElem?_eq_some_iff.1 hu).1
      rw [hfl, hlenF] at this
      exact this
    have hq : k / P.cellsOf e < len := (Nat.div_lt_iff_lt_mul hs).2 hk
    have hr : k % P.cellsOf e < P.cellsOf e := Nat.mod_lt _ hs
    have hkk : k = k / P.cellsOf e * P.cellsOf e + k % P.cellsOf e := by rw [Nat.mul_comm]; exact (Nat.div_add_mod _ _).symm
    rw [hkk, flatn_at (·.2) (P.cellsOf e) (List.ofFn F) (fun y hy => (hmem y hy).2) _ _ (by rw [hlenF]; exact hq) hr] at hu
    rw [List.getElem_ofFn] at hu
    have hcell := (hF ⟨k / P.cellsOf e, hq⟩).2.2 _ hr
    have hlen0 : 0 < len := Nat.lt_of_le_of_lt (Nat.zero_le _) hq
    have hcell0 := (hF ⟨0, hlen0⟩).2.2 0 hs
    simp only [Nat.zero_mul] at hcell0
    have hcu : w.cell? ((a.add (k / P.cellsOf e * P.cellsOf e)).add (k % P.cellsOf e)) = some u := hcell.trans hu
    rw [Go.Deep.add_add, ← hkk] at hcu
    have hspot : a.spot = none := by
      have h0 : w.cell? a ≠ none := by
        have e0 : (a.add 0).add 0 = a := by simp [Addr.add]
        rw [e0] at hcell0
        rw [hcell0, List.getElem?_eq_getElem (by rw [(hF ⟨0, hlen0⟩).2.1]; exact hs)]
        simp
      unfold World.cell? at h0
      cases hsp : a.spot with
      | none => rfl
      | some s =>
        exfalso
        apply h0
        split
        · simp [hsp]
        · rfl
    obtain ⟨b, off, sp⟩ := a
    simp only at hspot
    subst hspot
    rw [add_plain] at hcu
    exact ⟨b, off, rfl, World.block_lt_of_cell? w _ hcu, hcu⟩

/-- The reach, of a slice that is an argument. -/
theorem sized_row {H : Type} {enc : TypeId × Value → H} {P : Program} {W : World} {base : Nat} {spare : Nat → Bool} {held : Bool} {t e : TypeId} {A : Option Addr} {len cap : Nat} {d : DataW H} {ps : List MemPlace} {ts : List TypeId} {ds : List (DataW H)} {j : Nat}
    (hsz : (DataW.weightsEach P ts ds).all (· ≤ reachBytes) = true) (ht : ts[j]? = some t) (hd : ds[j]? = some d) (hu : P.underlying t = some (.slice e)) {B : Nat} (hB : P.bytesOf e = B)
    (h : DataW.Trod enc P W base spare held t (.slice A len cap) d ps) : len * B ≤ 140737488351232 := by
  obtain ⟨fuel, hf⟩ := h
  rcases Go.Deep.open_slice hu hf with ⟨hcs, _⟩ | ⟨a, l, c, m, n, D, Pl, hcs, _, hl, hm, hmm, hx, _⟩
  · simp [Value.cells] at hcs
    obtain ⟨rfl, rfl, rfl⟩ := hcs
    simp
  · simp [Value.cells] at hcs
    obtain ⟨rfl, rfl, rfl⟩ := hcs
    obtain ⟨hx, _⟩ := Prod.mk.inj hx
    subst hx
    have z := sized_slice hsz ht hd hu
    rw [hB] at z
    have hlm : len ≤ m := by rw [hmm]; split <;> omega
    have h1 : ((List.range len).map D).length + ((List.range (m - len)).map fun j => D (len + j)).length = m := by simp; omega
    rw [h1] at z
    exact Nat.le_trans (Nat.mul_le_mul_right _ hlm) z
theorem RowIn.slice {w : World} {S : Nat → Prop} {size n : Nat} {v : Value} {cs : List Value} (h : RowIn w S size v n cs) : ∃ A cap, v = .slice A n cap := by
  obtain ⟨_, A, cap, hv, _⟩ := h
  exact ⟨A, cap, hv⟩
theorem wf64 {n : Int} (h : (Lit.int .i64 n).wf = true) : -9223372036854775808 ≤ n ∧ n ≤ 9223372036854775807 := by simpa [Lit.wf, IntKind.min, IntKind.max, IntKind.signed, IntKind.bits] using h
theorem wf32 {n : Int} (h : (Lit.int .i32 n).wf = true) : -2147483648 ≤ n ∧ n ≤ 2147483647 := by simpa [Lit.wf, IntKind.min, IntKind.max, IntKind.signed, IntKind.bits] using h
theorem wf16 {n : Int} (h : (Lit.int .i16 n).wf = true) : -32768 ≤ n ∧ n ≤ 32767 := by simpa [Lit.wf, IntKind.min, IntKind.max, IntKind.signed, IntKind.bits] using h
theorem wfu8 {n : Int} (h : (Lit.int .u8 n).wf = true) : 0 ≤ n ∧ n ≤ 255 := by simpa [Lit.wf, IntKind.min, IntKind.max, IntKind.signed, IntKind.bits] using h
theorem wfu16 {n : Int} (h : (Lit.int .u16 n).wf = true) : 0 ≤ n ∧ n ≤ 65535 := by simpa [Lit.wf, IntKind.min, IntKind.max, IntKind.signed, IntKind.bits] using h
/-- One cell of a struct. -/
theorem one_of_drop {cs : List Value} {k : Nat} {v : Value} (h : (cs.drop k).take 1 = [v]) : cs[k]? = some v := by
  have := congrArg (fun l => l[0]?) h
  simpa [List.getElem?_take, List.getElem?_drop] using this

section
variable {H : Type} {enc : TypeId × Value → H} {P : Program} {w : World} {base : Nat} {spare : Nat → Bool} {held : Bool} {n k i : Nat} {t : TypeId} {cs : List Value} {xs : List (DataW H × List MemPlace)}
theorem field_int {kd : IntKind} (h : DataW.trod enc P w base spare held n t ((cs.drop k).take (P.cellsOf t)) = xs[i]?) (hi : i < xs.length) (hu : P.underlying t = some (.int kd)) (hc : P.cellsOf t = 1) :
    ∃ z, cs[k]? = some (.int kd z) ∧ (Lit.int kd z).wf = true := by
  rw [List.getElem?_eq_getElem hi] at h
  obtain ⟨z, hz, _, hw⟩ := DataW.trod_int hu h
  rw [hc] at hz
  exact ⟨z, one_of_drop hz, hw⟩
theorem field_bool (h : DataW.trod enc P w base spare held n t ((cs.drop k).take (P.cellsOf t)) = xs[i]?) (hi : i < xs.length) (hu : P.underlying t = some .bool) (hc : P.cellsOf t = 1) :
    ∃ z, cs[k]? = some (.bool z) := by
  rw [List.getElem?_eq_getElem hi] at h
  obtain ⟨z, hz, _⟩ := DataW.trod_bool hu h
  rw [hc] at hz
  exact ⟨z, one_of_drop hz⟩
theorem field_string (h : DataW.trod enc P w base spare held n t ((cs.drop k).take (P.cellsOf t)) = xs[i]?) (hi : i < xs.length) (hu : P.underlying t = some .string) (hc : P.cellsOf t = 1) :
    ∃ z, cs[k]? = some (.string z) := by
  rw [List.getElem?_eq_getElem hi] at h
  obtain ⟨z, hz, _⟩ := DataW.trod_string hu h
  rw [hc] at hz
  exact ⟨z, one_of_drop hz⟩
theorem field_one (h : DataW.trod enc P w base spare held n t ((cs.drop k).take (P.cellsOf t)) = xs[i]?) (hi : i < xs.length) (hk : k < cs.length) (hc : P.cellsOf t = 1) :
    DataW.trod enc P w base spare held n t [cs[k]] = some xs[i] := by
  rw [List.getElem?_eq_getElem hi, hc] at h
  have : (cs.drop k).take 1 = [cs[k]] := by rw [List.take_one, List.head?_drop, List.getElem?_eq_getElem hk]; rfl
  rwa [this] at h
end
end Go.Proofs.YtkkejjfmidgciaaDoor
/- What the path's laws are handed: points, slices of segments. -/
namespace Go.Proofs.YtkkejjfmidgciaaDoor
open Go.RowKit
set_option linter.unusedVariables false
set_option linter.unusedSimpArgs false
theorem cells23 : Tryd.prog.cellsOf 56 = 2 := by kernel_rfl
theorem cells3 : Tryd.prog.cellsOf 3 = 1 := by kernel_rfl
theorem cells41 : Tryd.prog.cellsOf 89 = 6 := by kernel_rfl
theorem cells43 : Tryd.prog.cellsOf 91 = 7 := by kernel_rfl
theorem list2 {cs : List Value} (h : cs.length = 2) : ∃ a b, cs = [a, b] := by
  match cs, h with
  | [a, b], _ => exact ⟨a, b, rfl⟩
theorem read_pt {H : Type} {enc' : TypeId × Value → H} {w : World} {base : Nat} {spare : Nat → Bool} {held : Bool} (n : Nat) (cs : List Value) (y : DataW H × List MemPlace)
    (h : DataW.trod enc' Tryd.prog w base spare held n 56 cs = some y) : ∃ p : Pt, cs = encP p := by
  obtain ⟨xs, n, _, rfl, hl, hlen, hf⟩ := DataW.trod_struct Tryd.underlying56 h
  rw [cells23] at hl
  have hx : xs.length = 2 := hlen
  obtain ⟨z0, h0, _⟩ := field_int (hf 0 _ rfl) (by omega) Tryd.underlying3 cells3
  obtain ⟨z1, h1, _⟩ := field_int (hf 1 _ rfl) (by omega) Tryd.underlying3 cells3
  refine ⟨⟨z0, z1⟩, ?_⟩
  obtain ⟨c0, c1, rfl⟩ := list2 hl
  simp at h0 h1
  simp [encP, h0, h1]
theorem read_pt_agg {H : Type} {enc' : TypeId × Value → H} {w : World} {base : Nat} {spare : Nat → Bool} {held : Bool} (n : Nat) (cs : Array Value) (y : DataW H × List MemPlace)
    (h : DataW.trod enc' Tryd.prog w base spare held n 56 (Value.agg cs).cells.toList = some y) : ∃ p : Pt, cs = #[.int .i64 p.x, .int .i64 p.y] := by
  obtain ⟨p, hp⟩ := read_pt n cs.toList y h
  refine ⟨p, ?_⟩
  apply Array.toList_inj.1
  rw [hp]; rfl
end Go.Proofs.YtkkejjfmidgciaaDoor
/- The walk of path.Sound. -/
namespace Go.Proofs.YtkkejjfmidgciaaDoor
open Go.RowKit
set_option linter.unusedVariables false
set_option linter.unusedSimpArgs false
def sgZ : Sg := ⟨0, oo, oo, oo⟩
def pts (s : Sg) : List Pt := [s.a, s.b, s.c]
def someP (l : List Pt) : Bool := l.any fun p => !decide (p = oo)
def sgOk (s : Sg) : Bool := decide (0 ≤ ptsK s.kind) && ((pts s).all fitP && !someP ((pts s).drop (ptsK s.kind).toNat))
def prevK (l : List Sg) (k : Nat) : Int := if k = 0 then 0 else (l.getD (k - 1) sgZ).kind
def snd1 (l : List Sg) (k : Nat) : Bool := folB (l.getD k sgZ).kind (prevK l k) && sgOk (l.getD k sgZ)
def SoundP (l : List Sg) : Prop := l.length ≤ 4096 ∧ ∀ k, k < l.length → snd1 l k = true
instance (l : List Sg) : Decidable (SoundP l) := by unfold SoundP; infer_instance
theorem ptsK_cases (k : Int) : ptsK k = -1 ∨ ptsK k = 0 ∨ ptsK k = 1 ∨ ptsK k = 3 := by
  unfold ptsK; split
  · simp
  split
  · simp
  split <;> simp
theorem getD_at {l : List Sg} {k : Nat} (h : k < l.length) : l.getD k sgZ = l[k] := by simp [List.getD_eq_getElem?_getD, h]
theorem prevK_succ {l : List Sg} {k : Nat} (h : k < l.length) : prevK l (k + 1) = l[k].kind := by simp [prevK, h]
theorem sound_false {l : List Sg} {k : Nat} (h : k < l.length) (hs : snd1 l k = false) : decide (SoundP l) = false := by
  simp only [decide_eq_false_iff_not]
  intro hp
  have := hp.2 k h
  rw [hs] at this
  cases this
theorem sgRow {w : World} {g : Nat} {s : Sg} (h : SgAt w g 0 s) : RowIn w (fun k => k = g) 2 (.slice (some ⟨g, 1, none⟩) 3 3) 3 (encPs (pts s)) := by
  refine ⟨rfl, some ⟨g, 1, none⟩, 3, rfl, by omega, by decide, (fun h => by cases h), fun j u hu => ⟨g, 1, rfl, rfl, ?_⟩⟩
  obtain ⟨c0, c1, c2, c3, c4, c5, c6⟩ := h
  match j, hu with
  | 0, hu => cases hu; exact c1
  | 1, hu => cases hu; exact c2
  | 2, hu => cases hu; exact c3
  | 3, hu => cases hu; exact c4
  | 4, hu => cases hu; exact c5
  | 5, hu => cases hu; exact c6
  | (j + 6), hu => simp [encPs, encP, pts] at hu
theorem sgRow1 {w : World} {g : Nat} {s : Sg} (h : SgAt w g 0 s) : RowIn w (fun k => k = g) 2 (.slice (some ⟨g, 3, none⟩) 2 2) 2 (encPs ((pts s).drop 1)) := by
  refine ⟨rfl, some ⟨g, 3, none⟩, 2, rfl, by omega, by decide, (fun h => by cases h), fun j u hu => ⟨g, 3, rfl, rfl, ?_⟩⟩
  obtain ⟨c0, c1, c2, c3, c4, c5, c6⟩ := h
  match j, hu with
  | 0, hu => cases hu; exact c3
  | 1, hu => cases hu; exact c4
  | 2, hu => cases hu; exact c5
  | 3, hu => cases hu; exact c6
  | (j + 4), hu => simp [encPs, encP, pts] at hu
theorem sgRow3 {w : World} (a : Option Addr) (ha : ∃ b o, a = some ⟨b, o, none⟩) : RowIn w (fun _ => True) 2 (.slice a 0 0) 0 (encPs []) :=
  ⟨rfl, a, 0, rfl, by omega, by decide, (fun _ => rfl), fun j u hu => by simp [encPs] at hu⟩

set_option maxHeartbeats 4000000 in
theorem sound_any (v : Value) (l : List Sg) (S : Nat → Prop) (w : World) (h : RowIn w S 7 v l.length (encSs l)) :
    Calls Tryd.prog 98 #[v] w fun e w' => e = .returned (.bool (decide (SoundP l))) ∧ Fr Nob w w' := by
  have hlen := h.len_le
  by_cases hb : 4096 < l.length
  · rw [show decide (SoundP l) = false from decide_eq_false fun h => by have := h.1; omega]
    obtain ⟨_, A, c, rfl, _⟩ := h
    have i1 : (4096 : Int) < l.length := by omega
    go_enter Tryd.func98, Tryd.ntmps98
    go_wp2
    go_ret
    exact ⟨rfl, Fr.refl _ _⟩
  have i1 : ¬ (4096 : Int) < l.length := by omega
  by_cases h0 : l.length = 0
  · obtain rfl : l = [] := List.length_eq_zero_iff.1 h0
    obtain ⟨_, A, c, rfl, _⟩ := h
    rw [show decide (SoundP []) = true from rfl]
    go_enter Tryd.func98, Tryd.ntmps98
    go_wp2
    go_loopw [12] (fun q wr => q = .int .i64 0 ∧ wr = w) (fun _ _ => 0)
    case atStart => exact ⟨rfl, rfl⟩
    case round =>
      obtain ⟨rfl, rfl⟩ := hrel
      go_wp2
      go_ret
      exact ⟨rfl, Fr.refl _ _⟩
  obtain ⟨b, off, cap, rfl, h1, h2, _, hA⟩ := h.sg (by omega)
  have HA := Lib.hid hA
  clear h hA
  obtain ⟨R, hR⟩ : ∃ R, decide (SoundP l) = R := ⟨_, rfl⟩
  rw [hR]
  have HR := Lib.hid hR
  clear hR
  go_enter Tryd.func98, Tryd.ntmps98
  go_wp2
  go_loopw [3, 12] (fun s q wr => ∃ k : Nat, k ≤ l.length ∧ q = .int .i64 k ∧ s = .int .i64 (prevK l k) ∧ Hid (∀ j, j < k → snd1 l j = true) ∧ Hid (Fr Nob w wr)) (fun _ q _ => l.length - (intOf q).toNat)
  case atStart => exact ⟨0, by omega, rfl, rfl, fun j h => by omega, Fr.refl _ _⟩
  case round =>
    obtain ⟨k, hk, rfl, rfl, HT, HF⟩ := hrel
    by_cases hlt : k < l.length
    · have hc := (HA.out k hlt).fr HF.out fun hh => hh
      have hpk := Lib.hid (prevK_succ hlt)
      have hfal := Lib.hid (fun h => sound_false (l := l) hlt h)
      have hs1 : snd1 l k = (folB l[k].kind (prevK l k) && sgOk l[k]) := by unfold snd1; rw [getD_at hlt]
      have HS := Lib.hid hs1
      clear hs1
      generalize l[k] = s at *
      have i2 : (k : Int) < l.length := by omega
      obtain ⟨s0, s1, s2, s3, s4, s5, s6⟩ := hc
      obtain ⟨w1, hw1⟩ : ∃ w1, wr.alloc (.cells (encS s).toArray 91) = w1 := ⟨_, rfl⟩
      have hf1 : Fr Nob wr w1 := by rw [← hw1]; exact (Fr.refl Nob wr).alloc _
      have hb1 : Blk w1 wr.heap.size (encS s).toArray 91 := by rw [← hw1]; exact Blk.new wr _ _
      simp only [encS] at hw1
      obtain ⟨t0, t1, t2, t3, t4, t5, t6⟩ := SgAt.own hb1
      have B1 := Lib.hid (SgAt.own hb1)
      have HF1 := Lib.hid (HF.out.trans0 hf1)
      clear hf1 hb1
      generalize hn : ptsK s.kind = n at *
      have hn4 : n = -1 ∨ n = 0 ∨ n = 1 ∨ n = 3 := hn ▸ ptsK_cases s.kind
      have HN := Lib.hid hn
      have pt := points_any s.kind w1
      rw [hn] at pt
      have HP := Lib.hid pt
      clear hn pt
      generalize hq : folB s.kind (prevK l k) = fq at *
      have fo := follows_any s.kind (prevK l k)
      rw [hq] at fo
      have HFO := Lib.hid fo
      clear hq fo
      go_wp2_with fail
      refine HP.out.mono ?_
      rintro e w2 ⟨rfl, rfl⟩
      by_cases hneg : n = -1
      · subst hneg
        have HD := Lib.hid (show false = R by rw [← HR.out]; exact (hfal.out (by rw [HS.out]; simp [sgOk, HN.out])).symm)
        clear HR
        go_wp2_with fail
        go_ret
        exact ⟨ret_bool HD.out, HF1.out⟩
      have hn3 : n = 0 ∨ n = 1 ∨ n = 3 := by omega
      have hn0 : ¬ n < 0 := by omega
      have dn : decide (n < 0) = false := by simpa using hn0
      have dn2 : decide (0 ≤ n) = true := by simp; omega
      have HS2 := Lib.hid (show snd1 l k = (fq && ((pts s).all fitP && !someP ((pts s).drop n.toNat))) by rw [HS.out]; simp [sgOk, HN.out, dn2])
      clear hneg hn0 dn2 HS
      cases fq with
      | false =>
        have HD := Lib.hid (show false = R by rw [← HR.out]; exact (hfal.out (by rw [HS2.out]; rfl)).symm)
        clear HR
        go_wp2_with fail
        refine (HFO.out _).mono ?_
        rintro e w2 ⟨rfl, rfl⟩
        go_wp2_with fail
        go_ret
        exact ⟨ret_bool HD.out, HF1.out⟩
      | true =>
        cases hft : (pts s).all fitP with
        | false =>
          have HD := Lib.hid (show false = R by rw [← HR.out]; exact (hfal.out (by rw [HS2.out, hft]; rfl)).symm)
          have HFT := Lib.hid hft
          clear HR hft
          go_wp2_with fail
          refine (HFO.out _).mono ?_
          rintro e w2 ⟨rfl, rfl⟩
          go_wp2_with fail
          refine (fits_any _ (pts s) _ _ (sgRow B1.out)).mono ?_
          rw [HFT.out]
          rintro e w2 ⟨rfl, hf2⟩
          have HF2 := Lib.hid (HF1.out.trans0 hf2)
          clear hf2
          go_wp2_with fail
          go_ret
          exact ⟨ret_bool HD.out, HF2.out⟩
        | true =>
          have HFT := Lib.hid hft
          obtain ⟨sp, hsp⟩ : ∃ sp, someP ((pts s).drop n.toNat) = sp := ⟨_, rfl⟩
          have HSP := Lib.hid hsp
          have HS3 := Lib.hid (show snd1 l k = !sp by rw [HS2.out, hft, hsp]; rfl)
          clear hft hsp
          rcases hn3 with rfl | rfl | rfl
          · go_wp2_with fail
            refine (HFO.out _).mono ?_
            rintro e w2 ⟨rfl, rfl⟩
            go_wp2_with fail
            refine (fits_any _ (pts s) _ _ (sgRow B1.out)).mono ?_
            rw [HFT.out]
            rintro e w2 ⟨rfl, hf2⟩
            have HF2 := Lib.hid (HF1.out.trans0 hf2)
            have HB2 := Lib.hid (B1.out.fr hf2 fun hh => hh)
            have hk2 := HB2.out.c0
            clear hf2
            go_wp2_with fail
            refine (contains_any 129 _ (.inr rfl) asks_some _ (pts s) _ _ (sgRow HB2.out)).mono ?_
            rw [show (pts s).any (fun p => !decide (p = oo)) = sp from HSP.out]
            cases sp with
            | false =>
              rintro e w3 ⟨rfl, hf3⟩
              have HF3 := Lib.hid (HF2.out.trans0 hf3)
              have hk3 := (HB2.out.fr hf3 fun hh => hh).c0
              have HT2 := Lib.hid (show ∀ j, j < k + 1 → snd1 l j = true by
                intro j hj
                rcases Nat.lt_or_ge j k with h | h
                · exact HT.out j h
                · obtain rfl : j = k := by omega
                  rw [HS3.out]; rfl)
              clear hf3 hk2
              go_wp2_with fail
              go_roundw
              case rel => exact ⟨k + 1, by omega, by go_num, by rw [hpk.out], HT2, HF3⟩
              case measure => simp [intOf]; omega
            | true =>
              rintro e w3 ⟨rfl, hf3⟩
              have HF3 := Lib.hid (HF2.out.trans0 hf3)
              have HD := Lib.hid (show false = R by rw [← HR.out]; exact (hfal.out (by rw [HS3.out]; rfl)).symm)
              clear hf3 hk2 HR
              go_wp2_with fail
              go_ret
              exact ⟨ret_bool HD.out, HF3.out⟩
          · go_wp2_with fail
            refine (HFO.out _).mono ?_
            rintro e w2 ⟨rfl, rfl⟩
            go_wp2_with fail
            refine (fits_any _ (pts s) _ _ (sgRow B1.out)).mono ?_
            rw [HFT.out]
            rintro e w2 ⟨rfl, hf2⟩
            have HF2 := Lib.hid (HF1.out.trans0 hf2)
            have HB2 := Lib.hid (B1.out.fr hf2 fun hh => hh)
            have hk2 := HB2.out.c0
            clear hf2
            go_wp2_with fail
            refine (contains_any 129 _ (.inr rfl) asks_some _ ((pts s).drop 1) _ _ (sgRow1 HB2.out)).mono ?_
            rw [show ((pts s).drop 1).any (fun p => !decide (p = oo)) = sp from HSP.out]
            cases sp with
            | false =>
              rintro e w3 ⟨rfl, hf3⟩
              have HF3 := Lib.hid (HF2.out.trans0 hf3)
              have hk3 := (HB2.out.fr hf3 fun hh => hh).c0
              have HT2 := Lib.hid (show ∀ j, j < k + 1 → snd1 l j = true by
                intro j hj
                rcases Nat.lt_or_ge j k with h | h
                · exact HT.out j h
                · obtain rfl : j = k := by omega
                  rw [HS3.out]; rfl)
              clear hf3 hk2
              go_wp2_with fail
              go_roundw
              case rel => exact ⟨k + 1, by omega, by go_num, by rw [hpk.out], HT2, HF3⟩
              case measure => simp [intOf]; omega
            | true =>
              rintro e w3 ⟨rfl, hf3⟩
              have HF3 := Lib.hid (HF2.out.trans0 hf3)
              have HD := Lib.hid (show false = R by rw [← HR.out]; exact (hfal.out (by rw [HS3.out]; rfl)).symm)
              clear hf3 hk2 HR
              go_wp2_with fail
              go_ret
              exact ⟨ret_bool HD.out, HF3.out⟩
          · go_wp2_with fail
            refine (HFO.out _).mono ?_
            rintro e w2 ⟨rfl, rfl⟩
            go_wp2_with fail
            refine (fits_any _ (pts s) _ _ (sgRow B1.out)).mono ?_
            rw [HFT.out]
            rintro e w2 ⟨rfl, hf2⟩
            have HF2 := Lib.hid (HF1.out.trans0 hf2)
            have HB2 := Lib.hid (B1.out.fr hf2 fun hh => hh)
            have hk2 := HB2.out.c0
            clear hf2
            go_wp2_with fail
            refine (contains_any 129 _ (.inr rfl) asks_some _ ([] : List Pt) _ _ (sgRow3 (some ⟨wr.heap.size, 1, none⟩) ⟨_, _, rfl⟩)).mono ?_
            rw [show ([] : List Pt).any (fun p => !decide (p = oo)) = sp from HSP.out]
            cases sp with
            | false =>
              rintro e w3 ⟨rfl, hf3⟩
              have HF3 := Lib.hid (HF2.out.trans0 hf3)
              have hk3 := (HB2.out.fr hf3 fun hh => hh).c0
              have HT2 := Lib.hid (show ∀ j, j < k + 1 → snd1 l j = true by
                intro j hj
                rcases Nat.lt_or_ge j k with h | h
                · exact HT.out j h
                · obtain rfl : j = k := by omega
                  rw [HS3.out]; rfl)
              clear hf3 hk2
              go_wp2_with fail
              go_roundw
              case rel => exact ⟨k + 1, by omega, by go_num, by rw [hpk.out], HT2, HF3⟩
              case measure => simp [intOf]; omega
            | true =>
              rintro e w3 ⟨rfl, hf3⟩
              have HF3 := Lib.hid (HF2.out.trans0 hf3)
              have HD := Lib.hid (show false = R by rw [← HR.out]; exact (hfal.out (by rw [HS3.out]; rfl)).symm)
              clear hf3 hk2 HR
              go_wp2_with fail
              go_ret
              exact ⟨ret_bool HD.out, HF3.out⟩
    · have HD := Lib.hid (show R = true by
        rw [← HR.out]; simp only [decide_eq_true_eq]
        exact ⟨by omega, fun j hj => HT.out j (by omega)⟩)
      clear HR
      have hge : l.length ≤ k := by omega
      go_wp2
      go_ret
      exact ⟨ret_bool HD.out.symm, HF.out⟩
end Go.Proofs.YtkkejjfmidgciaaDoor
/- '==' of segments; the walk of SameSegs. -/
namespace Go.Proofs.YtkkejjfmidgciaaDoor
open Go.RowKit
set_option linter.unusedVariables false
set_option linter.unusedSimpArgs false
theorem info23 : (Tryd.prog.info? 56).map (fun i => (i.zero, i.size, i.bytes)) = some (some (.agg #[.int .i64 0, .int .i64 0]), 2, 16) := by kernel_rfl
theorem eqi_nil {P : Program} {d : Nat} {e : TypeId} {c : Nat} {xs ys : Array Value} {w : World} : (Op.eqItems d e c xs ys []).run P w = .ok true w := by simp [Op.eqItems]
theorem eqi_cons {P : Program} {d : Nat} {e : TypeId} {c i : Nat} {is : List Nat} {xs ys : Array Value} {a b : Value} {r s : Bool} {w : World}
    (ha : (part e xs (i * c)).run P w = .ok a w) (hb : (part e ys (i * c)).run P w = .ok b w) (he : (Op.equalIn d e a b).run P w = .ok r w)
    (hr : (Op.eqItems d e c xs ys is).run P w = .ok s w) : (Op.eqItems d e c xs ys (i :: is)).run P w = .ok (r && s) w := by
  rw [Op.eqItems]
  simp only [Sem.run_bind, ha, hb, he, Result.andThen_ok]
  cases r
  · simp
  · simpa using hr
theorem arr_eqIn (x y : Sg) (d : Nat) (w : World) : (Op.equalIn (d + 3) 89 (.agg #[.int .i64 x.a.x, .int .i64 x.a.y, .int .i64 x.b.x, .int .i64 x.b.y, .int .i64 x.c.x, .int .i64 x.c.y])
    (.agg #[.int .i64 y.a.x, .int .i64 y.a.y, .int .i64 y.b.x, .int .i64 y.b.y, .int .i64 y.c.x, .int .i64 y.c.y])).run Tryd.prog w = .ok (decide (x.a = y.a) && (decide (x.b = y.b) && (decide (x.c = y.c) && true))) w := by
  obtain ⟨i0, hi, hz0, hz1, hz2⟩ := info_parts info23
  rw [run_equalIn_array (P := Tryd.prog) (w := w) (d + 2) _ _ Tryd.underlying89 hi, cells23, show List.range 3 = [0, 1, 2] from rfl]
  refine eqi_cons (by go_simp) (by go_simp) (pt_eqIn x.a y.a d w) ?_
  refine eqi_cons (by go_simp) (by go_simp) (pt_eqIn x.b y.b d w) ?_
  refine eqi_cons (by go_simp) (by go_simp) (pt_eqIn x.c y.c d w) ?_
  exact eqi_nil
theorem sg_eqIn (x y : Sg) (d : Nat) (w : World) : (Op.equalIn (d + 4) 91 (.agg #[.int .i64 x.kind, .int .i64 x.a.x, .int .i64 x.a.y, .int .i64 x.b.x, .int .i64 x.b.y, .int .i64 x.c.x, .int .i64 x.c.y])
    (.agg #[.int .i64 y.kind, .int .i64 y.a.x, .int .i64 y.a.y, .int .i64 y.b.x, .int .i64 y.b.y, .int .i64 y.c.x, .int .i64 y.c.y])).run Tryd.prog w = .ok (decide (x = y)) w := by
  have e : decide (x = y) = (x.kind == y.kind && ((decide (x.a = y.a) && (decide (x.b = y.b) && (decide (x.c = y.c) && true))) && true)) := by
    cases x; cases y
    simp only [Sg.mk.injEq]
    rw [Bool.eq_iff_iff]
    simp
  rw [e]
  refine eq_struct Tryd.underlying91 (by kernel_rfl) ?_
  refine eqf_cons (by rfl) (by go_simp; rfl) (by go_simp; rfl) (by go_simp) ?_
  refine eqf_cons (by rfl) (by go_simp) (by go_simp) (arr_eqIn x y d w) ?_
  exact eqf_nil
attribute [local go_sem high] sg_eqIn

set_option maxRecDepth 8000 in
set_option maxHeartbeats 1600000 in
theorem same_any (va vb : Value) (la lb : List Sg) (S T : Nat → Prop) (w : World) (ha : RowIn w S 7 va la.length (encSs la)) (hb : RowIn w T 7 vb lb.length (encSs lb)) :
    Calls Tryd.prog 39 #[va, vb] w fun e w' => e = .returned (.bool (decide (la = lb))) ∧ Fr Nob w w' := by
  by_cases hl : la.length = lb.length
  · by_cases h0 : la.length = 0
    · obtain rfl : la = [] := List.length_eq_zero_iff.1 h0
      obtain rfl : lb = [] := List.length_eq_zero_iff.1 hl.symm
      obtain ⟨_, A, c, rfl, _⟩ := ha
      obtain ⟨_, A', c', rfl, _⟩ := hb
      go_enter Tryd.func39, Tryd.ntmps39
      go_wp2
      go_loopw [5] (fun q wr => q = .int .i64 0 ∧ wr = w) (fun _ _ => 0)
      case atStart => exact ⟨rfl, rfl⟩
      case round =>
        obtain ⟨rfl, rfl⟩ := hrel
        go_wp2
        go_ret
        exact ⟨rfl, Fr.refl _ _⟩
    · obtain ⟨ba, oa, ca, rfl, ha1, ha2, _, hA⟩ := ha.sg (by omega)
      obtain ⟨bb, ob, cb, rfl, hb1, hb2, _, hB⟩ := hb.sg (by omega)
      have HA := Lib.hid hA
      have HB := Lib.hid hB
      clear ha hb hA hB
      have hx : ((la.length : Int) == lb.length) = true := by simp [hl]
      have hx2 : ((la.length : Int) != lb.length) = false := by simp [hl]
      have HL := Lib.hid hl
      clear hl h0
      go_enter Tryd.func39, Tryd.ntmps39
      go_wp2
      go_loopw [5] (fun q wr => ∃ k n : Nat, k ≤ la.length ∧ q = .int .i64 k ∧ Hid (la.take k = lb.take k) ∧ wr = w.drewN n) (fun q _ => la.length - (intOf q).toNat)
      case atStart => exact ⟨0, 0, by omega, rfl, rfl, rfl⟩
      case round =>
        obtain ⟨k, n, hk, rfl, HT, rfl⟩ := hrel
        by_cases hlt : k < la.length
        · have hlb : k < lb.length := by rw [← HL.out]; exact hlt
          obtain ⟨a0, a1, a2, a3, a4, a5, a6⟩ := HA.out k hlt
          obtain ⟨b0, b1, b2, b3, b4, b5, b6⟩ := HB.out k hlb
          have i1 : (k : Int) < la.length := by omega
          have i2 : (k : Int) < lb.length := by omega
          by_cases hq : la[k] = lb[k]
          · have HN := Lib.hid (take_more HT.out hlt hlb hq)
            have hqb : decide (la[k] = lb[k]) = true := by simp [hq]
            clear hq HT
            generalize la[k] = x at *
            generalize lb[k] = y at *
            go_wp2
            go_quiet (fail)
            go_wp2
            go_roundw
            case rel => exact ⟨k + 1, _, by omega, by go_num, HN, rfl⟩
            case measure => simp [intOf]; omega
          · have HN := Lib.hid (show false = decide (la = lb) by simp; rintro rfl; exact hq rfl)
            have hqb : decide (la[k] = lb[k]) = false := by simp [hq]
            clear hq HT
            generalize la[k] = x at *
            generalize lb[k] = y at *
            go_wp2
            go_quiet (fail)
            go_wp2
            go_ret
            exact ⟨ret_bool HN.out, ((Fr.refl Nob w).drewN _).drewN _⟩
        · have HN := Lib.hid (show true = decide (la = lb) by
            have := take_all HT.out (by omega) (by have := HL.out; omega)
            simp [this])
          clear HT
          have hge : la.length ≤ k := by omega
          go_wp2
          go_ret
          exact ⟨ret_bool HN.out, (Fr.refl Nob w).drewN _⟩
  · obtain ⟨_, A, c, rfl, ha1, ha2, _⟩ := ha
    obtain ⟨_, A', c', rfl, hb1, hb2, _⟩ := hb
    unfold maxLen at ha2 hb2
    have hx : ((la.length : Int) == lb.length) = false := by simp; omega
    have hx2 : ((la.length : Int) != lb.length) = true := by simp; omega
    have hne : decide (la = lb) = false := by simp; rintro rfl; exact hl rfl
    rw [hne]
    clear hne
    go_enter Tryd.func39, Tryd.ntmps39
    go_wp2
    go_ret
    exact ⟨rfl, Fr.refl _ _⟩
end Go.Proofs.YtkkejjfmidgciaaDoor
/- The walks of the comparisons of what is the same: numbers, pens, clips, states. -/
namespace Go.Proofs.YtkkejjfmidgciaaDoor
open Go.RowKit
set_option linter.unusedVariables false
set_option linter.unusedSimpArgs false
theorem infoI : (Tryd.prog.info? 3).map (fun i => (i.zero, i.size, i.bytes)) = some (some (.int .i64 0), 1, 8) := by kernel_rfl
theorem m6_eqIn (m : M6) (d : Nat) (w : World) : (Op.equalIn (d + 2) 33 (.agg #[.int .i64 m.a, .int .i64 m.b, .int .i64 m.c, .int .i64 m.d, .int .i64 m.e, .int .i64 m.f]) (.agg #[.int .i64 m.a, .int .i64 m.b, .int .i64 m.c, .int .i64 m.d, .int .i64 m.e, .int .i64 m.f])).run Tryd.prog w = .ok true w := by
  obtain ⟨i0, hi, hz0, hz1, hz2⟩ := info_parts infoI
  have e : true = (true && (true && (true && (true && (true && (true && true)))))) := rfl
  rw [run_equalIn_array (P := Tryd.prog) (w := w) (d + 1) _ _ Tryd.underlying33 hi, show Tryd.prog.cellsOf 3 = 1 by kernel_rfl, show List.range 6 = [0, 1, 2, 3, 4, 5] from rfl, e]
  clear e
  refine eqi_cons (by go_simp; rfl) (by go_simp; rfl) (by go_simp) ?_
  refine eqi_cons (by go_simp; rfl) (by go_simp; rfl) (by go_simp) ?_
  refine eqi_cons (by go_simp; rfl) (by go_simp; rfl) (by go_simp) ?_
  refine eqi_cons (by go_simp; rfl) (by go_simp; rfl) (by go_simp) ?_
  refine eqi_cons (by go_simp; rfl) (by go_simp; rfl) (by go_simp) ?_
  refine eqi_cons (by go_simp; rfl) (by go_simp; rfl) (by go_simp) ?_
  exact eqi_nil
theorem a4_eqIn (a b c k : Int) (d : Nat) (w : World) : (Op.equalIn (d + 2) 26 (.agg #[.int .i64 a, .int .i64 b, .int .i64 c, .int .i64 k]) (.agg #[.int .i64 a, .int .i64 b, .int .i64 c, .int .i64 k])).run Tryd.prog w = .ok true w := by
  obtain ⟨i0, hi, hz0, hz1, hz2⟩ := info_parts infoI
  have e : true = (true && (true && (true && (true && true)))) := rfl
  rw [run_equalIn_array (P := Tryd.prog) (w := w) (d + 1) _ _ Tryd.underlying26 hi, show Tryd.prog.cellsOf 3 = 1 by kernel_rfl, show List.range 4 = [0, 1, 2, 3] from rfl, e]
  clear e
  refine eqi_cons (by go_simp; rfl) (by go_simp; rfl) (by go_simp) ?_
  refine eqi_cons (by go_simp; rfl) (by go_simp; rfl) (by go_simp) ?_
  refine eqi_cons (by go_simp; rfl) (by go_simp; rfl) (by go_simp) ?_
  refine eqi_cons (by go_simp; rfl) (by go_simp; rfl) (by go_simp) ?_
  exact eqi_nil
theorem col_eqIn (c : Col) (d : Nat) (w : World) : (Op.equalIn (d + 3) 28 (.agg #[.int .i64 c.sp, .int .i64 c.p0, .int .i64 c.p1, .int .i64 c.p2, .int .i64 c.p3]) (.agg #[.int .i64 c.sp, .int .i64 c.p0, .int .i64 c.p1, .int .i64 c.p2, .int .i64 c.p3])).run Tryd.prog w = .ok true w := by
  have e : true = (true && (true && true)) := rfl
  rw [e]
  clear e
  refine eq_struct Tryd.underlying28 (by kernel_rfl) ?_
  refine eqf_cons (by rfl) (by go_simp; rfl) (by go_simp; rfl) (by go_simp) ?_
  refine eqf_cons (by rfl) (by go_simp) (by go_simp) (a4_eqIn c.p0 c.p1 c.p2 c.p3 d w) ?_
  exact eqf_nil
set_option maxHeartbeats 800000 in
theorem ints_same (va vb : Value) (l : List Int) (S T : Nat → Prop) (w : World) (ha : RowIn w S 1 va l.length (ints l)) (hb : RowIn w T 1 vb l.length (ints l)) :
    Calls Tryd.prog 101 #[va, vb] w fun e w' => e = .returned (.bool true) ∧ Fr Nob w w' := by
  by_cases h0 : l.length = 0
  · obtain rfl : l = [] := List.length_eq_zero_iff.1 h0
    obtain ⟨_, A, c, rfl, _⟩ := ha
    obtain ⟨_, A', c', rfl, _⟩ := hb
    go_enter Tryd.func101, Tryd.ntmps101
    go_wp2
    go_loopw [5] (fun q wr => q = .int .i64 0 ∧ wr = w) (fun _ _ => 0)
    case atStart => exact ⟨rfl, rfl⟩
    case round =>
      obtain ⟨rfl, rfl⟩ := hrel
      go_wp2
      go_ret
      exact ⟨rfl, Fr.refl _ _⟩
  · obtain ⟨ba, oa, ca, rfl, ha1, ha2, _, hA⟩ := ha.int (by omega)
    obtain ⟨bb, ob, cb, rfl, hb1, hb2, _, hB⟩ := hb.int (by omega)
    have HA := Lib.hid hA
    have HB := Lib.hid hB
    clear ha hb hA hB h0
    go_enter Tryd.func101, Tryd.ntmps101
    go_wp2
    go_loopw [5] (fun q wr => ∃ k n : Nat, k ≤ l.length ∧ q = .int .i64 k ∧ wr = w.drewN n) (fun q _ => l.length - (intOf q).toNat)
    case atStart => exact ⟨0, 0, by omega, rfl, rfl⟩
    case round =>
      obtain ⟨k, n, hk, rfl, rfl⟩ := hrel
      by_cases hlt : k < l.length
      · have a0 := HA.out k hlt
        have b0 := HB.out k hlt
        have i1 : (k : Int) < l.length := by omega
        generalize l[k] = x at *
        go_wp2
        go_quiet (fail)
        go_wp2
        go_roundw
        case rel => exact ⟨k + 1, _, by omega, by go_num, rfl⟩
        case measure => simp [intOf]; omega
      · have hge : l.length ≤ k := by omega
        go_wp2
        go_ret
        exact ⟨rfl, (Fr.refl Nob w).drewN _⟩
set_option maxHeartbeats 1600000 in
theorem clips_same (va vb : Value) (l : List Clp) (S T : Nat → Prop) (w : World) (ha : Clps w S va l) (hb : Clps w T vb l) :
    Calls Tryd.prog 58 #[va, vb] w fun e w' => e = .returned (.bool true) ∧ Fr Nob w w' := by
  obtain ⟨xa, hxa, hA⟩ := ha
  obtain ⟨xb, hxb, hB⟩ := hb
  have hla : xa.length = l.length := by rw [← hxa, List.length_map]
  have hlb : xb.length = l.length := by rw [← hxb, List.length_map]
  have hpa : ∀ k (hk : k < l.length) (hx : k < xa.length), xa[k].1 = l[k] := fun k hk hx => by simp [← hxa]
  have hpb : ∀ k (hk : k < l.length) (hx : k < xb.length), xb[k].1 = l[k] := fun k hk hx => by simp [← hxb]
  clear hxa hxb
  by_cases h0 : l.length = 0
  · obtain rfl : xa = [] := List.length_eq_zero_iff.1 (by omega)
    obtain rfl : xb = [] := List.length_eq_zero_iff.1 (by omega)
    obtain ⟨_, A, c, rfl, _⟩ := hA.1
    obtain ⟨_, A', c', rfl, _⟩ := hB.1
    clear hA hB hpa hpb hla hlb
    go_enter Tryd.func58, Tryd.ntmps58
    go_wp2
    go_loopw [5] (fun q wr => q = .int .i64 0 ∧ wr = w) (fun _ _ => 0)
    case atStart => exact ⟨rfl, rfl⟩
    case round =>
      obtain ⟨rfl, rfl⟩ := hrel
      go_wp2
      go_ret
      exact ⟨rfl, Fr.refl _ _⟩
  · obtain ⟨ba, oa, ca, rfl, ha1, ha2, _, hA1⟩ := hA.at (by omega)
    obtain ⟨bb, ob, cb, rfl, hb1, hb2, _, hB1⟩ := hB.at (by omega)
    have HLA := Lib.hid hla
    have HLB := Lib.hid hlb
    rw [hla] at ha1 ⊢
    rw [hlb] at hb1 ⊢
    have HA := Lib.hid hA
    have HB := Lib.hid hB
    have HA1 := Lib.hid hA1
    have HB1 := Lib.hid hB1
    have HPA := Lib.hid hpa
    have HPB := Lib.hid hpb
    clear hA hB hA1 hB1 h0 hpa hpb hla hlb
    go_enter Tryd.func58, Tryd.ntmps58
    go_wp2
    go_loopw [5] (fun q wr => ∃ k : Nat, k ≤ l.length ∧ q = .int .i64 k ∧ Hid (Fr Nob w wr)) (fun q _ => l.length - (intOf q).toNat)
    case atStart => exact ⟨0, by omega, rfl, Fr.refl _ _⟩
    case round =>
      obtain ⟨k, hk, rfl, HF⟩ := hrel
      by_cases hlt : k < l.length
      · have hka : k < xa.length := by rw [HLA.out]; exact hlt
        have hkb : k < xb.length := by rw [HLB.out]; exact hlt
        obtain ⟨a0, a1⟩ := HA1.out k hka
        obtain ⟨b0, b1⟩ := HB1.out k hkb
        replace a0 := cell_nob a0 HF.out
        replace a1 := cell_nob a1 HF.out
        replace b0 := cell_nob b0 HF.out
        replace b1 := cell_nob b1 HF.out
        have HRA := Lib.hid ((HA.out.2 _ (List.getElem_mem hka)).nob HF.out)
        have HRB := Lib.hid ((HB.out.2 _ (List.getElem_mem hkb)).nob HF.out)
        rw [HPA.out k hlt hka] at a1 HRA
        rw [HPB.out k hlt hkb] at b1 HRB
        generalize l[k] = x at *
        generalize (xa[k]).2 = pa at *
        generalize (xb[k]).2 = pb at *
        have i1 : (k : Int) < l.length := by omega
        have hc : ∀ w2, Fr Nob wr w2 → Calls Tryd.prog 39 #[pa, pb] w2 fun e w' => e = .returned (.bool true) ∧ Fr Nob w2 w' := fun w2 hw2 => by
          have := same_any pa pb x.path x.path _ _ w2 (HRA.out.nob hw2) (HRB.out.nob hw2)
          simpa using this
        have HC := Lib.hid hc
        clear hc
        generalize x.eo = eo at *
        have HS := Lib.hid (show ∀ w2, Fr Nob wr w2 → w2.cell? ⟨ba, oa + k * 2, none⟩ = some pa ∧ w2.cell? ⟨ba, oa + k * 2 + 1, none⟩ = some (.bool eo) ∧ w2.cell? ⟨bb, ob + k * 2, none⟩ = some pb ∧ w2.cell? ⟨bb, ob + k * 2 + 1, none⟩ = some (.bool eo) from
          fun w2 h2 => ⟨cell_nob a0 h2, cell_nob a1 h2, cell_nob b0 h2, cell_nob b1 h2⟩)
        go_wp2_with fail
        go_region_held3 (fun w2 => w2.cell? ⟨ba, oa + k * 2, none⟩ = some pa ∧ w2.cell? ⟨ba, oa + k * 2 + 1, none⟩ = some (.bool eo) ∧ w2.cell? ⟨bb, ob + k * 2, none⟩ = some pb ∧ w2.cell? ⟨bb, ob + k * 2 + 1, none⟩ = some (.bool eo))
          ((refine HS.out _ ?_; (repeat (first | exact Fr.refl _ _ | exact H1.out | refine Fr.alloc ?_ _ | refine Fr.drew ?_)); done))
          ((go_at_call 39
            refine (HC.out _ (by repeat (first | exact Fr.refl _ _ | refine Fr.drew ?_))).mono ?_
            rintro e w1 ⟨rfl, hf⟩
            have H1 := Lib.hid (show Fr Nob wr w1 from Fr.trans0 (by repeat (first | exact Fr.refl _ _ | refine Fr.drew ?_)) hf)
            clear hf))
        go_wp2
        go_roundw
        case rel => exact ⟨k + 1, by omega, by go_num, HF.out.trans0 H1.out⟩
        case measure => simp [intOf]; omega
      · have hge : l.length ≤ k := by omega
        go_wp2
        go_ret
        exact ⟨rfl, HF.out⟩
end Go.Proofs.YtkkejjfmidgciaaDoor
