/-
  Texts joined in build order: What a call (chapter 14) does to states: plain laws. No walk. The walk of call (chapter 14). Any call (chapter 14); states of one's own; what the laws are handed. GstateBalanced: plain laws; the first loop's round. More on regions that draw their order: an operation that is guarded and comes up alone. No program, no conditions. The walk of the law GstateBalanced.
-/
import Derived.Test.YtkkejjfmidgciaaDoorJBal5
import Derived.Deep.RegionHeld3
import Derived.Deep.CutBlock
import Derived.Deep.CutRange
/- What a call (chapter 14) does to states: plain laws. No walk. -/
namespace Go.Proofs.YtkkejjfmidgciaaDoor
open Go.RowKit
set_option linter.unusedVariables false
set_option linter.unusedSimpArgs false
/-- The bounds of a path. -/
structure PsB (p : PS) : Prop where
  m : 0 ≤ p.most ∧ p.most ≤ 1000
  l : p.list.length ≤ 1000
theorem PsB.pb {p : PS} (h : PsB p) : PB p := ⟨by have := h.m; omega, by have := h.m; omega, by have := h.l; omega⟩
theorem PsB.add {p : PS} (h : PsB p) (q : Pt) (m : List Sg) : PsB (addF p q m).2 := by
  unfold addF
  split
  · exact h
  · exact ⟨h.m, by have := h.m; simp only [List.length_append]; omega⟩
theorem PsB.draw {p : PS} (h : PsB p) (s : Sg) (a : Pt) : PsB (drawF p s a).2 := by
  unfold drawF
  repeat (first | exact h | exact h.add _ _ | split)
theorem PsB.line {p : PS} (h : PsB p) (a : Pt) : PsB (lineF p a).2 := by
  unfold lineF
  split
  · exact h.draw _ _
  · exact h
theorem PsB.move {p : PS} (h : PsB p) (a : Pt) : PsB (moveF p a).2 := by
  unfold moveF
  split
  · split
    · exact ⟨h.m, by have := h.l; simp only [List.length_set]; exact this⟩
    · split
      · exact h
      · exact ⟨h.m, by have := h.m; simp only [List.length_append, List.length_cons, List.length_nil]; omega⟩
  · exact h
/-- The bounds of a state. -/
structure StB (st : Gst) : Prop where
  d : st.dash.length ≤ 11
  c : st.clips.length ≤ 16
  p : ∀ c ∈ st.clips, c.path.length ≤ 1000
theorem StB.small {st : Gst} (h : StB st) : SmallG st := ⟨by have := h.d; omega, by have := h.c; omega, fun c hc => by have := h.p c hc; omega⟩
theorem StB.of {st st' : Gst} (h : StB st) (hd : st'.dash = st.dash) (hc : st'.clips = st.clips) : StB st' := ⟨by rw [hd]; exact h.d, by rw [hc]; exact h.c, by rw [hc]; exact h.p⟩
theorem StB.start : StB gStart := ⟨by simp [gStart], by simp [gStart], fun c hc => by cases hc⟩
theorem StB.dash {st : Gst} (h : StB st) (l : List Int) (ph : Int) : StB (dashF l ph st).2 := by
  unfold dashF
  split
  · split
    · exact h
    · split
      · exact h
      · exact ⟨by show l.length ≤ 11; omega, h.c, h.p⟩
  · exact h
theorem StB.clip {st : Gst} {p : PS} (h : StB st) (hp : PsB p) (eo : Bool) : StB (clipF eo p st).2 := by
  unfold clipF
  split
  · exact h
  · split
    · exact h.of rfl rfl
    · refine ⟨h.d, by simp only [List.length_append, List.length_cons, List.length_nil]; omega, fun c hc => ?_⟩
      rcases List.mem_append.1 hc with hc | hc
      · exact h.p c hc
      · rw [List.mem_singleton] at hc; subst hc; exact hp.l
/-- The bounds of states. -/
structure SB (k : Nat) (s : GS) : Prop where
  st : StB s.cur.st
  ps : PsB s.cur.p
  v : ∀ l ∈ s.saved, StB l.st ∧ PsB l.p
  n : s.saved.length ≤ k
  m : 0 ≤ s.most ∧ s.most ≤ 1000
  sg : 0 ≤ s.segs ∧ s.segs ≤ 1000
theorem SB.small {k : Nat} {s : GS} (h : SB k s) (hk : k ≤ 1000) : SmallS s := ⟨h.st.small, h.ps.pb, fun l hl => ⟨(h.v l hl).1.small, (h.v l hl).2.pb⟩, Nat.le_trans h.n hk, by have := h.m; omega⟩
theorem SB.le {k j : Nat} {s : GS} (h : SB k s) (hj : k ≤ j) : SB j s := ⟨h.st, h.ps, h.v, Nat.le_trans h.n hj, h.m, h.sg⟩
theorem SB.new (most segs : Int) (hm : 0 ≤ most ∧ most ≤ 1000) (hs : 0 ≤ segs ∧ segs ≤ 1000) : SB 0 (sNew most segs) := ⟨StB.start, ⟨hs, by simp [sNew]⟩, fun l hl => by simp [sNew] at hl, by simp [sNew], hm, hs⟩
/-- The state and the path that are. -/
def setF (s : GS) (r : Int × Gst) : Int × GS := (r.1, { s with cur := { s.cur with st := r.2 } })
def saveF (s : GS) : Int × GS := (if s.most ≤ s.saved.length then 9 else 0, if s.most ≤ s.saved.length then s else { s with saved := s.saved ++ [s.cur] })
def rectF (px py : Int) (p : PS) : PS := (lineF (moveF { p with list := [], start := oo, now := oo } ⟨px, py⟩).2 ⟨py, px⟩).2
def callF (a : Act14) (s : GS) : Int × GS :=
  if a.d = 1 then saveF s else if a.d = 2 then (0, restF s) else if a.d = 3 then (0, ralF s) else if a.d = 4 then (0, initF s)
  else if a.d = 5 then setF s (concatF a.m s.cur.st) else if a.d = 6 then setF s (matrixF a.m s.cur.st) else if a.d = 7 then setF s (fontF a.n a.m s.cur.st) else if a.d = 8 then setF s (colorF a.l s.cur.st)
  else if a.d = 9 then setF s (dashF a.l a.n s.cur.st) else if a.d = 10 then setF s (widthF a.n s.cur.st) else if a.d = 11 then setF s (capF a.n s.cur.st) else if a.d = 12 then setF s (joinF a.n s.cur.st)
  else if a.d = 13 then setF s (miterF a.n s.cur.st) else if a.d = 14 then setF s (clipF (a.n.tmod 2 == 0) s.cur.p s.cur.st) else if a.d = 15 then (0, { s with cur := { s.cur with st := { s.cur.st with clips := [], dark := false } } })
  else if a.d = 16 then (0, { s with cur := { s.cur with p := rectF a.px a.py s.cur.p } }) else (0, s)
/-- What a call does, case by case. -/
theorem callF_cases (a : Act14) (s : GS) (P : Int × GS → Prop) (h1 : a.d = 1 → P (saveF s)) (h2 : a.d = 2 → P ((0, restF s))) (h3 : a.d = 3 → P ((0, ralF s))) (h4 : a.d = 4 → P ((0, initF s))) (h5 : a.d = 5 → P (setF s (concatF a.m s.cur.st))) (h6 : a.d = 6 → P (setF s (matrixF a.m s.cur.st))) (h7 : a.d = 7 → P (setF s (fontF a.n a.m s.cur.st))) (h8 : a.d = 8 → P (setF s (colorF a.l s.cur.st))) (h9 : a.d = 9 → P (setF s (dashF a.l a.n s.cur.st))) (h10 : a.d = 10 → P (setF s (widthF a.n s.cur.st))) (h11 : a.d = 11 → P (setF s (capF a.n s.cur.st))) (h12 : a.d = 12 → P (setF s (joinF a.n s.cur.st))) (h13 : a.d = 13 → P (setF s (miterF a.n s.cur.st))) (h14 : a.d = 14 → P (setF s (clipF (a.n.tmod 2 == 0) s.cur.p s.cur.st))) (h15 : a.d = 15 → P ((0, { s with cur := { s.cur with st := { s.cur.st with clips := [], dark := false } } }))) (h16 : a.d = 16 → P ((0, { s with cur := { s.cur with p := rectF a.px a.py s.cur.p } }))) (h0 : (a.d < 1 ∨ 16 < a.d) → P (0, s)) : P (callF a s) := by
  unfold callF
  by_cases e1 : a.d = 1
  · rw [if_pos e1]; exact h1 e1
  rw [if_neg e1]
  by_cases e2 : a.d = 2
  · rw [if_pos e2]; exact h2 e2
  rw [if_neg e2]
  by_cases e3 : a.d = 3
  · rw [if_pos e3]; exact h3 e3
  rw [if_neg e3]
  by_cases e4 : a.d = 4
  · rw [if_pos e4]; exact h4 e4
  rw [if_neg e4]
  by_cases e5 : a.d = 5
  · rw [if_pos e5]; exact h5 e5
  rw [if_neg e5]
  by_cases e6 : a.d = 6
  · rw [if_pos e6]; exact h6 e6
  rw [if_neg e6]
  by_cases e7 : a.d = 7
  · rw [if_pos e7]; exact h7 e7
  rw [if_neg e7]
  by_cases e8 : a.d = 8
  · rw [if_pos e8]; exact h8 e8
  rw [if_neg e8]
  by_cases e9 : a.d = 9
  · rw [if_pos e9]; exact h9 e9
  rw [if_neg e9]
  by_cases e10 : a.d = 10
  · rw [if_pos e10]; exact h10 e10
  rw [if_neg e10]
  by_cases e11 : a.d = 11
  · rw [if_pos e11]; exact h11 e11
  rw [if_neg e11]
  by_cases e12 : a.d = 12
  · rw [if_pos e12]; exact h12 e12
  rw [if_neg e12]
  by_cases e13 : a.d = 13
  · rw [if_pos e13]; exact h13 e13
  rw [if_neg e13]
  by_cases e14 : a.d = 14
  · rw [if_pos e14]; exact h14 e14
  rw [if_neg e14]
  by_cases e15 : a.d = 15
  · rw [if_pos e15]; exact h15 e15
  rw [if_neg e15]
  by_cases e16 : a.d = 16
  · rw [if_pos e16]; exact h16 e16
  rw [if_neg e16]
  exact h0 (by omega)
theorem callF_1 (a : Act14) (s : GS) (h : a.d = 1) : callF a s = saveF s := by
  unfold callF
  rw [if_pos h]
theorem callF_2 (a : Act14) (s : GS) (h : a.d = 2) : callF a s = (0, restF s) := by
  unfold callF
  rw [if_neg (show ¬ a.d = 1 by omega), if_pos h]
theorem callF_3 (a : Act14) (s : GS) (h : a.d = 3) : callF a s = (0, ralF s) := by
  unfold callF
  rw [if_neg (show ¬ a.d = 1 by omega), if_neg (show ¬ a.d = 2 by omega), if_pos h]
theorem callF_4 (a : Act14) (s : GS) (h : a.d = 4) : callF a s = (0, initF s) := by
  unfold callF
  rw [if_neg (show ¬ a.d = 1 by omega), if_neg (show ¬ a.d = 2 by omega), if_neg (show ¬ a.d = 3 by omega), if_pos h]
theorem callF_5 (a : Act14) (s : GS) (h : a.d = 5) : callF a s = setF s (concatF a.m s.cur.st) := by
  unfold callF
  rw [if_neg (show ¬ a.d = 1 by omega), if_neg (show ¬ a.d = 2 by omega), if_neg (show ¬ a.d = 3 by omega), if_neg (show ¬ a.d = 4 by omega), if_pos h]
theorem callF_6 (a : Act14) (s : GS) (h : a.d = 6) : callF a s = setF s (matrixF a.m s.cur.st) := by
  unfold callF
  rw [if_neg (show ¬ a.d = 1 by omega), if_neg (show ¬ a.d = 2 by omega), if_neg (show ¬ a.d = 3 by omega), if_neg (show ¬ a.d = 4 by omega), if_neg (show ¬ a.d = 5 by omega), if_pos h]
theorem callF_7 (a : Act14) (s : GS) (h : a.d = 7) : callF a s = setF s (fontF a.n a.m s.cur.st) := by
  unfold callF
  rw [if_neg (show ¬ a.d = 1 by omega), if_neg (show ¬ a.d = 2 by omega), if_neg (show ¬ a.d = 3 by omega), if_neg (show ¬ a.d = 4 by omega), if_neg (show ¬ a.d = 5 by omega), if_neg (show ¬ a.d = 6 by omega), if_pos h]
theorem callF_8 (a : Act14) (s : GS) (h : a.d = 8) : callF a s = setF s (colorF a.l s.cur.st) := by
  unfold callF
  rw [if_neg (show ¬ a.d = 1 by omega), if_neg (show ¬ a.d = 2 by omega), if_neg (show ¬ a.d = 3 by omega), if_neg (show ¬ a.d = 4 by omega), if_neg (show ¬ a.d = 5 by omega), if_neg (show ¬ a.d = 6 by omega), if_neg (show ¬ a.d = 7 by omega), if_pos h]
theorem callF_9 (a : Act14) (s : GS) (h : a.d = 9) : callF a s = setF s (dashF a.l a.n s.cur.st) := by
  unfold callF
  rw [if_neg (show ¬ a.d = 1 by omega), if_neg (show ¬ a.d = 2 by omega), if_neg (show ¬ a.d = 3 by omega), if_neg (show ¬ a.d = 4 by omega), if_neg (show ¬ a.d = 5 by omega), if_neg (show ¬ a.d = 6 by omega), if_neg (show ¬ a.d = 7 by omega), if_neg (show ¬ a.d = 8 by omega), if_pos h]
theorem callF_10 (a : Act14) (s : GS) (h : a.d = 10) : callF a s = setF s (widthF a.n s.cur.st) := by
  unfold callF
  rw [if_neg (show ¬ a.d = 1 by omega), if_neg (show ¬ a.d = 2 by omega), if_neg (show ¬ a.d = 3 by omega), if_neg (show ¬ a.d = 4 by omega), if_neg (show ¬ a.d = 5 by omega), if_neg (show ¬ a.d = 6 by omega), if_neg (show ¬ a.d = 7 by omega), if_neg (show ¬ a.d = 8 by omega), if_neg (show ¬ a.d = 9 by omega), if_pos h]
theorem callF_11 (a : Act14) (s : GS) (h : a.d = 11) : callF a s = setF s (capF a.n s.cur.st) := by
  unfold callF
  rw [if_neg (show ¬ a.d = 1 by omega), if_neg (show ¬ a.d = 2 by omega), if_neg (show ¬ a.d = 3 by omega), if_neg (show ¬ a.d = 4 by omega), if_neg (show ¬ a.d = 5 by omega), if_neg (show ¬ a.d = 6 by omega), if_neg (show ¬ a.d = 7 by omega), if_neg (show ¬ a.d = 8 by omega), if_neg (show ¬ a.d = 9 by omega), if_neg (show ¬ a.d = 10 by omega), if_pos h]
theorem callF_12 (a : Act14) (s : GS) (h : a.d = 12) : callF a s = setF s (joinF a.n s.cur.st) := by
  unfold callF
  rw [if_neg (show ¬ a.d = 1 by omega), if_neg (show ¬ a.d = 2 by omega), if_neg (show ¬ a.d = 3 by omega), if_neg (show ¬ a.d = 4 by omega), if_neg (show ¬ a.d = 5 by omega), if_neg (show ¬ a.d = 6 by omega), if_neg (show ¬ a.d = 7 by omega), if_neg (show ¬ a.d = 8 by omega), if_neg (show ¬ a.d = 9 by omega), if_neg (show ¬ a.d = 10 by omega), if_neg (show ¬ a.d = 11 by omega), if_pos h]
theorem callF_13 (a : Act14) (s : GS) (h : a.d = 13) : callF a s = setF s (miterF a.n s.cur.st) := by
  unfold callF
  rw [if_neg (show ¬ a.d = 1 by omega), if_neg (show ¬ a.d = 2 by omega), if_neg (show ¬ a.d = 3 by omega), if_neg (show ¬ a.d = 4 by omega), if_neg (show ¬ a.d = 5 by omega), if_neg (show ¬ a.d = 6 by omega), if_neg (show ¬ a.d = 7 by omega), if_neg (show ¬ a.d = 8 by omega), if_neg (show ¬ a.d = 9 by omega), if_neg (show ¬ a.d = 10 by omega), if_neg (show ¬ a.d = 11 by omega), if_neg (show ¬ a.d = 12 by omega), if_pos h]
theorem callF_14 (a : Act14) (s : GS) (h : a.d = 14) : callF a s = setF s (clipF (a.n.tmod 2 == 0) s.cur.p s.cur.st) := by
  unfold callF
  rw [if_neg (show ¬ a.d = 1 by omega), if_neg (show ¬ a.d = 2 by omega), if_neg (show ¬ a.d = 3 by omega), if_neg (show ¬ a.d = 4 by omega), if_neg (show ¬ a.d = 5 by omega), if_neg (show ¬ a.d = 6 by omega), if_neg (show ¬ a.d = 7 by omega), if_neg (show ¬ a.d = 8 by omega), if_neg (show ¬ a.d = 9 by omega), if_neg (show ¬ a.d = 10 by omega), if_neg (show ¬ a.d = 11 by omega), if_neg (show ¬ a.d = 12 by omega), if_neg (show ¬ a.d = 13 by omega), if_pos h]
theorem callF_15 (a : Act14) (s : GS) (h : a.d = 15) : callF a s = (0, { s with cur := { s.cur with st := { s.cur.st with clips := [], dark := false } } }) := by
  unfold callF
  rw [if_neg (show ¬ a.d = 1 by omega), if_neg (show ¬ a.d = 2 by omega), if_neg (show ¬ a.d = 3 by omega), if_neg (show ¬ a.d = 4 by omega), if_neg (show ¬ a.d = 5 by omega), if_neg (show ¬ a.d = 6 by omega), if_neg (show ¬ a.d = 7 by omega), if_neg (show ¬ a.d = 8 by omega), if_neg (show ¬ a.d = 9 by omega), if_neg (show ¬ a.d = 10 by omega), if_neg (show ¬ a.d = 11 by omega), if_neg (show ¬ a.d = 12 by omega), if_neg (show ¬ a.d = 13 by omega), if_neg (show ¬ a.d = 14 by omega), if_pos h]
theorem callF_16 (a : Act14) (s : GS) (h : a.d = 16) : callF a s = (0, { s with cur := { s.cur with p := rectF a.px a.py s.cur.p } }) := by
  unfold callF
  rw [if_neg (show ¬ a.d = 1 by omega), if_neg (show ¬ a.d = 2 by omega), if_neg (show ¬ a.d = 3 by omega), if_neg (show ¬ a.d = 4 by omega), if_neg (show ¬ a.d = 5 by omega), if_neg (show ¬ a.d = 6 by omega), if_neg (show ¬ a.d = 7 by omega), if_neg (show ¬ a.d = 8 by omega), if_neg (show ¬ a.d = 9 by omega), if_neg (show ¬ a.d = 10 by omega), if_neg (show ¬ a.d = 11 by omega), if_neg (show ¬ a.d = 12 by omega), if_neg (show ¬ a.d = 13 by omega), if_neg (show ¬ a.d = 14 by omega), if_neg (show ¬ a.d = 15 by omega), if_pos h]
theorem callF_0 (a : Act14) (s : GS) (h : a.d < 1 ∨ 16 < a.d) : callF a s = (0, s) := by
  unfold callF
  rw [if_neg (show ¬ a.d = 1 by omega), if_neg (show ¬ a.d = 2 by omega), if_neg (show ¬ a.d = 3 by omega), if_neg (show ¬ a.d = 4 by omega), if_neg (show ¬ a.d = 5 by omega), if_neg (show ¬ a.d = 6 by omega), if_neg (show ¬ a.d = 7 by omega), if_neg (show ¬ a.d = 8 by omega), if_neg (show ¬ a.d = 9 by omega), if_neg (show ¬ a.d = 10 by omega), if_neg (show ¬ a.d = 11 by omega), if_neg (show ¬ a.d = 12 by omega), if_neg (show ¬ a.d = 13 by omega), if_neg (show ¬ a.d = 14 by omega), if_neg (show ¬ a.d = 15 by omega), if_neg (show ¬ a.d = 16 by omega)]
theorem SB.set {k : Nat} {s : GS} (h : SB k s) (r : Int × Gst) (hr : StB r.2) : SB k (setF s r).2 := ⟨hr, h.ps, h.v, h.n, h.m, h.sg⟩
theorem SB.save {k : Nat} {s : GS} (h : SB k s) : SB (k + 1) (saveF s).2 := by
  unfold saveF
  dsimp only
  split
  · exact h.le (by omega)
  · refine ⟨h.st, h.ps, fun l hl => ?_, by have := h.n; simp only [List.length_append, List.length_cons, List.length_nil]; omega, h.m, h.sg⟩
    rcases List.mem_append.1 hl with hl | hl
    · exact h.v l hl
    · rw [List.mem_singleton] at hl; subst hl; exact ⟨h.st, h.ps⟩
theorem SB.rest {k : Nat} {s : GS} (h : SB k s) : SB k (restF s) := by
  unfold restF
  split
  · have := h.v _ (List.getElem_mem (show s.saved.length - 1 < s.saved.length by omega))
    exact ⟨this.1, this.2, fun l hl => h.v l (List.mem_of_mem_take hl), by have := h.n; simp only [List.length_take]; omega, h.m, h.sg⟩
  · exact h
theorem SB.ral {k : Nat} {s : GS} (h : SB k s) : SB k (ralF s) := by
  unfold ralF
  split
  · next h0 =>
    have := h.v _ (List.getElem_mem h0)
    exact ⟨this.1, this.2, fun l hl => h.v l (List.mem_of_mem_take hl), by have := h.n; simp only [List.length_take]; omega, h.m, h.sg⟩
  · exact h
theorem SB.init {k : Nat} {s : GS} (h : SB k s) : SB k (initF s) := ⟨StB.start.of rfl rfl, ⟨h.sg, by simp [initF]⟩, h.v, h.n, h.m, h.sg⟩
theorem matrixF_same (m : M6) (st : Gst) : (matrixF m st).2.dash = st.dash ∧ (matrixF m st).2.clips = st.clips := by unfold matrixF; split <;> exact ⟨rfl, rfl⟩
theorem concatF_same (m : M6) (st : Gst) : (concatF m st).2.dash = st.dash ∧ (concatF m st).2.clips = st.clips := by unfold concatF; repeat (first | exact ⟨rfl, rfl⟩ | split)
theorem fontF_same (i : Int) (m : M6) (st : Gst) : (fontF i m st).2.dash = st.dash ∧ (fontF i m st).2.clips = st.clips := by unfold fontF; repeat (first | exact ⟨rfl, rfl⟩ | split)
theorem colorF_same (l : List Int) (st : Gst) : (colorF l st).2.dash = st.dash ∧ (colorF l st).2.clips = st.clips := by unfold colorF; repeat (first | exact ⟨rfl, rfl⟩ | split)
theorem widthF_same (n : Int) (st : Gst) : (widthF n st).2.dash = st.dash ∧ (widthF n st).2.clips = st.clips := by unfold widthF; split <;> exact ⟨rfl, rfl⟩
theorem miterF_same (n : Int) (st : Gst) : (miterF n st).2.dash = st.dash ∧ (miterF n st).2.clips = st.clips := by unfold miterF; split <;> exact ⟨rfl, rfl⟩
theorem capF_same (n : Int) (st : Gst) : (capF n st).2.dash = st.dash ∧ (capF n st).2.clips = st.clips := by unfold capF; dsimp only; split <;> exact ⟨rfl, rfl⟩
theorem joinF_same (n : Int) (st : Gst) : (joinF n st).2.dash = st.dash ∧ (joinF n st).2.clips = st.clips := by unfold joinF; dsimp only; split <;> exact ⟨rfl, rfl⟩
theorem PsB.rect {p : PS} (h : PsB p) (px py : Int) : PsB (rectF px py p) := ((show PsB { p with list := [], start := oo, now := oo } from ⟨h.m, by simp⟩).move _).line _
theorem SB.call {k : Nat} {s : GS} (h : SB k s) (a : Act14) : SB (k + 1) (callF a s).2 := by
  have h' : SB (k + 1) s := h.le (by omega)
  exact callF_cases a s (fun r => SB (k + 1) r.2) (fun _ => h.save) (fun _ => h'.rest) (fun _ => h'.ral) (fun _ => h'.init)
    (fun _ => h'.set _ (h.st.of (concatF_same _ _).1 (concatF_same _ _).2)) (fun _ => h'.set _ (h.st.of (matrixF_same _ _).1 (matrixF_same _ _).2)) (fun _ => h'.set _ (h.st.of (fontF_same _ _ _).1 (fontF_same _ _ _).2)) (fun _ => h'.set _ (h.st.of (colorF_same _ _).1 (colorF_same _ _).2))
    (fun _ => h'.set _ (h.st.dash _ _)) (fun _ => h'.set _ (h.st.of (widthF_same _ _).1 (widthF_same _ _).2)) (fun _ => h'.set _ (h.st.of (capF_same _ _).1 (capF_same _ _).2)) (fun _ => h'.set _ (h.st.of (joinF_same _ _).1 (joinF_same _ _).2)) (fun _ => h'.set _ (h.st.of (miterF_same _ _).1 (miterF_same _ _).2))
    (fun _ => h'.set _ (h.st.clip h.ps _)) (fun _ => ⟨⟨h.st.d, by simp, fun c hc => by simp at hc⟩, h.ps, h.v, by have := h.n; show s.saved.length ≤ k + 1; omega, h.m, h.sg⟩)
    (fun _ => ⟨h.st, h.ps.rect _ _, h.v, by have := h.n; show s.saved.length ≤ k + 1; omega, h.m, h.sg⟩) fun _ => h'
/-- What is saved, but for Save, Restore, RestoreAll. -/
theorem callF_saved (a : Act14) (s : GS) (h1 : ¬ a.d = 1) (h2 : ¬ a.d = 2) (h3 : ¬ a.d = 3) : (callF a s).2.saved = s.saved :=
  callF_cases a s (fun r => r.2.saved = s.saved) (fun e => (h1 e).elim) (fun e => (h2 e).elim) (fun e => (h3 e).elim) (fun _ => rfl) (fun _ => rfl) (fun _ => rfl) (fun _ => rfl) (fun _ => rfl) (fun _ => rfl) (fun _ => rfl) (fun _ => rfl) (fun _ => rfl) (fun _ => rfl) (fun _ => rfl) (fun _ => rfl) (fun _ => rfl) fun _ => rfl
theorem restF_most (s : GS) : (restF s).most = s.most := by unfold restF; split <;> rfl
theorem ralF_most (s : GS) : (ralF s).most = s.most := by unfold ralF; split <;> rfl
theorem saveF_most (s : GS) : (saveF s).2.most = s.most := by unfold saveF; dsimp only; split <;> rfl
theorem callF_most (a : Act14) (s : GS) : (callF a s).2.most = s.most :=
  callF_cases a s (fun r => r.2.most = s.most) (fun _ => saveF_most s) (fun _ => restF_most s) (fun _ => ralF_most s) (fun _ => rfl) (fun _ => rfl) (fun _ => rfl) (fun _ => rfl) (fun _ => rfl) (fun _ => rfl) (fun _ => rfl) (fun _ => rfl) (fun _ => rfl) (fun _ => rfl) (fun _ => rfl) (fun _ => rfl) (fun _ => rfl) fun _ => rfl
end Go.Proofs.YtkkejjfmidgciaaDoor
/- The walk of call (chapter 14). -/
namespace Go.Proofs.YtkkejjfmidgciaaDoor
open Go.RowKit
set_option linter.unusedVariables false
set_option linter.unusedSimpArgs false
theorem GsTo.after {w0 w w' : World} {g : Nat} {F : Nat → Prop} {s : GS} (h : GsTo w g F s w') (hf : Fr Nob w0 w) : GsTo w0 g F s w' :=
  ⟨h.1.mono fun k hk => hk.elim .inl fun hk => .inr ⟨Nat.le_trans hf.size hk.1, hk.2⟩, (hf.of0 (S := F)).again h.2⟩
theorem GsTo.trans {w w1 w2 : World} {g : Nat} {F : Nat → Prop} {s s' : GS} (h : GsTo w g F s w1) (k : GsTo w1 g (Ext F w w1) s' w2) : GsTo w g F s' w2 :=
  ⟨k.1.mono fun j hj => by
    rcases hj with (hj | hj) | hj
    · exact .inl hj
    · exact .inr ⟨hj.1, Nat.lt_of_lt_of_le hj.2 k.2.size⟩
    · exact .inr ⟨Nat.le_trans h.2.size hj.1, hj.2⟩, h.2.trans k.2 fun j hj => hj.elim .inl fun hj => .inr hj.1⟩
theorem GsTo.mono {w w' : World} {g : Nat} {F F' : Nat → Prop} {s : GS} (h : GsTo w g F s w') (hF : ∀ k, F k → F' k) : GsTo w g F' s w' := ⟨h.1.mono fun k hk => hk.elim (fun hk => .inl (hF k hk)) .inr, h.2.mono hF⟩
theorem Gs.lts {w : World} {g : Nat} {F : Nat → Prop} {s : GS} (h : Gs w g F s) : Gs w g (fun k => F k ∧ k < w.heap.size) s := by
  obtain ⟨lab, x, sv, xs, h⟩ := h
  exact ⟨lab, x, sv, xs, h.lab lab (fun k hk hl => ⟨hk, hl⟩) fun _ _ => rfl⟩
theorem gsave_F (g : Nat) (F : Nat → Prop) (s : GS) (w : World) (h : Gs w g F s) (hb : SmallS s) :
    Calls Tryd.prog 36 #[.pointer (some ⟨g, 0, none⟩)] w fun e w' => e = .returned (.int .i64 (saveF s).1) ∧ GsTo w g F (saveF s).2 w' := gsave_any g F s w h hb
theorem GsTo.nob {w w1 w2 : World} {g : Nat} {F : Nat → Prop} {s : GS} (h : GsTo w g F s w1) (hf : Fr Nob w1 w2) : GsTo w g F s w2 :=
  ⟨(h.1.nob hf).mono fun j hj => hj.elim .inl fun hj => .inr ⟨hj.1, Nat.lt_of_lt_of_le hj.2 hf.size⟩, h.2.trans0 hf⟩
set_option maxRecDepth 8000 in
set_option maxHeartbeats 6400000 in
theorem callg_1 (g : Nat) (F : Nat → Prop) (s : GS) (n : Int) (m : M6) (v : Value) (l : List Int) (px py : Int) (S : Nat → Prop) (w : World) (h : Gs w g F s) (hb : SB 900 s) (hN : NamesIn w) (hr : RowIn w S 1 v l.length (ints l)) (hl : l.length ≤ 100) : Calls Tryd.prog 31 #[.pointer (some ⟨g, 0, none⟩), actV 1 n m v px py] w fun e w' => e = .returned (.int .i64 (callF ⟨1, n, m, l, px, py⟩ s).1) ∧ GsTo w g F (callF ⟨1, n, m, l, px, py⟩ s).2 w' := by
  rw [callF_1 _ s rfl]
  obtain ⟨A, c, rfl, _⟩ := hr.form
  have hf : Fr Nob w (w.alloc (.cells #[.int .i64 1, .int .i64 n, .int .i64 m.a, .int .i64 m.b, .int .i64 m.c, .int .i64 m.d, .int .i64 m.e, .int .i64 m.f, .slice A l.length c, .int .i64 px, .int .i64 py] 76)) := (Fr.refl Nob w).alloc _
  have HF := Lib.hid hf
  have HR := Lib.hid (hr.nob hf)
  have HG := Lib.hid (h.nob hf)
  have HNM := Lib.hid (hN.nob hf)
  have HSB := Lib.hid hb
  have HB := Lib.hid (Blk.new w #[.int .i64 1, .int .i64 n, .int .i64 m.a, .int .i64 m.b, .int .i64 m.c, .int .i64 m.d, .int .i64 m.e, .int .i64 m.f, .slice A l.length c, .int .i64 px, .int .i64 py] 76)
  skip
  clear h hf hb hN hr
  unfold actV
  go_enter Tryd.func31, Tryd.ntmps31
  go_wp2_with fail
  refine (gsave_F g F s _ HG.out (HSB.out.small (by omega))).mono ?_
  rintro e w1 ⟨rfl, ht⟩
  have HT := Lib.hid (ht.after HF.out)
  clear ht
  go_wp2_with fail
  go_ret
  exact ⟨rfl, HT.out⟩
set_option maxRecDepth 8000 in
set_option maxHeartbeats 6400000 in
theorem callg_2 (g : Nat) (F : Nat → Prop) (s : GS) (n : Int) (m : M6) (v : Value) (l : List Int) (px py : Int) (S : Nat → Prop) (w : World) (h : Gs w g F s) (hb : SB 900 s) (hN : NamesIn w) (hr : RowIn w S 1 v l.length (ints l)) (hl : l.length ≤ 100) : Calls Tryd.prog 31 #[.pointer (some ⟨g, 0, none⟩), actV 2 n m v px py] w fun e w' => e = .returned (.int .i64 (callF ⟨2, n, m, l, px, py⟩ s).1) ∧ GsTo w g F (callF ⟨2, n, m, l, px, py⟩ s).2 w' := by
  rw [callF_2 _ s rfl]
  obtain ⟨A, c, rfl, _⟩ := hr.form
  have hf : Fr Nob w (w.alloc (.cells #[.int .i64 2, .int .i64 n, .int .i64 m.a, .int .i64 m.b, .int .i64 m.c, .int .i64 m.d, .int .i64 m.e, .int .i64 m.f, .slice A l.length c, .int .i64 px, .int .i64 py] 76)) := (Fr.refl Nob w).alloc _
  have HF := Lib.hid hf
  have HR := Lib.hid (hr.nob hf)
  have HG := Lib.hid (h.nob hf)
  have HNM := Lib.hid (hN.nob hf)
  have HSB := Lib.hid hb
  have HB := Lib.hid (Blk.new w #[.int .i64 2, .int .i64 n, .int .i64 m.a, .int .i64 m.b, .int .i64 m.c, .int .i64 m.d, .int .i64 m.e, .int .i64 m.f, .slice A l.length c, .int .i64 px, .int .i64 py] 76)
  skip
  clear h hf hb hN hr
  unfold actV
  go_enter Tryd.func31, Tryd.ntmps31
  go_wp2_with fail
  refine (grestore_any g F s _ HG.out (by have := HSB.out.n; omega)).mono ?_
  rintro e w1 ⟨rfl, ht⟩
  have HT := Lib.hid (ht.after HF.out)
  clear ht
  go_wp2_with fail
  go_ret
  exact ⟨rfl, HT.out⟩
set_option maxRecDepth 8000 in
set_option maxHeartbeats 6400000 in
theorem callg_3 (g : Nat) (F : Nat → Prop) (s : GS) (n : Int) (m : M6) (v : Value) (l : List Int) (px py : Int) (S : Nat → Prop) (w : World) (h : Gs w g F s) (hb : SB 900 s) (hN : NamesIn w) (hr : RowIn w S 1 v l.length (ints l)) (hl : l.length ≤ 100) : Calls Tryd.prog 31 #[.pointer (some ⟨g, 0, none⟩), actV 3 n m v px py] w fun e w' => e = .returned (.int .i64 (callF ⟨3, n, m, l, px, py⟩ s).1) ∧ GsTo w g F (callF ⟨3, n, m, l, px, py⟩ s).2 w' := by
  rw [callF_3 _ s rfl]
  obtain ⟨A, c, rfl, _⟩ := hr.form
  have hf : Fr Nob w (w.alloc (.cells #[.int .i64 3, .int .i64 n, .int .i64 m.a, .int .i64 m.b, .int .i64 m.c, .int .i64 m.d, .int .i64 m.e, .int .i64 m.f, .slice A l.length c, .int .i64 px, .int .i64 py] 76)) := (Fr.refl Nob w).alloc _
  have HF := Lib.hid hf
  have HR := Lib.hid (hr.nob hf)
  have HG := Lib.hid (h.nob hf)
  have HNM := Lib.hid (hN.nob hf)
  have HSB := Lib.hid hb
  have HB := Lib.hid (Blk.new w #[.int .i64 3, .int .i64 n, .int .i64 m.a, .int .i64 m.b, .int .i64 m.c, .int .i64 m.d, .int .i64 m.e, .int .i64 m.f, .slice A l.length c, .int .i64 px, .int .i64 py] 76)
  skip
  clear h hf hb hN hr
  unfold actV
  go_enter Tryd.func31, Tryd.ntmps31
  go_wp2_with fail
  refine (grestall_any g F s _ HG.out (HSB.out.small (by omega))).mono ?_
  rintro e w1 ⟨rfl, ht⟩
  have HT := Lib.hid (ht.after HF.out)
  clear ht
  go_wp2_with fail
  go_ret
  exact ⟨rfl, HT.out⟩
set_option maxRecDepth 8000 in
set_option maxHeartbeats 6400000 in
theorem callg_4 (g : Nat) (F : Nat → Prop) (s : GS) (n : Int) (m : M6) (v : Value) (l : List Int) (px py : Int) (S : Nat → Prop) (w : World) (h : Gs w g F s) (hb : SB 900 s) (hN : NamesIn w) (hr : RowIn w S 1 v l.length (ints l)) (hl : l.length ≤ 100) : Calls Tryd.prog 31 #[.pointer (some ⟨g, 0, none⟩), actV 4 n m v px py] w fun e w' => e = .returned (.int .i64 (callF ⟨4, n, m, l, px, py⟩ s).1) ∧ GsTo w g F (callF ⟨4, n, m, l, px, py⟩ s).2 w' := by
  rw [callF_4 _ s rfl]
  obtain ⟨A, c, rfl, _⟩ := hr.form
  have hf : Fr Nob w (w.alloc (.cells #[.int .i64 4, .int .i64 n, .int .i64 m.a, .int .i64 m.b, .int .i64 m.c, .int .i64 m.d, .int .i64 m.e, .int .i64 m.f, .slice A l.length c, .int .i64 px, .int .i64 py] 76)) := (Fr.refl Nob w).alloc _
  have HF := Lib.hid hf
  have HR := Lib.hid (hr.nob hf)
  have HG := Lib.hid (h.nob hf)
  have HNM := Lib.hid (hN.nob hf)
  have HSB := Lib.hid hb
  have HB := Lib.hid (Blk.new w #[.int .i64 4, .int .i64 n, .int .i64 m.a, .int .i64 m.b, .int .i64 m.c, .int .i64 m.d, .int .i64 m.e, .int .i64 m.f, .slice A l.length c, .int .i64 px, .int .i64 py] 76)
  skip
  clear h hf hb hN hr
  unfold actV
  go_enter Tryd.func31, Tryd.ntmps31
  go_wp2_with fail
  refine (ginit_any g F s _ HG.out).mono ?_
  rintro e w1 ⟨rfl, ht⟩
  have HT := Lib.hid (ht.after HF.out)
  clear ht
  go_wp2_with fail
  go_ret
  exact ⟨rfl, HT.out⟩
set_option maxRecDepth 8000 in
set_option maxHeartbeats 6400000 in
theorem callg_5 (g : Nat) (F : Nat → Prop) (s : GS) (n : Int) (m : M6) (v : Value) (l : List Int) (px py : Int) (S : Nat → Prop) (w : World) (h : Gs w g F s) (hb : SB 900 s) (hN : NamesIn w) (hr : RowIn w S 1 v l.length (ints l)) (hl : l.length ≤ 100) : Calls Tryd.prog 31 #[.pointer (some ⟨g, 0, none⟩), actV 5 n m v px py] w fun e w' => e = .returned (.int .i64 (callF ⟨5, n, m, l, px, py⟩ s).1) ∧ GsTo w g F (callF ⟨5, n, m, l, px, py⟩ s).2 w' := by
  rw [callF_5 _ s rfl]
  obtain ⟨A, c, rfl, _⟩ := hr.form
  have hf : Fr Nob w (w.alloc (.cells #[.int .i64 5, .int .i64 n, .int .i64 m.a, .int .i64 m.b, .int .i64 m.c, .int .i64 m.d, .int .i64 m.e, .int .i64 m.f, .slice A l.length c, .int .i64 px, .int .i64 py] 76)) := (Fr.refl Nob w).alloc _
  have HF := Lib.hid hf
  have HR := Lib.hid (hr.nob hf)
  have HG := Lib.hid (h.nob hf)
  have HNM := Lib.hid (hN.nob hf)
  have HSB := Lib.hid hb
  have HB := Lib.hid (Blk.new w #[.int .i64 5, .int .i64 n, .int .i64 m.a, .int .i64 m.b, .int .i64 m.c, .int .i64 m.d, .int .i64 m.e, .int .i64 m.f, .slice A l.length c, .int .i64 px, .int .i64 py] 76)
  skip
  clear h hf hb hN hr
  unfold actV
  go_enter Tryd.func31, Tryd.ntmps31
  go_wp2_with fail
  refine (gconcat_any g F s m _ HG.out).mono ?_
  rintro e w1 ⟨rfl, ht⟩
  have HT := Lib.hid (ht.after HF.out)
  clear ht
  go_wp2_with fail
  go_ret
  exact ⟨rfl, HT.out⟩
set_option maxRecDepth 8000 in
set_option maxHeartbeats 6400000 in
theorem callg_6 (g : Nat) (F : Nat → Prop) (s : GS) (n : Int) (m : M6) (v : Value) (l : List Int) (px py : Int) (S : Nat → Prop) (w : World) (h : Gs w g F s) (hb : SB 900 s) (hN : NamesIn w) (hr : RowIn w S 1 v l.length (ints l)) (hl : l.length ≤ 100) : Calls Tryd.prog 31 #[.pointer (some ⟨g, 0, none⟩), actV 6 n m v px py] w fun e w' => e = .returned (.int .i64 (callF ⟨6, n, m, l, px, py⟩ s).1) ∧ GsTo w g F (callF ⟨6, n, m, l, px, py⟩ s).2 w' := by
  rw [callF_6 _ s rfl]
  obtain ⟨A, c, rfl, _⟩ := hr.form
  have hf : Fr Nob w (w.alloc (.cells #[.int .i64 6, .int .i64 n, .int .i64 m.a, .int .i64 m.b, .int .i64 m.c, .int .i64 m.d, .int .i64 m.e, .int .i64 m.f, .slice A l.length c, .int .i64 px, .int .i64 py] 76)) := (Fr.refl Nob w).alloc _
  have HF := Lib.hid hf
  have HR := Lib.hid (hr.nob hf)
  have HG := Lib.hid (h.nob hf)
  have HNM := Lib.hid (hN.nob hf)
  have HSB := Lib.hid hb
  have HB := Lib.hid (Blk.new w #[.int .i64 6, .int .i64 n, .int .i64 m.a, .int .i64 m.b, .int .i64 m.c, .int .i64 m.d, .int .i64 m.e, .int .i64 m.f, .slice A l.length c, .int .i64 px, .int .i64 py] 76)
  skip
  clear h hf hb hN hr
  unfold actV
  go_enter Tryd.func31, Tryd.ntmps31
  go_wp2_with fail
  refine (gmatrix_any g F s m _ HG.out).mono ?_
  rintro e w1 ⟨rfl, ht⟩
  have HT := Lib.hid (ht.after HF.out)
  clear ht
  go_wp2_with fail
  go_ret
  exact ⟨rfl, HT.out⟩
set_option maxRecDepth 8000 in
set_option maxHeartbeats 6400000 in
theorem callg_7 (g : Nat) (F : Nat → Prop) (s : GS) (n : Int) (m : M6) (v : Value) (l : List Int) (px py : Int) (S : Nat → Prop) (w : World) (h : Gs w g F s) (hb : SB 900 s) (hN : NamesIn w) (hr : RowIn w S 1 v l.length (ints l)) (hl : l.length ≤ 100) : Calls Tryd.prog 31 #[.pointer (some ⟨g, 0, none⟩), actV 7 n m v px py] w fun e w' => e = .returned (.int .i64 (callF ⟨7, n, m, l, px, py⟩ s).1) ∧ GsTo w g F (callF ⟨7, n, m, l, px, py⟩ s).2 w' := by
  rw [callF_7 _ s rfl]
  obtain ⟨A, c, rfl, _⟩ := hr.form
  have hf : Fr Nob w (w.alloc (.cells #[.int .i64 7, .int .i64 n, .int .i64 m.a, .int .i64 m.b, .int .i64 m.c, .int .i64 m.d, .int .i64 m.e, .int .i64 m.f, .slice A l.length c, .int .i64 px, .int .i64 py] 76)) := (Fr.refl Nob w).alloc _
  have HF := Lib.hid hf
  have HR := Lib.hid (hr.nob hf)
  have HG := Lib.hid (h.nob hf)
  have HNM := Lib.hid (hN.nob hf)
  have HSB := Lib.hid hb
  have HB := Lib.hid (Blk.new w #[.int .i64 7, .int .i64 n, .int .i64 m.a, .int .i64 m.b, .int .i64 m.c, .int .i64 m.d, .int .i64 m.e, .int .i64 m.f, .slice A l.length c, .int .i64 px, .int .i64 py] 76)
  skip
  clear h hf hb hN hr
  unfold actV
  go_enter Tryd.func31, Tryd.ntmps31
  go_wp2_with fail
  refine (gfont_any g F s n m _ HG.out HNM.out).mono ?_
  rintro e w1 ⟨rfl, ht⟩
  have HT := Lib.hid (ht.after HF.out)
  clear ht
  go_wp2_with fail
  go_ret
  exact ⟨rfl, HT.out⟩
set_option maxRecDepth 8000 in
set_option maxHeartbeats 6400000 in
theorem callg_8 (g : Nat) (F : Nat → Prop) (s : GS) (n : Int) (m : M6) (v : Value) (l : List Int) (px py : Int) (S : Nat → Prop) (w : World) (h : Gs w g F s) (hb : SB 900 s) (hN : NamesIn w) (hr : RowIn w S 1 v l.length (ints l)) (hl : l.length ≤ 100) : Calls Tryd.prog 31 #[.pointer (some ⟨g, 0, none⟩), actV 8 n m v px py] w fun e w' => e = .returned (.int .i64 (callF ⟨8, n, m, l, px, py⟩ s).1) ∧ GsTo w g F (callF ⟨8, n, m, l, px, py⟩ s).2 w' := by
  rw [callF_8 _ s rfl]
  obtain ⟨A, c, rfl, _⟩ := hr.form
  have hf : Fr Nob w (w.alloc (.cells #[.int .i64 8, .int .i64 n, .int .i64 m.a, .int .i64 m.b, .int .i64 m.c, .int .i64 m.d, .int .i64 m.e, .int .i64 m.f, .slice A l.length c, .int .i64 px, .int .i64 py] 76)) := (Fr.refl Nob w).alloc _
  have HF := Lib.hid hf
  have HR := Lib.hid (hr.nob hf)
  have HG := Lib.hid (h.nob hf)
  have HNM := Lib.hid (hN.nob hf)
  have HSB := Lib.hid hb
  have HB := Lib.hid (Blk.new w #[.int .i64 8, .int .i64 n, .int .i64 m.a, .int .i64 m.b, .int .i64 m.c, .int .i64 m.d, .int .i64 m.e, .int .i64 m.f, .slice A l.length c, .int .i64 px, .int .i64 py] 76)
  skip
  clear h hf hb hN hr
  unfold actV
  go_enter Tryd.func31, Tryd.ntmps31
  go_upto_region 17 with (fail)
  generalize w.alloc (.cells #[.int .i64 8, .int .i64 n, .int .i64 m.a, .int .i64 m.b, .int .i64 m.c, .int .i64 m.d, .int .i64 m.e, .int .i64 m.f, .slice A l.length c, .int .i64 px, .int .i64 py] 76) = wa at *
  obtain ⟨i0, hi, hz0, hz1, hz2⟩ := info_parts infoInt
  have c8 : wa.cell? ⟨w.heap.size, 8, none⟩ = some (.slice A l.length c) := HB.out.cell 8
  have HE := Lib.hid (show OwnS (wa.alloc (.cells #[] 3)) 3 1 (.slice (some ⟨wa.heap.size, 0, none⟩) 0 0) 0 [] from OwnS.empty (Blk.new wa _ _))
  have HR2 := Lib.hid (HR.out.nob ((Fr.refl Nob wa).alloc (.cells #[] 3)))
  have hlt : w.heap.size < wa.heap.size := HB.out.lt
  go_wp2_with (at_builtin; refine wpList_app _ rfl _ _ 30 rfl 3 i0 _ 1 8 Tryd.underlying30 hi hz0 hz1 hz2 rfl (by decide) _ 0 [] rfl HE.out S _ l.length (ints l) rfl HR2.out (ints_one l) (by unfold maxLen; omega) (by omega) ?_)
  intro v' w1 hown hfr hat _
  have HF1 := Lib.hid (show Fr Nob wa w1 from ((Fr.refl Nob wa).alloc (.cells #[] 3)).trans hfr fun k hk => .inr (by simp [inB, Value.ownBlock] at hk; omega))
  have HRN := Lib.hid (show RowIn w1 (inB v') 1 v' l.length (ints l) by simpa using hown.row)
  obtain ⟨A1, c1, rfl, _⟩ := HRN.out.form
  clear hown hfr hat
  go_wp2_with fail
  refine (gcolor_any g F s _ l _ _ (HG.out.nob HF1.out) HRN.out).mono ?_
  rintro e w2 ⟨rfl, ht⟩
  have HT := Lib.hid (ht.after (HF.out.trans0 HF1.out))
  clear ht
  go_wp2_with fail
  go_ret
  exact ⟨rfl, HT.out⟩
set_option maxRecDepth 8000 in
set_option maxHeartbeats 6400000 in
theorem callg_9' (g : Nat) (F : Nat → Prop) (s : GS) (n : Int) (m : M6) (v : Value) (l : List Int) (px py : Int) (S : Nat → Prop) (w : World) (h : Gs w g F s) (hb : SB 900 s) (hN : NamesIn w) (hr : RowIn w S 1 v l.length (ints l)) (hl : l.length ≤ 100) (hNB : ∀ j, F j → j = w.heap.size → False) : Calls Tryd.prog 31 #[.pointer (some ⟨g, 0, none⟩), actV 9 n m v px py] w fun e w' => e = .returned (.int .i64 (callF ⟨9, n, m, l, px, py⟩ s).1) ∧ GsTo w g F (callF ⟨9, n, m, l, px, py⟩ s).2 w' := by
  rw [callF_9 _ s rfl]
  obtain ⟨A, c, rfl, _⟩ := hr.form
  have hf : Fr Nob w (w.alloc (.cells #[.int .i64 9, .int .i64 n, .int .i64 m.a, .int .i64 m.b, .int .i64 m.c, .int .i64 m.d, .int .i64 m.e, .int .i64 m.f, .slice A l.length c, .int .i64 px, .int .i64 py] 76)) := (Fr.refl Nob w).alloc _
  have HF := Lib.hid hf
  have HR := Lib.hid (hr.nob hf)
  have HG := Lib.hid (h.nob hf)
  have HNM := Lib.hid (hN.nob hf)
  have HSB := Lib.hid hb
  have HB := Lib.hid (Blk.new w #[.int .i64 9, .int .i64 n, .int .i64 m.a, .int .i64 m.b, .int .i64 m.c, .int .i64 m.d, .int .i64 m.e, .int .i64 m.f, .slice A l.length c, .int .i64 px, .int .i64 py] 76)
  have HNB := Lib.hid hNB
  clear h hf hb hN hr hNB
  unfold actV
  go_enter Tryd.func31, Tryd.ntmps31
  have HNF := Lib.hid (show ∀ j, F j → j = w.heap.size → False from HNB.out)
  go_upto_region 19 with (fail)
  generalize w.alloc (.cells #[.int .i64 9, .int .i64 n, .int .i64 m.a, .int .i64 m.b, .int .i64 m.c, .int .i64 m.d, .int .i64 m.e, .int .i64 m.f, .slice A l.length c, .int .i64 px, .int .i64 py] 76) = wa at *
  obtain ⟨i0, hi, hz0, hz1, hz2⟩ := info_parts infoInt
  replace hi := Lib.hid hi
  replace hz0 := Lib.hid hz0
  replace hz1 := Lib.hid hz1
  replace hz2 := Lib.hid hz2
  have HS := Lib.hid (show ∀ w', Fr F wa w' → (fun w' => w'.cell? ⟨w.heap.size, 1, none⟩ = some (.int .i64 n) ∧ w'.cell? ⟨w.heap.size, 8, none⟩ = some (.slice A l.length c)) w' from fun w' hw' => by
    have hb := HB.out.fr hw' (fun hh => HNF.out _ hh rfl)
    exact ⟨hb.cell 1, hb.cell 8⟩)
  have HE := Lib.hid (show OwnS (wa.drew.alloc (.cells #[] 3)) 3 1 (.slice (some ⟨wa.heap.size, 0, none⟩) 0 0) 0 [] from OwnS.empty (Blk.new wa.drew _ _))
  have HR2 := Lib.hid (HR.out.nob ((Fr.refl Nob wa).drew.alloc (.cells #[] 3)))
  go_wp2_with fail
  refine wp_region_last' (ops := _) (o := _) (l := _) 8 rfl rfl rfl (fun w' => w'.cell? ⟨w.heap.size, 1, none⟩ = some (.int .i64 n) ∧ w'.cell? ⟨w.heap.size, 8, none⟩ = some (.slice A l.length c)) (by kernel_rfl) (by kernel_rfl) (HS.out _ (Fr.refl F wa).drew) fun hH => ?_
  simp only [List.take_succ_cons, List.take_zero]
  refine wpAnyH_take (i := 0) (v := ?va1) rfl (by kernel_rfl) (by kernel_rfl) (by kernel_rfl) (fun _ _ _ h => h) (Or.inl ⟨by rfl, ?ha1⟩) hH ?ra1
  case ha1 => (intro w hSw; (try dsimp only at hSw); clear hSw; go_simp; (try with_reducible rfl))
  simp only [Act.put, List.getElem_toArray, List.getElem_cons_succ, List.getElem_cons_zero, List.setIfInBounds_toArray, List.set_cons_zero, List.set_cons_succ]
  refine wpAnyH_take (i := 2) (v := ?va2) rfl (by kernel_rfl) (by kernel_rfl) (by kernel_rfl) (fun _ _ _ h => h) (Or.inl ⟨by rfl, ?ha2⟩) hH ?ra2
  case ha2 => (intro w hSw; (try dsimp only at hSw); clear hSw; go_simp; (try with_reducible rfl))
  simp only [Act.put, List.getElem_toArray, List.getElem_cons_succ, List.getElem_cons_zero, List.setIfInBounds_toArray, List.set_cons_zero, List.set_cons_succ]
  refine wpAnyH_take (i := 3) (v := ?va3) rfl (by kernel_rfl) (by kernel_rfl) (by kernel_rfl) (fun _ _ _ h => h) (Or.inl ⟨by rfl, ?ha3⟩) hH ?ra3
  case ha3 => (intro w hSw; (try dsimp only at hSw); obtain ⟨_, hSw⟩ := hSw; go_simp; (try with_reducible rfl))
  simp only [Act.put, List.getElem_toArray, List.getElem_cons_succ, List.getElem_cons_zero, List.setIfInBounds_toArray, List.set_cons_zero, List.set_cons_succ]
  refine wpAnyH_take (i := 5) (v := ?va4) rfl (by kernel_rfl) (by kernel_rfl) (by kernel_rfl) (fun _ _ _ h => h) (Or.inl ⟨by rfl, ?ha4⟩) hH ?ra4
  case ha4 => (intro w hSw; (try dsimp only at hSw); clear hSw; go_simp; (try with_reducible rfl))
  simp only [Act.put, List.getElem_toArray, List.getElem_cons_succ, List.getElem_cons_zero, List.setIfInBounds_toArray, List.set_cons_zero, List.set_cons_succ]
  refine wpAnyH_take (i := 6) (v := ?va5) rfl (by kernel_rfl) (by kernel_rfl) (by kernel_rfl) (fun _ _ _ h => h) (Or.inl ⟨by rfl, ?ha5⟩) hH ?ra5
  case ha5 => (intro w hSw; (try dsimp only at hSw); obtain ⟨hSw, _⟩ := hSw; go_simp; (try with_reducible rfl))
  simp only [Act.put, List.getElem_toArray, List.getElem_cons_succ, List.getElem_cons_zero, List.setIfInBounds_toArray, List.set_cons_zero, List.set_cons_succ]
  refine held_one 1 rfl (by kernel_rfl) rfl fun K hK => ?_
  replace hK := Lib.hid hK
  clear hH
  go_simp
  have hH := HS.out (wa.drew.alloc (.cells #[] 3)) ((Fr.refl F wa).drew.alloc _)
  refine hK.out _ _ hH ?_
  clear hK K
  refine held_one 4 rfl (by kernel_rfl) rfl fun K hK => ?_
  replace hK := Lib.hid hK
  clear hH
  refine wp_app (.tmp 54) (.tmp 56) 30 rfl 3 i0 _ 1 8 Tryd.underlying30 hi.out hz0.out hz1.out hz2.out rfl (by decide) _ 0 [] (by rfl) HE.out S _ l.length (ints l) (by rfl) HR2.out (ints_one l) (by unfold maxLen; omega) (by omega) ?_
  intro v' w1 hown hfr hat hno
  have HF1 := Lib.hid (show Fr Nob wa w1 from ((Fr.refl Nob wa).drew.alloc (.cells #[] 3)).trans hfr fun k hk => .inr (by simp [inB, Value.ownBlock] at hk; omega))
  have HN1 := Lib.hid (show RowIn w1 (inB v') 1 v' l.length (ints l) by simpa using hown.row)
  obtain ⟨A1, c1, hv', _⟩ := HN1.out.form
  subst hv'
  clear hown hfr hat hno
  have hH := HS.out w1 HF1.out.of0
  refine hK.out _ _ hH ?_
  simp only [Act.put, List.getElem_toArray, List.getElem_cons_succ, List.getElem_cons_zero, List.setIfInBounds_toArray, List.set_cons_zero, List.set_cons_succ]
  clear hK K
  refine held_one 7 rfl (by kernel_rfl) rfl fun K hK => ?_
  replace hK := Lib.hid hK
  clear hH
  go_simp
  refine (gdash_any g F s _ l n _ _ (HG.out.nob HF1.out) HN1.out (by omega)).mono ?_
  rintro e w2 ⟨rfl, ht⟩
  have HT := Lib.hid (ht.after (HF.out.trans0 HF1.out))
  have HFQ := Lib.hid (show Fr F wa w2 from (HF1.out.of0).again ht.2)
  clear ht
  dsimp only
  have hH := HS.out w2 HFQ.out
  refine hK.out _ _ hH ?_
  clear hK K
  refine wpAnyH_done (by kernel_rfl) ?_ _
  clear hH
  simp only [LastQ, List.getElem_cons_succ, List.getElem_cons_zero]
  go_simp
  go_wp2_with fail
  go_ret
  exact ⟨rfl, HT.out⟩
theorem callg_9 (g : Nat) (F : Nat → Prop) (s : GS) (n : Int) (m : M6) (v : Value) (l : List Int) (px py : Int) (S : Nat → Prop) (w : World) (h : Gs w g F s) (hb : SB 900 s) (hN : NamesIn w) (hr : RowIn w S 1 v l.length (ints l)) (hl : l.length ≤ 100) : Calls Tryd.prog 31 #[.pointer (some ⟨g, 0, none⟩), actV 9 n m v px py] w fun e w' => e = .returned (.int .i64 (callF ⟨9, n, m, l, px, py⟩ s).1) ∧ GsTo w g F (callF ⟨9, n, m, l, px, py⟩ s).2 w' := by
  refine (callg_9' g (fun k => F k ∧ k < w.heap.size) s n m v l px py S w h.lts hb hN hr hl fun j hj e => by have := hj.2; omega).mono ?_
  rintro e w' ⟨rfl, ht⟩
  exact ⟨rfl, ht.mono fun k hk => hk.1⟩
set_option maxRecDepth 8000 in
set_option maxHeartbeats 6400000 in
theorem callg_10 (g : Nat) (F : Nat → Prop) (s : GS) (n : Int) (m : M6) (v : Value) (l : List Int) (px py : Int) (S : Nat → Prop) (w : World) (h : Gs w g F s) (hb : SB 900 s) (hN : NamesIn w) (hr : RowIn w S 1 v l.length (ints l)) (hl : l.length ≤ 100) : Calls Tryd.prog 31 #[.pointer (some ⟨g, 0, none⟩), actV 10 n m v px py] w fun e w' => e = .returned (.int .i64 (callF ⟨10, n, m, l, px, py⟩ s).1) ∧ GsTo w g F (callF ⟨10, n, m, l, px, py⟩ s).2 w' := by
  rw [callF_10 _ s rfl]
  obtain ⟨A, c, rfl, _⟩ := hr.form
  have hf : Fr Nob w (w.alloc (.cells #[.int .i64 10, .int .i64 n, .int .i64 m.a, .int .i64 m.b, .int .i64 m.c, .int .i64 m.d, .int .i64 m.e, .int .i64 m.f, .slice A l.length c, .int .i64 px, .int .i64 py] 76)) := (Fr.refl Nob w).alloc _
  have HF := Lib.hid hf
  have HR := Lib.hid (hr.nob hf)
  have HG := Lib.hid (h.nob hf)
  have HNM := Lib.hid (hN.nob hf)
  have HSB := Lib.hid hb
  have HB := Lib.hid (Blk.new w #[.int .i64 10, .int .i64 n, .int .i64 m.a, .int .i64 m.b, .int .i64 m.c, .int .i64 m.d, .int .i64 m.e, .int .i64 m.f, .slice A l.length c, .int .i64 px, .int .i64 py] 76)
  skip
  clear h hf hb hN hr
  unfold actV
  go_enter Tryd.func31, Tryd.ntmps31
  go_wp2_with fail
  refine (gwidth_any g F s n _ HG.out).mono ?_
  rintro e w1 ⟨rfl, ht⟩
  have HT := Lib.hid (ht.after HF.out)
  clear ht
  go_wp2_with fail
  go_ret
  exact ⟨rfl, HT.out⟩
set_option maxRecDepth 8000 in
set_option maxHeartbeats 6400000 in
theorem callg_11 (g : Nat) (F : Nat → Prop) (s : GS) (n : Int) (m : M6) (v : Value) (l : List Int) (px py : Int) (S : Nat → Prop) (w : World) (h : Gs w g F s) (hb : SB 900 s) (hN : NamesIn w) (hr : RowIn w S 1 v l.length (ints l)) (hl : l.length ≤ 100) : Calls Tryd.prog 31 #[.pointer (some ⟨g, 0, none⟩), actV 11 n m v px py] w fun e w' => e = .returned (.int .i64 (callF ⟨11, n, m, l, px, py⟩ s).1) ∧ GsTo w g F (callF ⟨11, n, m, l, px, py⟩ s).2 w' := by
  rw [callF_11 _ s rfl]
  obtain ⟨A, c, rfl, _⟩ := hr.form
  have hf : Fr Nob w (w.alloc (.cells #[.int .i64 11, .int .i64 n, .int .i64 m.a, .int .i64 m.b, .int .i64 m.c, .int .i64 m.d, .int .i64 m.e, .int .i64 m.f, .slice A l.length c, .int .i64 px, .int .i64 py] 76)) := (Fr.refl Nob w).alloc _
  have HF := Lib.hid hf
  have HR := Lib.hid (hr.nob hf)
  have HG := Lib.hid (h.nob hf)
  have HNM := Lib.hid (hN.nob hf)
  have HSB := Lib.hid hb
  have HB := Lib.hid (Blk.new w #[.int .i64 11, .int .i64 n, .int .i64 m.a, .int .i64 m.b, .int .i64 m.c, .int .i64 m.d, .int .i64 m.e, .int .i64 m.f, .slice A l.length c, .int .i64 px, .int .i64 py] 76)
  skip
  clear h hf hb hN hr
  unfold actV
  go_enter Tryd.func31, Tryd.ntmps31
  go_wp2_with fail
  refine (gcap_any g F s n _ HG.out).mono ?_
  rintro e w1 ⟨rfl, ht⟩
  have HT := Lib.hid (ht.after HF.out)
  clear ht
  go_wp2_with fail
  go_ret
  exact ⟨rfl, HT.out⟩
set_option maxRecDepth 8000 in
set_option maxHeartbeats 6400000 in
theorem callg_12 (g : Nat) (F : Nat → Prop) (s : GS) (n : Int) (m : M6) (v : Value) (l : List Int) (px py : Int) (S : Nat → Prop) (w : World) (h : Gs w g F s) (hb : SB 900 s) (hN : NamesIn w) (hr : RowIn w S 1 v l.length (ints l)) (hl : l.length ≤ 100) : Calls Tryd.prog 31 #[.pointer (some ⟨g, 0, none⟩), actV 12 n m v px py] w fun e w' => e = .returned (.int .i64 (callF ⟨12, n, m, l, px, py⟩ s).1) ∧ GsTo w g F (callF ⟨12, n, m, l, px, py⟩ s).2 w' := by
  rw [callF_12 _ s rfl]
  obtain ⟨A, c, rfl, _⟩ := hr.form
  have hf : Fr Nob w (w.alloc (.cells #[.int .i64 12, .int .i64 n, .int .i64 m.a, .int .i64 m.b, .int .i64 m.c, .int .i64 m.d, .int .i64 m.e, .int .i64 m.f, .slice A l.length c, .int .i64 px, .int .i64 py] 76)) := (Fr.refl Nob w).alloc _
  have HF := Lib.hid hf
  have HR := Lib.hid (hr.nob hf)
  have HG := Lib.hid (h.nob hf)
  have HNM := Lib.hid (hN.nob hf)
  have HSB := Lib.hid hb
  have HB := Lib.hid (Blk.new w #[.int .i64 12, .int .i64 n, .int .i64 m.a, .int .i64 m.b, .int .i64 m.c, .int .i64 m.d, .int .i64 m.e, .int .i64 m.f, .slice A l.length c, .int .i64 px, .int .i64 py] 76)
  skip
  clear h hf hb hN hr
  unfold actV
  go_enter Tryd.func31, Tryd.ntmps31
  go_wp2_with fail
  refine (gjoin_any g F s n _ HG.out).mono ?_
  rintro e w1 ⟨rfl, ht⟩
  have HT := Lib.hid (ht.after HF.out)
  clear ht
  go_wp2_with fail
  go_ret
  exact ⟨rfl, HT.out⟩
set_option maxRecDepth 8000 in
set_option maxHeartbeats 6400000 in
theorem callg_13 (g : Nat) (F : Nat → Prop) (s : GS) (n : Int) (m : M6) (v : Value) (l : List Int) (px py : Int) (S : Nat → Prop) (w : World) (h : Gs w g F s) (hb : SB 900 s) (hN : NamesIn w) (hr : RowIn w S 1 v l.length (ints l)) (hl : l.length ≤ 100) : Calls Tryd.prog 31 #[.pointer (some ⟨g, 0, none⟩), actV 13 n m v px py] w fun e w' => e = .returned (.int .i64 (callF ⟨13, n, m, l, px, py⟩ s).1) ∧ GsTo w g F (callF ⟨13, n, m, l, px, py⟩ s).2 w' := by
  rw [callF_13 _ s rfl]
  obtain ⟨A, c, rfl, _⟩ := hr.form
  have hf : Fr Nob w (w.alloc (.cells #[.int .i64 13, .int .i64 n, .int .i64 m.a, .int .i64 m.b, .int .i64 m.c, .int .i64 m.d, .int .i64 m.e, .int .i64 m.f, .slice A l.length c, .int .i64 px, .int .i64 py] 76)) := (Fr.refl Nob w).alloc _
  have HF := Lib.hid hf
  have HR := Lib.hid (hr.nob hf)
  have HG := Lib.hid (h.nob hf)
  have HNM := Lib.hid (hN.nob hf)
  have HSB := Lib.hid hb
  have HB := Lib.hid (Blk.new w #[.int .i64 13, .int .i64 n, .int .i64 m.a, .int .i64 m.b, .int .i64 m.c, .int .i64 m.d, .int .i64 m.e, .int .i64 m.f, .slice A l.length c, .int .i64 px, .int .i64 py] 76)
  skip
  clear h hf hb hN hr
  unfold actV
  go_enter Tryd.func31, Tryd.ntmps31
  go_wp2_with fail
  refine (gmiter_any g F s n _ HG.out).mono ?_
  rintro e w1 ⟨rfl, ht⟩
  have HT := Lib.hid (ht.after HF.out)
  clear ht
  go_wp2_with fail
  go_ret
  exact ⟨rfl, HT.out⟩
set_option maxRecDepth 8000 in
set_option maxHeartbeats 6400000 in
theorem callg_14 (g : Nat) (F : Nat → Prop) (s : GS) (n : Int) (m : M6) (v : Value) (l : List Int) (px py : Int) (S : Nat → Prop) (w : World) (h : Gs w g F s) (hb : SB 900 s) (hN : NamesIn w) (hr : RowIn w S 1 v l.length (ints l)) (hl : l.length ≤ 100) : Calls Tryd.prog 31 #[.pointer (some ⟨g, 0, none⟩), actV 14 n m v px py] w fun e w' => e = .returned (.int .i64 (callF ⟨14, n, m, l, px, py⟩ s).1) ∧ GsTo w g F (callF ⟨14, n, m, l, px, py⟩ s).2 w' := by
  rw [callF_14 _ s rfl]
  obtain ⟨A, c, rfl, _⟩ := hr.form
  have hf : Fr Nob w (w.alloc (.cells #[.int .i64 14, .int .i64 n, .int .i64 m.a, .int .i64 m.b, .int .i64 m.c, .int .i64 m.d, .int .i64 m.e, .int .i64 m.f, .slice A l.length c, .int .i64 px, .int .i64 py] 76)) := (Fr.refl Nob w).alloc _
  have HF := Lib.hid hf
  have HR := Lib.hid (hr.nob hf)
  have HG := Lib.hid (h.nob hf)
  have HNM := Lib.hid (hN.nob hf)
  have HSB := Lib.hid hb
  have HB := Lib.hid (Blk.new w #[.int .i64 14, .int .i64 n, .int .i64 m.a, .int .i64 m.b, .int .i64 m.c, .int .i64 m.d, .int .i64 m.e, .int .i64 m.f, .slice A l.length c, .int .i64 px, .int .i64 py] 76)
  skip
  clear h hf hb hN hr
  unfold actV
  go_enter Tryd.func31, Tryd.ntmps31
  go_wp2_with fail
  refine (gclip_any g F s _ _ HG.out HSB.out.st.small HSB.out.ps.pb).mono ?_
  rintro e w1 ⟨rfl, ht⟩
  have HT := Lib.hid (ht.after HF.out)
  clear ht
  go_wp2_with fail
  go_ret
  exact ⟨rfl, HT.out⟩
set_option maxRecDepth 8000 in
set_option maxHeartbeats 6400000 in
theorem callg_15 (g : Nat) (F : Nat → Prop) (s : GS) (n : Int) (m : M6) (v : Value) (l : List Int) (px py : Int) (S : Nat → Prop) (w : World) (h : Gs w g F s) (hb : SB 900 s) (hN : NamesIn w) (hr : RowIn w S 1 v l.length (ints l)) (hl : l.length ≤ 100) : Calls Tryd.prog 31 #[.pointer (some ⟨g, 0, none⟩), actV 15 n m v px py] w fun e w' => e = .returned (.int .i64 (callF ⟨15, n, m, l, px, py⟩ s).1) ∧ GsTo w g F (callF ⟨15, n, m, l, px, py⟩ s).2 w' := by
  rw [callF_15 _ s rfl]
  obtain ⟨A, c, rfl, _⟩ := hr.form
  have hf : Fr Nob w (w.alloc (.cells #[.int .i64 15, .int .i64 n, .int .i64 m.a, .int .i64 m.b, .int .i64 m.c, .int .i64 m.d, .int .i64 m.e, .int .i64 m.f, .slice A l.length c, .int .i64 px, .int .i64 py] 76)) := (Fr.refl Nob w).alloc _
  have HF := Lib.hid hf
  have HR := Lib.hid (hr.nob hf)
  have HG := Lib.hid (h.nob hf)
  have HNM := Lib.hid (hN.nob hf)
  have HSB := Lib.hid hb
  have HB := Lib.hid (Blk.new w #[.int .i64 15, .int .i64 n, .int .i64 m.a, .int .i64 m.b, .int .i64 m.c, .int .i64 m.d, .int .i64 m.e, .int .i64 m.f, .slice A l.length c, .int .i64 px, .int .i64 py] 76)
  skip
  clear h hf hb hN hr
  unfold actV
  go_enter Tryd.func31, Tryd.ntmps31
  go_wp2_with fail
  refine (gunclip_any g F s _ HG.out).mono ?_
  rintro e w1 ⟨rfl, ht⟩
  have HT := Lib.hid (ht.after HF.out)
  clear ht
  go_wp2_with fail
  go_ret
  exact ⟨rfl, HT.out⟩
set_option maxRecDepth 8000 in
set_option maxHeartbeats 6400000 in
theorem callg_16' (g : Nat) (F : Nat → Prop) (s : GS) (n : Int) (m : M6) (v : Value) (l : List Int) (px py : Int) (S : Nat → Prop) (w : World) (h : Gs w g F s) (hb : SB 900 s) (hN : NamesIn w) (hr : RowIn w S 1 v l.length (ints l)) (hl : l.length ≤ 100) (hNB : ∀ j, F j → j = w.heap.size → False) : Calls Tryd.prog 31 #[.pointer (some ⟨g, 0, none⟩), actV 16 n m v px py] w fun e w' => e = .returned (.int .i64 (callF ⟨16, n, m, l, px, py⟩ s).1) ∧ GsTo w g F (callF ⟨16, n, m, l, px, py⟩ s).2 w' := by
  rw [callF_16 _ s rfl]
  obtain ⟨A, c, rfl, _⟩ := hr.form
  have hf : Fr Nob w (w.alloc (.cells #[.int .i64 16, .int .i64 n, .int .i64 m.a, .int .i64 m.b, .int .i64 m.c, .int .i64 m.d, .int .i64 m.e, .int .i64 m.f, .slice A l.length c, .int .i64 px, .int .i64 py] 76)) := (Fr.refl Nob w).alloc _
  have HF := Lib.hid hf
  have HR := Lib.hid (hr.nob hf)
  have HG := Lib.hid (h.nob hf)
  have HNM := Lib.hid (hN.nob hf)
  have HSB := Lib.hid hb
  have HB := Lib.hid (Blk.new w #[.int .i64 16, .int .i64 n, .int .i64 m.a, .int .i64 m.b, .int .i64 m.c, .int .i64 m.d, .int .i64 m.e, .int .i64 m.f, .slice A l.length c, .int .i64 px, .int .i64 py] 76)
  have HNB := Lib.hid hNB
  clear h hf hb hN hr hNB
  unfold actV
  go_enter Tryd.func31, Tryd.ntmps31
  have HLT := Lib.hid HB.out.lt
  have HNBW := Lib.hid (show ∀ w1 j, Ext F (w.alloc (.cells #[.int .i64 16, .int .i64 n, .int .i64 m.a, .int .i64 m.b, .int .i64 m.c, .int .i64 m.d, .int .i64 m.e, .int .i64 m.f, .slice A l.length c, .int .i64 px, .int .i64 py] 76)) w1 j → j = w.heap.size → False from fun w1 j hj e => hj.elim (fun hj => HNB.out j hj e) fun hj => by have := hj.1; have := HLT.out; omega)
  go_upto_region 33 with (fail)
  generalize w.alloc (.cells #[.int .i64 16, .int .i64 n, .int .i64 m.a, .int .i64 m.b, .int .i64 m.c, .int .i64 m.d, .int .i64 m.e, .int .i64 m.f, .slice A l.length c, .int .i64 px, .int .i64 py] 76) = wa at *
  obtain ⟨lab, x, sv, xs, hx⟩ := HG.out
  have HX := Lib.hid hx
  clear hx
  go_wp2_with fail
  refine (gpath_any g F s _ lab x sv xs HX.out).mono ?_
  rintro e w1 ⟨rfl, rfl⟩
  go_wp2_with fail
  refine (clear_any x.pg x.pv s.cur.p _ HX.out.c.p).mono ?_
  rintro e w2 ⟨rfl, ht⟩
  have T1 := Lib.hid (HX.out.path _ ht)
  clear ht
  obtain ⟨s1, hs1⟩ : ∃ s1 : GS, s1 = { s with cur := { s.cur with p := { s.cur.p with list := [], start := oo, now := oo } } } := ⟨_, rfl⟩
  rw [← hs1] at T1
  have HS1 := Lib.hid hs1
  have HP1 := Lib.hid (show PsB s1.cur.p by rw [hs1]; exact ⟨HSB.out.ps.m, by simp⟩)
  clear hs1
  have BX1 := Lib.hid (HB.out.fr T1.out.2 fun hh => HNB.out _ hh rfl)
  obtain ⟨lab1, x1, sv1, xs1, hx1⟩ := T1.out.1
  have HX1 := Lib.hid hx1
  have HQ1 := Lib.hid (show ∀ w', Fr Nob w2 w' → (fun w' => w'.cell? ⟨w.heap.size, 9, none⟩ = some (.int .i64 px) ∧ w'.cell? ⟨w.heap.size, 10, none⟩ = some (.int .i64 py)) w' from fun w' hw' => ⟨(BX1.out.nob hw').cell 9, (BX1.out.nob hw').cell 10⟩)
  clear hx1
  go_wp2_with fail
  refine wp_region_last' (ops := _) (o := _) (l := _) 4 rfl rfl rfl (fun w' => w'.cell? ⟨w.heap.size, 9, none⟩ = some (.int .i64 px) ∧ w'.cell? ⟨w.heap.size, 10, none⟩ = some (.int .i64 py)) (by kernel_rfl) (by kernel_rfl) (HQ1.out _ (Fr.refl Nob w2).drew) fun hH => ?_
  simp only [List.take_succ_cons, List.take_zero]
  refine wpAnyH_take (i := 0) (v := ?va1) rfl (by kernel_rfl) (by kernel_rfl) (by kernel_rfl) (fun _ _ _ h => h) (Or.inl ⟨by rfl, ?ha1⟩) hH ?ra1
  case ha1 => (intro w hSw; (try dsimp only at hSw); clear hSw; go_simp; (try with_reducible rfl))
  simp only [Act.put, List.getElem_toArray, List.getElem_cons_succ, List.getElem_cons_zero, List.setIfInBounds_toArray, List.set_cons_zero, List.set_cons_succ]
  refine wpAnyH_take (i := 2) (v := ?va2) rfl (by kernel_rfl) (by kernel_rfl) (by kernel_rfl) (fun _ _ _ h => h) (Or.inl ⟨by rfl, ?ha2⟩) hH ?ra2
  case ha2 => (intro w hSw; (try dsimp only at hSw); clear hSw; go_simp; (try with_reducible rfl))
  simp only [Act.put, List.getElem_toArray, List.getElem_cons_succ, List.getElem_cons_zero, List.setIfInBounds_toArray, List.set_cons_zero, List.set_cons_succ]
  refine wpAnyH_take (i := 3) (v := ?va3) rfl (by kernel_rfl) (by kernel_rfl) (by kernel_rfl) (fun _ _ _ h => h) (Or.inl ⟨by rfl, ?ha3⟩) hH ?ra3
  case ha3 => (intro w hSw; (try dsimp only at hSw); obtain ⟨h9, h10⟩ := hSw; go_simp; (try with_reducible rfl))
  simp only [Act.put, List.getElem_toArray, List.getElem_cons_succ, List.getElem_cons_zero, List.setIfInBounds_toArray, List.set_cons_zero, List.set_cons_succ]
  refine held_one 1 rfl (by kernel_rfl) rfl fun K hK => ?_
  replace hK := Lib.hid hK
  clear hH
  go_simp
  refine (gpath_any g _ s1 _ lab1 x1 sv1 xs1 (HX1.out.nob (T := Nob) (by repeat (first | exact Fr.refl _ _ | refine Fr.alloc ?_ _ | refine Fr.drew ?_ | refine Fr.drewN ?_ _)) fun _ _ hh => hh)).mono ?_
  rintro e w9 ⟨rfl, rfl⟩
  dsimp only
  have hH := HQ1.out w2.drew (Fr.refl Nob w2).drew
  refine hK.out _ _ hH ?_
  clear hK K
  refine wpAnyH_done (by kernel_rfl) ?_ _
  clear hH
  simp only [LastQ, List.getElem_cons_succ, List.getElem_cons_zero]
  go_simp
  refine (move_any x1.pg x1.pv s1.cur.p ⟨px, py⟩ _ (HX1.out.c.p.nob (by repeat (first | exact Fr.refl _ _ | refine Fr.drew ?_))) HP1.out.pb).mono ?_
  rintro e w3 ⟨rfl, ht⟩
  have T2 := Lib.hid (((HX1.out.nob (T := Nob) (show Fr Nob w2 w2.drew from (Fr.refl Nob w2).drew) fun _ _ hh => hh).path _ ht).after (Fr.refl Nob w2).drew)
  clear ht
  obtain ⟨s2, hs2⟩ : ∃ s2 : GS, s2 = { s1 with cur := { s1.cur with p := (moveF s1.cur.p ⟨px, py⟩).2 } } := ⟨_, rfl⟩
  rw [← hs2] at T2
  have HS2 := Lib.hid hs2
  have HP2 := Lib.hid (show PsB s2.cur.p by rw [hs2]; exact HP1.out.move _)
  clear hs2
  have BX2 := Lib.hid (BX1.out.fr T2.out.2 fun hh => HNBW.out _ _ hh rfl)
  obtain ⟨lab2, x2, sv2, xs2, hx2⟩ := T2.out.1
  have HX2 := Lib.hid hx2
  have HQ2 := Lib.hid (show ∀ w', Fr Nob w3 w' → (fun w' => w'.cell? ⟨w.heap.size, 9, none⟩ = some (.int .i64 px) ∧ w'.cell? ⟨w.heap.size, 10, none⟩ = some (.int .i64 py)) w' from fun w' hw' => ⟨(BX2.out.nob hw').cell 9, (BX2.out.nob hw').cell 10⟩)
  clear hx2
  generalize (moveF s1.cur.p ⟨px, py⟩).1 = e1 at *
  go_wp2_with fail
  refine wp_region_last' (ops := _) (o := _) (l := _) 9 rfl rfl rfl (fun w' => w'.cell? ⟨w.heap.size, 9, none⟩ = some (.int .i64 px) ∧ w'.cell? ⟨w.heap.size, 10, none⟩ = some (.int .i64 py)) (by kernel_rfl) (by kernel_rfl) (HQ2.out _ (Fr.refl Nob w3).drew) fun hH => ?_
  simp only [List.take_succ_cons, List.take_zero]
  refine wpAnyH_take (i := 0) (v := ?vb1) rfl (by kernel_rfl) (by kernel_rfl) (by kernel_rfl) (fun _ _ _ h => h) (Or.inl ⟨by rfl, ?hb1⟩) hH ?rb1
  case hb1 => (intro w hSw; (try dsimp only at hSw); clear hSw; go_simp; (try with_reducible rfl))
  simp only [Act.put, List.getElem_toArray, List.getElem_cons_succ, List.getElem_cons_zero, List.setIfInBounds_toArray, List.set_cons_zero, List.set_cons_succ]
  refine wpAnyH_take (i := 2) (v := ?vb2) rfl (by kernel_rfl) (by kernel_rfl) (by kernel_rfl) (fun _ _ _ h => h) (Or.inl ⟨by rfl, ?hb2⟩) hH ?rb2
  case hb2 => (intro w hSw; (try dsimp only at hSw); clear hSw; go_simp; (try with_reducible rfl))
  simp only [Act.put, List.getElem_toArray, List.getElem_cons_succ, List.getElem_cons_zero, List.setIfInBounds_toArray, List.set_cons_zero, List.set_cons_succ]
  refine wpAnyH_take (i := 3) (v := ?vb3) rfl (by kernel_rfl) (by kernel_rfl) (by kernel_rfl) (fun _ _ _ h => h) (Or.inl ⟨by rfl, ?hb3⟩) hH ?rb3
  case hb3 => (intro w hSw; (try dsimp only at hSw); clear hSw; go_simp; (try with_reducible rfl))
  simp only [Act.put, List.getElem_toArray, List.getElem_cons_succ, List.getElem_cons_zero, List.setIfInBounds_toArray, List.set_cons_zero, List.set_cons_succ]
  refine wpAnyH_take (i := 4) (v := ?vb4) rfl (by kernel_rfl) (by kernel_rfl) (by kernel_rfl) (fun _ _ _ h => h) (Or.inl ⟨by rfl, ?hb4⟩) hH ?rb4
  case hb4 => (intro w hSw; (try dsimp only at hSw); obtain ⟨h9, h10⟩ := hSw; go_simp; (try with_reducible rfl))
  simp only [Act.put, List.getElem_toArray, List.getElem_cons_succ, List.getElem_cons_zero, List.setIfInBounds_toArray, List.set_cons_zero, List.set_cons_succ]
  refine wpAnyH_take (i := 5) (v := ?vb5) rfl (by kernel_rfl) (by kernel_rfl) (by kernel_rfl) (fun _ _ _ h => h) (Or.inl ⟨by rfl, ?hb5⟩) hH ?rb5
  case hb5 => (intro w hSw; (try dsimp only at hSw); clear hSw; go_simp; (try with_reducible rfl))
  simp only [Act.put, List.getElem_toArray, List.getElem_cons_succ, List.getElem_cons_zero, List.setIfInBounds_toArray, List.set_cons_zero, List.set_cons_succ]
  refine wpAnyH_take (i := 6) (v := ?vb6) rfl (by kernel_rfl) (by kernel_rfl) (by kernel_rfl) (fun _ _ _ h => h) (Or.inl ⟨by rfl, ?hb6⟩) hH ?rb6
  case hb6 => (intro w hSw; (try dsimp only at hSw); clear hSw; go_simp; (try with_reducible rfl))
  simp only [Act.put, List.getElem_toArray, List.getElem_cons_succ, List.getElem_cons_zero, List.setIfInBounds_toArray, List.set_cons_zero, List.set_cons_succ]
  refine wpAnyH_take (i := 7) (v := ?vb7) rfl (by kernel_rfl) (by kernel_rfl) (by kernel_rfl) (fun _ _ _ h => h) (Or.inl ⟨by rfl, ?hb7⟩) hH ?rb7
  case hb7 => (intro w hSw; (try dsimp only at hSw); obtain ⟨h9, h10⟩ := hSw; go_simp; (try with_reducible rfl))
  simp only [Act.put, List.getElem_toArray, List.getElem_cons_succ, List.getElem_cons_zero, List.setIfInBounds_toArray, List.set_cons_zero, List.set_cons_succ]
  refine wpAnyH_take (i := 8) (v := ?vb8) rfl (by kernel_rfl) (by kernel_rfl) (by kernel_rfl) (fun _ _ _ h => h) (Or.inl ⟨by rfl, ?hb8⟩) hH ?rb8
  case hb8 => (intro w hSw; (try dsimp only at hSw); clear hSw; go_simp; (try with_reducible rfl))
  simp only [Act.put, List.getElem_toArray, List.getElem_cons_succ, List.getElem_cons_zero, List.setIfInBounds_toArray, List.set_cons_zero, List.set_cons_succ]
  refine held_one 1 rfl (by kernel_rfl) rfl fun K hK => ?_
  replace hK := Lib.hid hK
  clear hH
  go_simp
  refine (gpath_any g _ s2 _ lab2 x2 sv2 xs2 (HX2.out.nob (T := Nob) (by repeat (first | exact Fr.refl _ _ | refine Fr.alloc ?_ _ | refine Fr.drew ?_ | refine Fr.drewN ?_ _)) fun _ _ hh => hh)).mono ?_
  rintro e w9 ⟨rfl, rfl⟩
  dsimp only
  have hH := HQ2.out w3.drew (Fr.refl Nob w3).drew
  refine hK.out _ _ hH ?_
  clear hK K
  refine wpAnyH_done (by kernel_rfl) ?_ _
  clear hH
  simp only [LastQ, List.getElem_cons_succ, List.getElem_cons_zero]
  go_simp
  refine (line_any x2.pg x2.pv s2.cur.p ⟨py, px⟩ _ (HX2.out.c.p.nob (by repeat (first | exact Fr.refl _ _ | refine Fr.drew ?_))) HP2.out.pb).mono ?_
  rintro e w4 ⟨rfl, ht⟩
  have T3 := Lib.hid (((HX2.out.nob (T := Nob) (show Fr Nob w3 w3.drew from (Fr.refl Nob w3).drew) fun _ _ hh => hh).path _ ht).after (Fr.refl Nob w3).drew)
  clear ht
  generalize (lineF s2.cur.p ⟨py, px⟩).1 = e2 at *
  go_wp2_with fail
  go_ret
  refine ⟨rfl, ?_⟩
  have h1 := HS1.out
  have h2 := HS2.out
  subst h1
  subst h2
  exact (T1.out.trans (T2.out.trans T3.out)).after HF.out
theorem callg_16 (g : Nat) (F : Nat → Prop) (s : GS) (n : Int) (m : M6) (v : Value) (l : List Int) (px py : Int) (S : Nat → Prop) (w : World) (h : Gs w g F s) (hb : SB 900 s) (hN : NamesIn w) (hr : RowIn w S 1 v l.length (ints l)) (hl : l.length ≤ 100) : Calls Tryd.prog 31 #[.pointer (some ⟨g, 0, none⟩), actV 16 n m v px py] w fun e w' => e = .returned (.int .i64 (callF ⟨16, n, m, l, px, py⟩ s).1) ∧ GsTo w g F (callF ⟨16, n, m, l, px, py⟩ s).2 w' := by
  refine (callg_16' g (fun k => F k ∧ k < w.heap.size) s n m v l px py S w h.lts hb hN hr hl fun j hj e => by have := hj.2; omega).mono ?_
  rintro e w' ⟨rfl, ht⟩
  exact ⟨rfl, ht.mono fun k hk => hk.1⟩
end Go.Proofs.YtkkejjfmidgciaaDoor
/- Any call (chapter 14); states of one's own; what the laws are handed. -/
namespace Go.Proofs.YtkkejjfmidgciaaDoor
open Go.RowKit
set_option linter.unusedVariables false
set_option linter.unusedSimpArgs false
theorem callg_0 (d : Int) (g : Nat) (F : Nat → Prop) (s : GS) (n : Int) (m : M6) (v : Value) (l : List Int) (px py : Int) (S : Nat → Prop) (w : World) (h : Gs w g F s) (hr : RowIn w S 1 v l.length (ints l)) (hd : d < 1 ∨ 16 < d) :
    Calls Tryd.prog 31 #[.pointer (some ⟨g, 0, none⟩), actV d n m v px py] w fun e w' => e = .returned (.int .i64 0) ∧ GsTo w g F s w' := by
  obtain ⟨A, c, rfl, _⟩ := hr.form
  have HF := Lib.hid ((Fr.refl Nob w).alloc (.cells #[.int .i64 d, .int .i64 n, .int .i64 m.a, .int .i64 m.b, .int .i64 m.c, .int .i64 m.d, .int .i64 m.e, .int .i64 m.f, .slice A l.length c, .int .i64 px, .int .i64 py] 76))
  have HG := Lib.hid h
  have n1 : ¬ d = 1 := by omega
  have n2 : ¬ d = 2 := by omega
  have n3 : ¬ d = 3 := by omega
  have n4 : ¬ d = 4 := by omega
  have n5 : ¬ d = 5 := by omega
  have n6 : ¬ d = 6 := by omega
  have n7 : ¬ d = 7 := by omega
  have n8 : ¬ d = 8 := by omega
  have n9 : ¬ d = 9 := by omega
  have n10 : ¬ d = 10 := by omega
  have n11 : ¬ d = 11 := by omega
  have n12 : ¬ d = 12 := by omega
  have n13 : ¬ d = 13 := by omega
  have n14 : ¬ d = 14 := by omega
  have n15 : ¬ d = 15 := by omega
  have n16 : ¬ d = 16 := by omega
  clear h hr hd
  unfold actV
  go_enter Tryd.func31, Tryd.ntmps31
  go_wp2_with fail
  go_ret
  exact ⟨rfl, GsTo.same HG.out HF.out⟩
theorem callg_any (g : Nat) (F : Nat → Prop) (s : GS) (a : Act14) (v : Value) (S : Nat → Prop) (w : World) (h : Gs w g F s) (hb : SB 900 s) (hN : NamesIn w) (hr : RowIn w S 1 v a.l.length (ints a.l)) (hl : a.l.length ≤ 100) :
    Calls Tryd.prog 31 #[.pointer (some ⟨g, 0, none⟩), actV a.d a.n a.m v a.px a.py] w fun e w' => e = .returned (.int .i64 (callF a s).1) ∧ GsTo w g F (callF a s).2 w' := by
  obtain ⟨d, n, m, l, px, py⟩ := a
  dsimp only at hr hl ⊢
  by_cases hd : d < 1 ∨ 16 < d
  · rw [callF_0 _ s hd]
    exact callg_0 d g F s n m v l px py S w h hr hd
  · have : d = 1 ∨ d = 2 ∨ d = 3 ∨ d = 4 ∨ d = 5 ∨ d = 6 ∨ d = 7 ∨ d = 8 ∨ d = 9 ∨ d = 10 ∨ d = 11 ∨ d = 12 ∨ d = 13 ∨ d = 14 ∨ d = 15 ∨ d = 16 := by omega
    rcases this with rfl | rfl | rfl | rfl | rfl | rfl | rfl | rfl | rfl | rfl | rfl | rfl | rfl | rfl | rfl | rfl
    · exact callg_1 g F s n m v l px py S w h hb hN hr hl
    · exact callg_2 g F s n m v l px py S w h hb hN hr hl
    · exact callg_3 g F s n m v l px py S w h hb hN hr hl
    · exact callg_4 g F s n m v l px py S w h hb hN hr hl
    · exact callg_5 g F s n m v l px py S w h hb hN hr hl
    · exact callg_6 g F s n m v l px py S w h hb hN hr hl
    · exact callg_7 g F s n m v l px py S w h hb hN hr hl
    · exact callg_8 g F s n m v l px py S w h hb hN hr hl
    · exact callg_9 g F s n m v l px py S w h hb hN hr hl
    · exact callg_10 g F s n m v l px py S w h hb hN hr hl
    · exact callg_11 g F s n m v l px py S w h hb hN hr hl
    · exact callg_12 g F s n m v l px py S w h hb hN hr hl
    · exact callg_13 g F s n m v l px py S w h hb hN hr hl
    · exact callg_14 g F s n m v l px py S w h hb hN hr hl
    · exact callg_15 g F s n m v l px py S w h hb hN hr hl
    · exact callg_16 g F s n m v l px py S w h hb hN hr hl
/-- Calls that the laws are handed, in memory that is never written. -/
def ActsIn (w : World) (v : Value) (ac : List (Act14 × Value)) : Prop :=
  RowIn w (Lt w) 11 v ac.length (ac.flatMap fun a => encA a.1 a.2) ∧ ∀ a ∈ ac, RowIn w (Lt w) 1 a.2 a.1.l.length (ints a.1.l)
theorem encAs_at (l : List (Act14 × Value)) (k j : Nat) (hk : k < l.length) (hj : j < 11) : (l.flatMap fun a => encA a.1 a.2)[k * 11 + j]? = (encA l[k].1 l[k].2)[j]? :=
  flatn_at (fun a : Act14 × Value => encA a.1 a.2) 11 l (fun _ _ => rfl) k j hk hj
theorem ActsIn.nob {w w' : World} {v : Value} {ac : List (Act14 × Value)} (h : ActsIn w v ac) (hf : Fr Nob w w') : ActsIn w' v ac :=
  ⟨(h.1.nob hf).mono fun k hk => Nat.lt_of_lt_of_le hk hf.size, fun a ha => ((h.2 a ha).nob hf).mono fun k hk => Nat.lt_of_lt_of_le hk hf.size⟩
theorem ActsIn.at {w : World} {v : Value} {ac : List (Act14 × Value)} (h : ActsIn w v ac) (hn : 0 < ac.length) :
    ∃ b off cap, v = .slice (some ⟨b, off, none⟩) ac.length cap ∧ ac.length ≤ cap ∧ cap ≤ 9223372036854775807 ∧ ∀ k (hk : k < ac.length), w.rangeAt b (off + k * 11) (encA ac[k].1 ac[k].2) := by
  have hl : (ac.flatMap fun a => encA a.1 a.2).length = ac.length * 11 := flatn_len (fun a : Act14 × Value => encA a.1 a.2) 11 ac fun _ _ => rfl
  obtain ⟨b, off, cap, hv, h1, h2, _, hc⟩ := h.1.pos (by omega)
  refine ⟨b, off, cap, hv, h1, h2, fun k hk j u hu => ?_⟩
  have hj : j < 11 := (List.getElem?_eq_some_iff.1 hu).1
  rw [Nat.add_assoc]
  exact hc (k * 11 + j) u (by rw [encAs_at ac k j hk hj]; exact hu)
theorem read_acts14 {H : Type} {enc' : TypeId × Value → H} {w : World} {base : Nat} {spare : Nat → Bool} {held : Bool} {fuel : Nat} {v : Value} {x : DataW H × List MemPlace}
    (h : DataW.trod enc' Tryd.prog w base spare held fuel 73 [v] = some x) : ∃ ac : List (Act14 × Value), ActsIn w v ac := by
  obtain ⟨xs, h1, h2⟩ := read_slice Tryd.underlying73 11 cellsAct14 (by omega) (fun (a : Act14 × Value) cs => cs = encA a.1 a.2 ∧ RowIn w (Lt w) 1 a.2 a.1.l.length (ints a.1.l)) (fun n cs y h => read_act14 n cs y h) h
  have e : xs.flatMap (·.2) = (xs.map (·.1)).flatMap fun a => encA a.1 a.2 := by
    clear h1
    induction xs with
    | nil => rfl
    | cons a r ih =>
      rw [List.flatMap_cons, List.map_cons, List.flatMap_cons, (h2 a (by simp)).1.1, ih fun y hy => h2 y (by simp [hy])]
  rw [e] at h1
  refine ⟨xs.map (·.1), by simpa using h1, fun a ha => ?_⟩
  obtain ⟨y, hy, rfl⟩ := List.mem_map.1 ha
  exact (h2 y hy).1.2
end Go.Proofs.YtkkejjfmidgciaaDoor
/- GstateBalanced: plain laws; the first loop's round. -/
namespace Go.Proofs.YtkkejjfmidgciaaDoor
open Go.RowKit
set_option linter.unusedVariables false
set_option linter.unusedSimpArgs false
theorem restF_snoc (s : GS) (u : List Lv) (x : Lv) (h : s.saved = u ++ [x]) : restF s = { s with cur := x, saved := u } := by
  unfold restF
  have hl : s.saved.length = u.length + 1 := by rw [h]; simp
  rw [dif_pos (by omega)]
  have e1 : s.saved[s.saved.length - 1]'(by omega) = x := by
    simp only [h]
    simp
  have e2 : s.saved.take (s.saved.length - 1) = u := by rw [h]; simp
  simp only [e1, e2]
theorem sizeAct14 : (Tryd.prog.info? 76).map (·.size) = some 11 := by kernel_rfl
/-- Where a list of calls lies. -/
theorem ActsIn.cells {w : World} {v : Value} {ac : List (Act14 × Value)} (h : ActsIn w v ac) :
    ∃ A cap, v = .slice A ac.length cap ∧ ac.length ≤ cap ∧ cap ≤ 9223372036854775807 ∧ ∀ k (hk : k < ac.length), ∃ b off, A = some ⟨b, off, none⟩ ∧ w.rangeAt b (off + k * 11) (encA ac[k].1 ac[k].2) := by
  by_cases h0 : 0 < ac.length
  · obtain ⟨b, off, cap, hv, h1, h2, h3⟩ := h.at h0
    exact ⟨_, cap, hv, h1, h2, fun k hk => ⟨b, off, rfl, h3 k hk⟩⟩
  · obtain ⟨A, cap, hv, h1, h2⟩ := h.1.form
    exact ⟨A, cap, hv, h1, by unfold maxLen at h2; omega, fun k hk => by omega⟩
/-- The levels that are saved, and how many are to be restored. -/
def Deep (s1 s : GS) (j : Nat) : Prop := (j = 0 ∧ s.saved = s1.saved ∧ s.cur = s1.cur) ∨ ∃ t, s.saved = s1.saved ++ s1.cur :: t ∧ j = t.length + 1
theorem Deep.zero {s1 s : GS} {j : Nat} (h : Deep s1 s j) (h0 : j = 0) : s.saved = s1.saved ∧ s.cur = s1.cur := by
  rcases h with ⟨_, h1, h2⟩ | ⟨t, _, h⟩
  · exact ⟨h1, h2⟩
  · omega
theorem Deep.pop {s1 s : GS} {j : Nat} (h : Deep s1 s (j + 1)) : Deep s1 (restF s) j := by
  rcases h with ⟨h, _⟩ | ⟨t, ht, hj⟩
  · omega
  · rcases List.eq_nil_or_concat t with rfl | ⟨u, x, rfl⟩
    · rw [restF_snoc s s1.saved s1.cur ht]
      exact .inl ⟨by simpa using hj, rfl, rfl⟩
    · rw [restF_snoc s (s1.saved ++ s1.cur :: u) x (by rw [ht]; simp)]
      exact .inr ⟨u, rfl, by simpa using hj⟩
theorem Deep.save {s1 s : GS} {j : Nat} (h : Deep s1 s (j + 1)) (he : (saveF s).1 = 0) : Deep s1 (saveF s).2 (j + 2) := by
  unfold saveF at he ⊢
  dsimp only at he ⊢
  split at he
  · cases he
  · next hn =>
    rw [if_neg hn]
    rcases h with ⟨h, _⟩ | ⟨t, ht, hj⟩
    · omega
    · exact .inr ⟨t ++ [s.cur], by simp [ht], by simp; omega⟩
theorem Deep.kept {s1 s s' : GS} {j : Nat} (h : Deep s1 s (j + 1)) (hs : s'.saved = s.saved) : Deep s1 s' (j + 1) := by
  rcases h with ⟨h, _⟩ | ⟨t, ht, hj⟩
  · omega
  · exact .inr ⟨t, by rw [hs, ht], hj⟩
theorem saveF_no {s : GS} (he : ¬ (saveF s).1 = 0) : (saveF s).2 = s := by
  unfold saveF at he ⊢
  dsimp only at he ⊢
  split at he
  · next h => rw [if_pos h]
  · exact (he rfl).elim
/-- A round of the inner loop. -/
theorem Deep.call {s1 s : GS} {j : Nat} (a : Act14) (h : Deep s1 s (j + 1)) (h3 : ¬ a.d = 3) (h2 : ¬ (a.d = 2 ∧ j = 0)) :
    Deep s1 (callF a s).2 (if a.d = 1 ∧ (callF a s).1 = 0 then j + 2 else if a.d = 2 then j else j + 1) := by
  by_cases e1 : a.d = 1
  · rw [callF_1 a s e1]
    by_cases e : (saveF s).1 = 0
    · rw [if_pos ⟨e1, e⟩]; exact h.save e
    · rw [if_neg (fun h => e h.2), if_neg (by omega), saveF_no e]; exact h
  · rw [if_neg (fun h => e1 h.1)]
    by_cases e2 : a.d = 2
    · rw [if_pos e2, callF_2 a s e2]
      exact h.pop
    · rw [if_neg e2]
      exact h.kept (callF_saved a s e1 e2 h3)
end Go.Proofs.YtkkejjfmidgciaaDoor
/- More on regions that draw their order: an operation that is guarded and comes up alone. No program, no conditions. -/
namespace Go.Proofs.YtkkejjfmidgciaaDoor
open Go.RowKit
set_option linter.unusedVariables false
set_option linter.unusedSimpArgs false
/-- The same where the operation is guarded, and its guard says yes. -/
theorem held_oneG {P : Program} {md : Region.Mode} {ops : Array Oper} {Q : Exit → Act → World → Prop} {S : World → Prop} {fuel : Nat} {listed : Array Bool} {a : Act} {w : World} (i : Nat) {o : Oper} (ho : ops[i]? = some o) (hr : Region.ready md ops listed = [i]) (hg : Region.wanted o (yielded ops a.tmps) = true)
    (h : ∀ K : Act → World → Prop, (∀ a w, S w → wpAnyH P md ops Q S fuel (listed.setIfInBounds i true) a w → K a w) → Oper.wp P o a w K Q) : wpAnyH P md ops Q S (fuel + 1) listed a w := by
  refine wpAnyH_all hr (by simp) fun j hj => ?_
  rw [List.mem_singleton] at hj
  subst hj
  unfold wpOp
  rw [ho]
  simp only [hg, if_true]
  exact .inl (h _ fun a w h1 h2 => ⟨h1, h2⟩)
end Go.Proofs.YtkkejjfmidgciaaDoor
/- The walk of the law GstateBalanced. -/
namespace Go.Proofs.YtkkejjfmidgciaaDoor
open Go.RowKit
set_option linter.unusedVariables false
set_option linter.unusedSimpArgs false
set_option maxRecDepth 8000 in
set_option maxHeartbeats 20000000 in
theorem bal_walk (va vi : Value) (A I : List (Act14 × Value)) (w : World) (hA : ActsIn w va A) (hI : ActsIn w vi I) (hN : NamesIn w) :
    Calls Tryd.prog 6 #[va, vi] w fun e w' => e = .returned (.bool true) ∧ Fr Nob w w' := by
  obtain ⟨AA, cA, rfl, hA1, hA2, hAc⟩ := hA.cells
  obtain ⟨AI, cI, rfl, hI1, hI2, hIc⟩ := hI.cells
  have HA := Lib.hid hA
  have HI := Lib.hid hI
  have HAC := Lib.hid hAc
  have HIC := Lib.hid hIc
  have HN := Lib.hid hN
  clear hA hI hAc hIc hN
  go_enter Tryd.func6, Tryd.ntmps6
  go_wp2_with fail
  refine (new_gl w 100 30 _ (Fr.refl _ _)).mono ?_
  rintro e w1 ⟨g, rfl, h1⟩
  have H1 := Lib.hid h1
  clear h1
  go_wp2_with fail
  refine (ans14_any _).mono ?_
  rintro e w2 ⟨rfl, h2⟩
  have H2 := Lib.hid (H1.out.nob h2)
  clear h2
  go_upto_if 20 with (fail)
  go_cut [5] from 21 (fun q wc => q = .pointer (some ⟨g, 0, none⟩) ∧ wc = w2)
  case first =>
    go_wp2_with fail
    go_meet
    exact ⟨rfl, rfl⟩
  case rest =>
  obtain ⟨rfl, rfl⟩ := hcut
  go_upto_block 0 with (fail)
  go_cut [6] from 21 (fun q wc => Hid (∃ s : GS, LG w wc g s ∧ SB 40 s ∧ s.most = 100))
  case first =>
    go_wp2_with fail
    go_loopw [6] (fun q wr => ∃ (k : Nat) (s : GS), k ≤ 40 ∧ q = .int .i64 k ∧ Hid (LG w wr g s) ∧ Hid (SB k s) ∧ Hid (s.most = 100)) (fun q _ => 40 - (intOf q).toNat)
    case atStart => exact ⟨0, _, by omega, rfl, H2.out, SB.new 100 30 (by omega) (by omega), rfl⟩
    case round =>
      obtain ⟨k, s, hk, rfl, HL, HS, HM⟩ := hrel
      clear H1 H2
      by_cases hgo : k < A.length ∧ k < 40
      · obtain ⟨hlt, h40⟩ := hgo
        obtain ⟨b, off, hAA, hr⟩ := HAC.out k hlt
        subst hAA
        have hrl := ((HA.out.2 A[k] (List.getElem_mem hlt)).nob HL.out.2).mono (T := fun _ => True) fun _ _ => trivial
        have i1 : (k : Int) < A.length := by omega
        have i2 : (k : Int) < 40 := by omega
        generalize A[k] = av at *
        obtain ⟨a, v⟩ := av
        dsimp only at hr hrl
        obtain ⟨Al, Ac, hv, _⟩ := hrl.form
        subst hv
        have HRL := Lib.hid hrl
        have HRG := Lib.hid (show wr.rangeAt b (off + k * 11) [.int .i64 a.d, .int .i64 a.n, .int .i64 a.m.a, .int .i64 a.m.b, .int .i64 a.m.c, .int .i64 a.m.d, .int .i64 a.m.e, .int .i64 a.m.f, .slice Al a.l.length Ac, .int .i64 a.px, .int .i64 a.py] from fun j u hu => cell_nob (hr j u hu) HL.out.2)
        have a8 : wr.cell? ⟨b, off + k * 11 + 8, none⟩ = some (.slice Al a.l.length Ac) := HRG.out 8 _ rfl
        have a0 : wr.cell? ⟨b, off + k * 11, none⟩ = some (.int .i64 a.d) := HRG.out 0 _ rfl
        clear hr hrl
        by_cases hlen : a.l.length ≤ 100
        · have i3 : (a.l.length : Int) ≤ 100 := by omega
          by_cases h3 : a.d = 3
          · have h3' : (a.d != 3) = false := by simp [h3]
            go_wp2_with fail
            go_roundw
            case rel => exact ⟨k + 1, s, by omega, by go_num, HL.out, HS.out.le (by omega), HM.out⟩
            case measure => simp [intOf]; omega
          · have h3' : (a.d != 3) = true := by simp [h3]
            go_wp2_with (refine wpList_getAt rfl 76 (.tmp 49) rfl b (off + k * 11) (by rfl) [.int .i64 a.d, .int .i64 a.n, .int .i64 a.m.a, .int .i64 a.m.b, .int .i64 a.m.c, .int .i64 a.m.d, .int .i64 a.m.e, .int .i64 a.m.f, .slice Al a.l.length Ac, .int .i64 a.px, .int .i64 a.py] _ HRG.out Tryd.underlying76 rfl sizeAct14 ?_)
            refine (callg_any g _ s a _ _ _ HL.out.1 (HS.out.le (by omega)) (HN.out.nob HL.out.2) HRL.out hlen).mono ?_
            rintro e w3 ⟨rfl, ht⟩
            have HT := Lib.hid (HL.out.to ht)
            clear ht
            generalize (callF a s).1 = e1 at *
            go_wp2_with fail
            go_roundw
            case rel => exact ⟨k + 1, (callF a s).2, by omega, by go_num, HT.out, HS.out.call a, (callF_most a s).trans HM.out⟩
            case measure => simp [intOf]; omega
        · have i3 : ¬ (a.l.length : Int) ≤ 100 := by omega
          go_wp2_with fail
          go_roundw
          case rel => exact ⟨k + 1, s, by omega, by go_num, HL.out, HS.out.le (by omega), HM.out⟩
          case measure => simp [intOf]; omega
      · have hx : ¬ ((k : Int) < A.length) ∨ ((k : Int) < A.length ∧ ¬ (k : Int) < 40) := by omega
        rcases hx with i1 | ⟨i1, i2⟩
        all_goals
          go_wp2_with fail
          go_meet
          exact ⟨s, HL.out, HS.out.le (by omega), HM.out⟩
  case rest =>
  obtain ⟨s, hL, hS, hM⟩ := hcut.out
  obtain ⟨wz, hwz⟩ : ∃ wz : World, wz = wc := ⟨_, rfl⟩
  subst hwz
  have HL := Lib.hid hL
  have HS := Lib.hid hS
  have HM := Lib.hid hM
  clear hcut hL hS hM
  have HG1 := Lib.hid (HL.out.1.lts)
  have HNO := Lib.hid (show (s.saved.length : Int) < s.most by have := HS.out.n; have := HM.out; omega)
  go_wp2_with fail
  refine (gnow_any g _ s wz HG1.out HS.out.st.small).mono ?_
  rintro e w3 ⟨dv, cv, rfl, hg3, hf3⟩
  have HGI := Lib.hid hg3
  have HF3 := Lib.hid hf3
  obtain ⟨Ad, cd, hdv, _⟩ := hg3.d.form
  obtain ⟨Ac, cc, hcv, _⟩ := hg3.c.form
  subst hdv
  subst hcv
  clear hg3 hf3
  have HZ0 := Lib.hid (Blk.new w3 (encG gZero nilV nilV).toArray 79)
  have HF30 := Lib.hid (HF3.out.alloc (.cells (encG gZero nilV nilV).toArray 79))
  have HGI0 := Lib.hid (HGI.out.nob ((Fr.refl Nob w3).alloc (.cells (encG gZero nilV nilV).toArray 79)))
  unfold gV
  go_wp2_with (refine wpList_putAt rfl 79 (.tmp 7) (.tmp 53) rfl w3.heap.size 0 (encG s.cur.st (.slice Ad s.cur.st.dash.length cd) (.slice Ac s.cur.st.clips.length cc)) (by rfl) (by rfl) 79 _ HZ0.out (Nat.le_refl 26) sizeG (encG_one _ _ _ ⟨_, _, _, rfl⟩ ⟨_, _, _, rfl⟩) ?_)
  intro w4 hb4 hf4
  rw [over_all (encG gZero nilV nilV).toArray (encG s.cur.st (.slice Ad s.cur.st.dash.length cd) (.slice Ac s.cur.st.clips.length cc)) rfl] at hb4
  have HLT3 := Lib.hid HF3.out.size
  have HB4 := Lib.hid hb4
  have HF4 := Lib.hid (HF30.out.trans hf4 fun k hk => .inr (by rw [hk]; exact HLT3.out))
  have HGI4 := Lib.hid (HGI0.out.fr hf4 fun k hk e => by have := hk.2; omega)
  clear hb4 hf4
  have hg4 := HG1.out.nob HF4.out
  obtain ⟨lab, x, sv, xs, hx⟩ := hg4
  have HX := Lib.hid hx
  clear hx
  go_wp2_with fail
  refine (gpath_any g _ s _ lab x sv xs HX.out).mono ?_
  rintro e w9 ⟨rfl, rfl⟩
  go_wp2_with fail
  refine (seg_any x.pg x.pv s.cur.p _ HX.out.c.p HS.out.ps.pb).mono ?_
  rintro e w5 ⟨vo, rfl, ho, hf5, hn5⟩
  have HO5 := Lib.hid ho
  have HF5 := Lib.hid hf5
  have HN5 := Lib.hid hn5
  obtain ⟨A5, c5, hvo, _⟩ := ho.form
  subst hvo
  clear ho hf5 hn5
  go_wp2_with fail
  refine (gdepth_any g _ s _ (HG1.out.nob (HF4.out.trans0 HF5.out))).mono ?_
  rintro e w9 ⟨rfl, rfl⟩
  go_wp2_with fail
  refine (gsave_in g _ s _ (HG1.out.nob (HF4.out.trans0 HF5.out)) (HS.out.small (by omega)) (Int.not_le.2 HNO.out)).mono ?_
  rintro e w6 ⟨rfl, ht6⟩
  have HT6 := Lib.hid ht6
  have HS6 := Lib.hid (show SB 41 { s with saved := s.saved ++ [s.cur] } by have := HS.out.save; unfold saveF at this; dsimp only at this; rw [if_neg (Int.not_le.2 HNO.out)] at this; exact this.le (by omega))
  have HF45 := Lib.hid (HF4.out.trans0 HF5.out)
  have HFW := Lib.hid (HL.out.2.trans0 (HF4.out.trans0 HF5.out))
  have HLW := Lib.hid HL.out.2.size
  clear ht6
  go_upto_if 61 with (fail)
  go_cut [5] from 62 (fun q wc => q = .pointer (some ⟨g, 0, none⟩) ∧ wc = w6)
  case first =>
    go_wp2_with fail
    go_meet
    exact ⟨rfl, rfl⟩
  case rest =>
  obtain ⟨rfl, rfl⟩ := hcut
  go_upto_region 14 with (fail)
  go_cut [10] from 62 (fun q wd => q = .int .i64 1 ∧ wd = wc)
  case first =>
    go_wp2_with fail
    go_meet
    exact ⟨rfl, rfl⟩
  case rest =>
  obtain ⟨rfl, rfl⟩ := hcut
  go_upto_block 2 with (fail)
  go_cut [10] from 62 (fun dp wc => Hid (∃ (j : Nat) (t : GS), j ≤ 40 ∧ dp = .int .i64 ((j : Int) + 1) ∧ Deep s t (j + 1) ∧ GsTo w5 g (fun k => w.heap.size ≤ k ∧ k < wz.heap.size) t wc ∧ SB 81 t))
  case first =>
    go_wp2_with fail
    go_loopw [10, 11] (fun dp q wr => ∃ (k2 j : Nat) (t : GS), k2 ≤ 40 ∧ j ≤ k2 ∧ q = .int .i64 k2 ∧ dp = .int .i64 ((j : Int) + 1) ∧ Hid (Deep s t (j + 1)) ∧ Hid (GsTo w5 g (fun k => w.heap.size ≤ k ∧ k < wz.heap.size) t wr) ∧ Hid (SB (41 + k2) t)) (fun _ q _ => 40 - (intOf q).toNat)
    case atStart => exact ⟨0, 0, _, by omega, by omega, rfl, rfl, .inr ⟨[], rfl, rfl⟩, HT6.out, HS6.out⟩
    case round =>
      obtain ⟨k2, j, t, hk2, hj2, rfl, rfl, HD, HQ, HSQ⟩ := hrel
      have hfq := HFW.out.trans HQ.out.2 fun k hk => .inr hk.1
      have HFQ := Lib.hid hfq
      clear hfq
      by_cases hgo : k2 < I.length ∧ k2 < 40
      · obtain ⟨hlt, h40⟩ := hgo
        obtain ⟨b, off, hAI, hr⟩ := HIC.out k2 hlt
        subst hAI
        have hrl := ((HI.out.2 I[k2] (List.getElem_mem hlt)).nob HFQ.out).mono (T := fun _ => True) fun _ _ => trivial
        have j1 : (k2 : Int) < I.length := by omega
        have j2 : (k2 : Int) < 40 := by omega
        generalize I[k2] = av at *
        obtain ⟨⟨ad, an, am, al, apx, apy⟩, v⟩ := av
        dsimp only at hr hrl
        obtain ⟨Al, Ac2, hv, _⟩ := hrl.form
        subst hv
        have HRG := Lib.hid (show wr.rangeAt b (off + k2 * 11) [.int .i64 ad, .int .i64 an, .int .i64 am.a, .int .i64 am.b, .int .i64 am.c, .int .i64 am.d, .int .i64 am.e, .int .i64 am.f, .slice Al al.length Ac2, .int .i64 apx, .int .i64 apy] from fun j u hu => cell_nob (hr j u hu) HFQ.out)
        have HFB := Lib.hid ((Fr.refl Nob wr).alloc (.cells #[.int .i64 ad, .int .i64 an, .int .i64 am.a, .int .i64 am.b, .int .i64 am.c, .int .i64 am.d, .int .i64 am.e, .int .i64 am.f, .slice Al al.length Ac2, .int .i64 apx, .int .i64 apy] 76))
        have HRL := Lib.hid (hrl.nob HFB.out)
        have HBX := Lib.hid (Blk.new wr #[.int .i64 ad, .int .i64 an, .int .i64 am.a, .int .i64 am.b, .int .i64 am.c, .int .i64 am.d, .int .i64 am.e, .int .i64 am.f, .slice Al al.length Ac2, .int .i64 apx, .int .i64 apy] 76)
        have HQB := Lib.hid (HQ.out.1.nob HFB.out)
        have HQT := Lib.hid HQ.out.1.lts
        clear hr hrl
        go_upto_region 19 with (refine wpList_getAt rfl 76 (.tmp 74) rfl b (off + k2 * 11) (by rfl) [.int .i64 ad, .int .i64 an, .int .i64 am.a, .int .i64 am.b, .int .i64 am.c, .int .i64 am.d, .int .i64 am.e, .int .i64 am.f, .slice Al al.length Ac2, .int .i64 apx, .int .i64 apy] _ HRG.out Tryd.underlying76 rfl sizeAct14 ?_)
        generalize wr.alloc (.cells #[.int .i64 ad, .int .i64 an, .int .i64 am.a, .int .i64 am.b, .int .i64 am.c, .int .i64 am.d, .int .i64 am.e, .int .i64 am.f, .slice Al al.length Ac2, .int .i64 apx, .int .i64 apy] 76) = wb at *
        have b8 : wb.cell? ⟨wr.heap.size, 8, none⟩ = some (.slice Al al.length Ac2) := HBX.out.cell 8
        have b0 : wb.cell? ⟨wr.heap.size, 0, none⟩ = some (.int .i64 ad) := HBX.out.cell 0
        by_cases hlen : al.length ≤ 100
        · have i3 : ¬ (100 : Int) < al.length := by omega
          by_cases h3 : ad = 3
          · go_wp2_with fail
            go_roundw
            case rel => exact ⟨k2 + 1, j, t, by omega, by omega, by go_num, by first | rfl | simp, HD.out, HQ.out.nob HFB.out, HSQ.out.le (by omega)⟩
            case measure => simp [intOf]; omega
          · have h3' : (ad == 3) = false := by simp [h3]
            by_cases h2 : ad = 2
            · subst h2
              by_cases hj : j = 0
              · subst hj
                go_wp2_with fail
                go_roundw
                case rel => exact ⟨k2 + 1, 0, t, by omega, by omega, by go_num, by first | rfl | simp, HD.out, HQ.out.nob HFB.out, HSQ.out.le (by omega)⟩
                case measure => simp [intOf]; omega
              · have hj1 : ((j : Int) + 1 == 1) = false := by simp; omega
                obtain ⟨i, rfl⟩ : ∃ i, j = i + 1 := ⟨j - 1, by omega⟩
                have DC := Lib.hid (HD.out.call ⟨2, an, am, al, apx, apy⟩ h3 (fun h => by have := h.2; omega))
                dsimp only at DC
                rw [if_neg (fun h => by have := h.1; omega), if_pos rfl] at DC
                have HSB := Lib.hid (HSQ.out.call ⟨2, an, am, al, apx, apy⟩)
                clear hj
                go_wp2_with (refine wpList_getAt rfl 76 (.tmp 12) rfl wr.heap.size 0 (by rfl) [.int .i64 2, .int .i64 an, .int .i64 am.a, .int .i64 am.b, .int .i64 am.c, .int .i64 am.d, .int .i64 am.e, .int .i64 am.f, .slice Al al.length Ac2, .int .i64 apx, .int .i64 apy] _ (HBX.out.range 0 _ (by rfl)) Tryd.underlying76 rfl sizeAct14 ?_)
                refine (callg_any g _ t ⟨2, an, am, al, apx, apy⟩ _ _ wb HQB.out (HSQ.out.le (by omega)) (HN.out.nob (HFQ.out.trans0 HFB.out)) HRL.out hlen).mono ?_
                rintro e w7 ⟨rfl, ht⟩
                have HT7 := Lib.hid ((HQ.out.nob HFB.out).trans (ht.mono fun k hk => hk.elim .inl fun hk => .inr ⟨hk.1, Nat.lt_of_lt_of_le hk.2 HFB.out.size⟩))
                have d7 : w7.cell? ⟨wr.heap.size, 0, none⟩ = some (.int .i64 2) := (HBX.out.fr ht.2 (fun hh => by
                  have z1 := HQ.out.2.size
                  have z2 := HF45.out.size
                  rcases hh with hh | hh
                  · have := hh.2; omega
                  · have := hh.2; omega)).cell 0
                clear ht
                generalize (callF ⟨2, an, am, al, apx, apy⟩ t).1 = e1 at *
                generalize (callF ⟨2, an, am, al, apx, apy⟩ t).2 = t1 at *
                go_wp2_with fail
                go_roundw
                case rel => exact ⟨k2 + 1, i, t1, by omega, by omega, by go_num, by first | rfl | (congr 1 <;> omega), DC.out, HT7.out, HSB.out⟩
                case measure => simp [intOf]; omega
            · have h2' : (ad == 2) = false := by simp [h2]
              have DC := Lib.hid (HD.out.call ⟨ad, an, am, al, apx, apy⟩ h3 (fun h => h2 h.1))
              have HSB := Lib.hid (HSQ.out.call ⟨ad, an, am, al, apx, apy⟩)
              by_cases h1 : ad = 1
              · subst h1
                by_cases he : (callF ⟨1, an, am, al, apx, apy⟩ t).1 = 0
                · have he' : ((callF ⟨1, an, am, al, apx, apy⟩ t).1 == 0) = true := by simp [he]
                  dsimp only at DC
                  rw [if_pos ⟨rfl, he⟩] at DC
                  clear he
                  go_wp2_with (refine wpList_getAt rfl 76 (.tmp 12) rfl wr.heap.size 0 (by rfl) [.int .i64 1, .int .i64 an, .int .i64 am.a, .int .i64 am.b, .int .i64 am.c, .int .i64 am.d, .int .i64 am.e, .int .i64 am.f, .slice Al al.length Ac2, .int .i64 apx, .int .i64 apy] _ (HBX.out.range 0 _ (by rfl)) Tryd.underlying76 rfl sizeAct14 ?_)
                  refine (callg_any g _ t ⟨1, an, am, al, apx, apy⟩ _ _ wb HQB.out (HSQ.out.le (by omega)) (HN.out.nob (HFQ.out.trans0 HFB.out)) HRL.out hlen).mono ?_
                  rintro e w7 ⟨rfl, ht⟩
                  have HT7 := Lib.hid ((HQ.out.nob HFB.out).trans (ht.mono fun k hk => hk.elim .inl fun hk => .inr ⟨hk.1, Nat.lt_of_lt_of_le hk.2 HFB.out.size⟩))
                  have d7 : w7.cell? ⟨wr.heap.size, 0, none⟩ = some (.int .i64 1) := (HBX.out.fr ht.2 (fun hh => by
                    have z1 := HQ.out.2.size
                    have z2 := HF45.out.size
                    rcases hh with hh | hh
                    · have := hh.2; omega
                    · have := hh.2; omega)).cell 0
                  clear ht
                  generalize (callF ⟨1, an, am, al, apx, apy⟩ t).1 = e1 at *
                  generalize (callF ⟨1, an, am, al, apx, apy⟩ t).2 = t1 at *
                  go_wp2_with fail
                  go_roundw
                  case rel => exact ⟨k2 + 1, j + 1, t1, by omega, by omega, by go_num, by first | rfl | (congr 1 <;> omega), DC.out, HT7.out, HSB.out⟩
                  case measure => simp [intOf]; omega
                · have he' : ((callF ⟨1, an, am, al, apx, apy⟩ t).1 == 0) = false := by simp [he]
                  dsimp only at DC
                  rw [if_neg (fun h => he h.2), if_neg (by omega)] at DC
                  clear he
                  go_wp2_with (refine wpList_getAt rfl 76 (.tmp 12) rfl wr.heap.size 0 (by rfl) [.int .i64 1, .int .i64 an, .int .i64 am.a, .int .i64 am.b, .int .i64 am.c, .int .i64 am.d, .int .i64 am.e, .int .i64 am.f, .slice Al al.length Ac2, .int .i64 apx, .int .i64 apy] _ (HBX.out.range 0 _ (by rfl)) Tryd.underlying76 rfl sizeAct14 ?_)
                  refine (callg_any g _ t ⟨1, an, am, al, apx, apy⟩ _ _ wb HQB.out (HSQ.out.le (by omega)) (HN.out.nob (HFQ.out.trans0 HFB.out)) HRL.out hlen).mono ?_
                  rintro e w7 ⟨rfl, ht⟩
                  have HT7 := Lib.hid ((HQ.out.nob HFB.out).trans (ht.mono fun k hk => hk.elim .inl fun hk => .inr ⟨hk.1, Nat.lt_of_lt_of_le hk.2 HFB.out.size⟩))
                  have d7 : w7.cell? ⟨wr.heap.size, 0, none⟩ = some (.int .i64 1) := (HBX.out.fr ht.2 (fun hh => by
                    have z1 := HQ.out.2.size
                    have z2 := HF45.out.size
                    rcases hh with hh | hh
                    · have := hh.2; omega
                    · have := hh.2; omega)).cell 0
                  clear ht
                  generalize (callF ⟨1, an, am, al, apx, apy⟩ t).1 = e1 at *
                  generalize (callF ⟨1, an, am, al, apx, apy⟩ t).2 = t1 at *
                  go_wp2_with fail
                  go_roundw
                  case rel => exact ⟨k2 + 1, j, t1, by omega, by omega, by go_num, rfl, DC.out, HT7.out, HSB.out⟩
                  case measure => simp [intOf]; omega
              · have h1' : (ad == 1) = false := by simp [h1]
                dsimp only at DC
                rw [if_neg (fun h => h1 h.1), if_neg h2] at DC
                go_wp2_with (refine wpList_getAt rfl 76 (.tmp 12) rfl wr.heap.size 0 (by rfl) [.int .i64 ad, .int .i64 an, .int .i64 am.a, .int .i64 am.b, .int .i64 am.c, .int .i64 am.d, .int .i64 am.e, .int .i64 am.f, .slice Al al.length Ac2, .int .i64 apx, .int .i64 apy] _ (HBX.out.range 0 _ (by rfl)) Tryd.underlying76 rfl sizeAct14 ?_)
                refine (callg_any g _ t ⟨ad, an, am, al, apx, apy⟩ _ _ wb HQB.out (HSQ.out.le (by omega)) (HN.out.nob (HFQ.out.trans0 HFB.out)) HRL.out hlen).mono ?_
                rintro e w7 ⟨rfl, ht⟩
                have HT7 := Lib.hid ((HQ.out.nob HFB.out).trans (ht.mono fun k hk => hk.elim .inl fun hk => .inr ⟨hk.1, Nat.lt_of_lt_of_le hk.2 HFB.out.size⟩))
                have d7 : w7.cell? ⟨wr.heap.size, 0, none⟩ = some (.int .i64 ad) := (HBX.out.fr ht.2 (fun hh => by
                  have z1 := HQ.out.2.size
                  have z2 := HF45.out.size
                  rcases hh with hh | hh
                  · have := hh.2; omega
                  · have := hh.2; omega)).cell 0
                clear ht
                generalize (callF ⟨ad, an, am, al, apx, apy⟩ t).1 = e1 at *
                generalize (callF ⟨ad, an, am, al, apx, apy⟩ t).2 = t1 at *
                go_wp2_with fail
                go_roundw
                case rel => exact ⟨k2 + 1, j, t1, by omega, by omega, by go_num, rfl, DC.out, HT7.out, HSB.out⟩
                case measure => simp [intOf]; omega
        · have i3 : (100 : Int) < al.length := by omega
          go_wp2_with fail
          go_roundw
          case rel => exact ⟨k2 + 1, j, t, by omega, by omega, by go_num, by first | rfl | simp, HD.out, HQ.out.nob HFB.out, HSQ.out.le (by omega)⟩
          case measure => simp [intOf]; omega
      · have hx : ¬ ((k2 : Int) < I.length) ∨ ((k2 : Int) < I.length ∧ ¬ (k2 : Int) < 40) := by omega
        rcases hx with i1 | ⟨i1, i2⟩
        all_goals
          go_wp2_with fail
          go_meet
          exact ⟨j, t, by omega, rfl, HD.out, HQ.out, HSQ.out.le (by omega)⟩
  case rest =>
  obtain ⟨j0, t0, hj0, hdp, hD, hQ, hSB⟩ := hcut.out
  subst hdp
  have HD0 := Lib.hid hD
  have HQ0 := Lib.hid hQ
  have HSB0 := Lib.hid hSB
  clear hcut hD hQ hSB
  have HB5 := Lib.hid (HB4.out.nob HF5.out)
  have HO5' := Lib.hid HO5.out
  go_wp2_with fail
  go_loopw [10] (fun dp wr => ∃ (j : Nat) (t : GS), j ≤ 41 ∧ dp = .int .i64 (j : Int) ∧ Hid (Deep s t j) ∧ Hid (GsTo w5 g (fun k => w.heap.size ≤ k ∧ k < wz.heap.size) t wr) ∧ Hid (SB 81 t)) (fun dp _ => (intOf dp).toNat)
  case atStart => exact ⟨j0 + 1, t0, by omega, by first | rfl | simp, HD0.out, HQ0.out, HSB0.out⟩
  case round =>
    obtain ⟨j, t, hj, rfl, HD, HQ, HSQ⟩ := hrel
    clear HD0 HQ0 HSB0
    by_cases h0 : 0 < j
    · obtain ⟨i, rfl⟩ : ∃ i, j = i + 1 := ⟨j - 1, by omega⟩
      have i1 : (0 : Int) < ((i + 1 : Nat) : Int) := by omega
      have i2 : ((i + 1 : Nat) : Int) ≤ 41 := by omega
      go_wp2_with fail
      refine (grestore_any g _ t wr HQ.out.1 (by have := HSQ.out.n; omega)).mono ?_
      rintro e w7 ⟨rfl, ht⟩
      have HT7 := Lib.hid (HQ.out.trans ht)
      clear ht
      go_wp2_with fail
      go_roundw
      case rel => exact ⟨i, restF t, by omega, by first | rfl | (congr 1 <;> omega) | (congr 1; done), HD.out.pop, HT7.out, HSQ.out.rest⟩
      case measure => first | (simp [intOf]; done) | (simp [intOf]; omega)
    · have i1 : ¬ (0 : Int) < (j : Int) := by omega
      obtain ⟨hsv, hcur⟩ := HD.out.zero (by omega)
      have hQ := HQ.out
      have hst := HS.out.st.small
      have hpb := HS.out.ps.pb
      obtain ⟨tcur, tmost, tsegs, tsaved⟩ := t
      dsimp only at hsv hcur
      subst hsv
      subst hcur
      have hdis : ∀ k, (w.heap.size ≤ k ∧ k < wz.heap.size) → k < w3.heap.size := fun k hk => Nat.lt_of_lt_of_le hk.2 HLT3.out
      have hbr : Blk wr w3.heap.size (encG s.cur.st (.slice Ad s.cur.st.dash.length cd) (.slice Ac s.cur.st.clips.length cc)).toArray 79 := HB5.out.fr hQ.2 fun hk => by have := hdis _ hk; omega
      have HSW : Hid (∀ w', Fr Nob wr w' → w'.rangeAt w3.heap.size 0 (encG s.cur.st (.slice Ad s.cur.st.dash.length cd) (.slice Ac s.cur.st.clips.length cc))) := fun w' hw' => (hbr.nob hw').range 0 _ rfl
      have HGI5 := Lib.hid ((HGI4.out.nob HF5.out).fr hQ.2 fun k hk hk2 => by have := hdis k hk2; have := hk.1; omega)
      have HO6 := Lib.hid (HO5.out.row.fr hQ.2 fun k hk hk2 => by have := HN5.out k hk; have := hdis k hk2; have := HF4.out.size; omega)
      have hG := hQ.1
      obtain ⟨lab, x1, sv1, xs1, hx1⟩ := hG
      have HX1 := Lib.hid hx1
      have HFR := Lib.hid ((HFW.out).trans hQ.2 fun k hk => .inr hk.1)
      clear hQ hbr hx1
      go_wp2_with fail
      refine wp_region_held_drew (S := fun w' => w'.rangeAt w3.heap.size 0 (encG s.cur.st (.slice Ad s.cur.st.dash.length cd) (.slice Ac s.cur.st.clips.length cc))) (by kernel_rfl) (HSW.out _ (Fr.drew (Fr.refl Nob wr))) (fun hH => ?_)
      refine wpAnyH_take (i := 0) (v := ?vq1) rfl (by kernel_rfl) (by kernel_rfl) (by kernel_rfl) (fun _ _ _ h => h) (Or.inl ⟨by rfl, ?hq1⟩) hH ?rq1
      case hq1 => (intro w hSw; (try dsimp only at hSw); go_simp; (try with_reducible rfl))
      simp only [Act.put, List.getElem_toArray, List.getElem_cons_succ, List.getElem_cons_zero, List.setIfInBounds_toArray, List.set_cons_zero, List.set_cons_succ]
      refine wpAnyH_take (i := 2) (v := ?vq2) rfl (by kernel_rfl) (by kernel_rfl) (by kernel_rfl) (fun _ _ _ h => h) (Or.inl ⟨by rfl, ?hq2⟩) hH ?rq2
      case hq2 => (intro w hSw; (try dsimp only at hSw); go_simp; (try with_reducible rfl))
      simp only [Act.put, List.getElem_toArray, List.getElem_cons_succ, List.getElem_cons_zero, List.setIfInBounds_toArray, List.set_cons_zero, List.set_cons_succ]
      refine held_oneG 1 rfl (by kernel_rfl) (by rfl) fun K hK => ?_
      replace hK := Lib.hid hK
      clear hH
      go_simp
      refine (gdepth_any g _ _ _ ⟨lab, x1, sv1, xs1, HX1.out.nob (T := Nob) (show Fr Nob wr _ from (by repeat (first | exact Fr.refl _ _ | refine Fr.alloc ?_ _ | refine Fr.drew ?_))) fun _ _ hh => hh⟩).mono ?_
      rintro e w9 ⟨rfl, rfl⟩
      dsimp only
      have hH := HSW.out _ (show Fr Nob wr _ from (by repeat (first | exact Fr.refl _ _ | refine Fr.alloc ?_ _ | refine Fr.drew ?_)))
      refine hK.out _ _ hH ?_
      clear hK K
      refine wpAnyH_take (i := 3) (v := ?vq4) rfl (by kernel_rfl) (by kernel_rfl) (by kernel_rfl) (fun _ _ _ h => h) (Or.inl ⟨by rfl, ?hq4⟩) hH ?rq4
      case hq4 => (intro w hSw; (try dsimp only at hSw); go_simp; (try with_reducible rfl))
      simp only [Act.put, List.getElem_toArray, List.getElem_cons_succ, List.getElem_cons_zero, List.setIfInBounds_toArray, List.set_cons_zero, List.set_cons_succ]
      refine wpAnyH_take (i := 4) (v := ?vq5) rfl (by kernel_rfl) (by kernel_rfl) (by kernel_rfl) (fun _ _ _ h => h) (Or.inl ⟨by rfl, ?hq5⟩) hH ?rq5
      case hq5 => (intro w hSw; (try dsimp only at hSw); go_simp; (try with_reducible rfl))
      simp only [Act.put, List.getElem_toArray, List.getElem_cons_succ, List.getElem_cons_zero, List.setIfInBounds_toArray, List.set_cons_zero, List.set_cons_succ]
      refine wpAnyH_take (i := 5) (v := ?vq6) rfl (by kernel_rfl) (by kernel_rfl) (by kernel_rfl) (fun _ _ _ h => h) (Or.inl ⟨by rfl, ?hq6⟩) hH ?rq6
      case hq6 => (intro w hSw; (try dsimp only at hSw); go_simp; (try with_reducible rfl))
      simp only [Act.put, List.getElem_toArray, List.getElem_cons_succ, List.getElem_cons_zero, List.setIfInBounds_toArray, List.set_cons_zero, List.set_cons_succ]
      refine wpAnyH_take (i := 7) (v := _) rfl (by kernel_rfl) (by kernel_rfl) (by kernel_rfl) (fun _ _ _ h => h) (yieldsIf_load_mid (by rfl) 79 (.tmp 7) rfl w3.heap.size 0 rfl (encG s.cur.st (.slice Ad s.cur.st.dash.length cd) (.slice Ac s.cur.st.clips.length cc)) _ (fun w hw => hw) Tryd.underlying79 rfl sizeG) hH ?_
      simp only [Act.put, List.getElem_toArray, List.getElem_cons_succ, List.getElem_cons_zero, List.setIfInBounds_toArray, List.set_cons_zero, List.set_cons_succ]
      refine held_oneG 6 rfl (by kernel_rfl) (by rfl) fun K hK => ?_
      replace hK := Lib.hid hK
      clear hH
      go_simp
      refine (gnow_any g _ _ _ ⟨lab, x1, sv1, xs1, HX1.out.nob (T := Nob) (show Fr Nob wr _ from (by repeat (first | exact Fr.refl _ _ | refine Fr.alloc ?_ _ | refine Fr.drew ?_))) fun _ _ hh => hh⟩ hst).mono ?_
      rintro e w8 ⟨dv8, cv8, rfl, hg8, hf8⟩
      have N1 := Lib.hid (show Fr Nob wr w8 from Fr.trans0 (by repeat (first | exact Fr.refl _ _ | refine Fr.alloc ?_ _ | refine Fr.drew ?_)) hf8)
      have HG8 := Lib.hid hg8
      clear hg8 hf8
      dsimp only
      have hH := HSW.out w8 N1.out
      refine hK.out _ _ hH ?_
      clear hK K
      refine held_oneG 8 rfl (by kernel_rfl) (by rfl) fun K hK => ?_
      replace hK := Lib.hid hK
      clear hH
      go_simp
      refine (alike_same s.cur.st dv8 cv8 (.slice Ad s.cur.st.dash.length cd) (.slice Ac s.cur.st.clips.length cc) _ _ _ (HG8.out.nob (by repeat (first | exact Fr.refl _ _ | refine Fr.alloc ?_ _ | refine Fr.drew ?_))) (HGI5.out.nob (show Fr Nob wr _ from (by repeat (first | exact Fr.refl _ _ | refine Fr.alloc ?_ _ | refine Fr.drew ?_ | exact N1.out))))).mono ?_
      rintro e w10 ⟨rfl, hf10⟩
      have N2 := Lib.hid (show Fr Nob wr w10 from Fr.trans0 (by repeat (first | exact Fr.refl _ _ | refine Fr.alloc ?_ _ | refine Fr.drew ?_ | exact N1.out)) hf10)
      clear hf10
      dsimp only
      have hH := HSW.out w10 N2.out
      refine hK.out _ _ hH ?_
      clear hK K
      refine wpAnyH_take (i := 9) (v := ?vq10) rfl (by kernel_rfl) (by kernel_rfl) (by kernel_rfl) (fun _ _ _ h => h) (Or.inl ⟨by rfl, ?hq10⟩) hH ?rq10
      case hq10 => (intro w hSw; (try dsimp only at hSw); go_simp; (try with_reducible rfl))
      simp only [Act.put, List.getElem_toArray, List.getElem_cons_succ, List.getElem_cons_zero, List.setIfInBounds_toArray, List.set_cons_zero, List.set_cons_succ]
      refine wpAnyH_take (i := 10) (v := ?vq11) rfl (by kernel_rfl) (by kernel_rfl) (by kernel_rfl) (fun _ _ _ h => h) (Or.inl ⟨by rfl, ?hq11⟩) hH ?rq11
      case hq11 => (intro w hSw; (try dsimp only at hSw); go_simp; (try with_reducible rfl))
      simp only [Act.put, List.getElem_toArray, List.getElem_cons_succ, List.getElem_cons_zero, List.setIfInBounds_toArray, List.set_cons_zero, List.set_cons_succ]
      refine wpAnyH_take (i := 11) (v := ?vq12) rfl (by kernel_rfl) (by kernel_rfl) (by kernel_rfl) (fun _ _ _ h => h) (Or.inl ⟨by rfl, ?hq12⟩) hH ?rq12
      case hq12 => (intro w hSw; (try dsimp only at hSw); go_simp; (try with_reducible rfl))
      simp only [Act.put, List.getElem_toArray, List.getElem_cons_succ, List.getElem_cons_zero, List.setIfInBounds_toArray, List.set_cons_zero, List.set_cons_succ]
      refine wpAnyH_take (i := 14) (v := ?vq13) rfl (by kernel_rfl) (by kernel_rfl) (by kernel_rfl) (fun _ _ _ h => h) (Or.inl ⟨by rfl, ?hq13⟩) hH ?rq13
      case hq13 => (intro w hSw; (try dsimp only at hSw); go_simp; (try with_reducible rfl))
      simp only [Act.put, List.getElem_toArray, List.getElem_cons_succ, List.getElem_cons_zero, List.setIfInBounds_toArray, List.set_cons_zero, List.set_cons_succ]
      refine held_oneG 12 rfl (by kernel_rfl) (by rfl) fun K hK => ?_
      replace hK := Lib.hid hK
      clear hH
      go_simp
      refine (gpath_any g _ _ _ lab x1 sv1 xs1 (HX1.out.nob (T := Nob) (show Fr Nob wr _ from (by repeat (first | exact Fr.refl _ _ | refine Fr.alloc ?_ _ | refine Fr.drew ?_ | exact N2.out))) fun _ _ hh => hh)).mono ?_
      rintro e w9 ⟨rfl, rfl⟩
      dsimp only
      have hH := HSW.out w10 N2.out
      refine hK.out _ _ hH ?_
      clear hK K
      refine held_oneG 13 rfl (by kernel_rfl) (by rfl) fun K hK => ?_
      replace hK := Lib.hid hK
      clear hH
      go_simp
      refine (seg_any x1.pg x1.pv s.cur.p _ ((HX1.out.nob (T := Nob) (show Fr Nob wr _ from (by repeat (first | exact Fr.refl _ _ | refine Fr.alloc ?_ _ | refine Fr.drew ?_ | exact N2.out))) fun _ _ hh => hh).c.p) hpb).mono ?_
      rintro e w11 ⟨vo, rfl, ho, hf11, hn11⟩
      have N3 := Lib.hid (show Fr Nob wr w11 from Fr.trans0 (by repeat (first | exact Fr.refl _ _ | refine Fr.alloc ?_ _ | refine Fr.drew ?_ | exact N2.out)) hf11)
      have HO11 := Lib.hid ho.row
      clear ho hf11 hn11
      dsimp only
      have hH := HSW.out w11 N3.out
      refine hK.out _ _ hH ?_
      clear hK K
      refine held_oneG 15 rfl (by kernel_rfl) (by rfl) fun K hK => ?_
      replace hK := Lib.hid hK
      clear hH
      go_simp
      refine (same_any _ _ s.cur.p.list s.cur.p.list _ _ _ (HO11.out.nob (by repeat (first | exact Fr.refl _ _ | refine Fr.alloc ?_ _ | refine Fr.drew ?_))) (HO6.out.nob (show Fr Nob wr _ from (by repeat (first | exact Fr.refl _ _ | refine Fr.alloc ?_ _ | refine Fr.drew ?_ | exact N3.out))))).mono ?_
      rw [decide_eq_true (rfl : s.cur.p.list = s.cur.p.list)]
      rintro e w12 ⟨rfl, hf12⟩
      have N4 := Lib.hid (show Fr Nob wr w12 from Fr.trans0 (by repeat (first | exact Fr.refl _ _ | refine Fr.alloc ?_ _ | refine Fr.drew ?_ | exact N3.out)) hf12)
      clear hf12
      dsimp only
      have hH := HSW.out w12 N4.out
      refine hK.out _ _ hH ?_
      clear hK K
      refine wpAnyH_take (i := 16) (v := ?vq17) rfl (by kernel_rfl) (by kernel_rfl) (by kernel_rfl) (fun _ _ _ h => h) (Or.inl ⟨by rfl, ?hq17⟩) hH ?rq17
      case hq17 => (intro w hSw; (try dsimp only at hSw); go_simp; (try with_reducible rfl))
      simp only [Act.put, List.getElem_toArray, List.getElem_cons_succ, List.getElem_cons_zero, List.setIfInBounds_toArray, List.set_cons_zero, List.set_cons_succ]
      refine wpAnyH_take (i := 17) (v := ?vq18) rfl (by kernel_rfl) (by kernel_rfl) (by kernel_rfl) (fun _ _ _ h => h) (Or.inl ⟨by rfl, ?hq18⟩) hH ?rq18
      case hq18 => (intro w hSw; (try dsimp only at hSw); go_simp; (try with_reducible rfl))
      simp only [Act.put, List.getElem_toArray, List.getElem_cons_succ, List.getElem_cons_zero, List.setIfInBounds_toArray, List.set_cons_zero, List.set_cons_succ]
      refine wpAnyH_done (by kernel_rfl) ?_ _
      clear hH
      go_wp2_with fail
      go_ret
      exact ⟨rfl, HFR.out.trans0 N4.out⟩
end Go.Proofs.YtkkejjfmidgciaaDoor
