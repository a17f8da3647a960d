/-
  Texts joined in build order: What a call (chapter 14) does to states: plain laws. No walk.
-/
import Derived.Test.YtkkejjfmidgciaaDoorJSNone12
/- What a call (chapter 14) does to states: plain laws. No walk. -/
namespace Go.Proofs.YtkkejjfmidgciaaDoor
open Go.RowKit
set_option linter.unusedVariables false
set_option linter.unusedSimpArgs false
/-- The bounds of a path. -/
structure PsB (p : PS) : Prop where
  m : 0 ≤ p.most ∧ p.most ≤ 1000
  l : p.list.length ≤ 1000
theorem PsB.pb {p : PS} (h : PsB p) : PB p := ⟨by have := h.m; omega, by have := h.m; omega, by have := h.l; omega⟩
theorem PsB.add {p : PS} (h : PsB p) (q : Pt) (m : List Sg) : PsB (addF p q m).2 := by
  unfold addF
  split
  · exact h
  · exact ⟨h.m, by have := h.m; simp only [List.length_append]; omega⟩
theorem PsB.draw {p : PS} (h : PsB p) (s : Sg) (a : Pt) : PsB (drawF p s a).2 := by
  unfold drawF
  repeat (first | exact h | exact h.add _ _ | split)
theorem PsB.line {p : PS} (h : PsB p) (a : Pt) : PsB (lineF p a).2 := by
  unfold lineF
  split
  · exact h.draw _ _
  · exact h
theorem PsB.move {p : PS} (h : PsB p) (a : Pt) : PsB (moveF p a).2 := by
  unfold moveF
  split
  · split
    · exact ⟨h.m, by have := h.l; simp only [List.length_set]; exact this⟩
    · split
      · exact h
      · exact ⟨h.m, by have := h.m; simp only [List.length_append, List.length_cons, List.length_nil]; omega⟩
  · exact h
/-- The bounds of a state. -/
structure StB (st : Gst) : Prop where
  d : st.dash.length ≤ 11
  c : st.clips.length ≤ 16
  p : ∀ c ∈ st.clips, c.path.length ≤ 1000
theorem StB.small {st : Gst} (h : StB st) : SmallG st := ⟨by have := h.d; omega, by have := h.c; omega, fun c hc => by have := h.p c hc; omega⟩
theorem StB.of {st st' : Gst} (h : StB st) (hd : st'.dash = st.dash) (hc : st'.clips = st.clips) : StB st' := ⟨by rw [hd]; exact h.d, by rw [hc]; exact h.c, by rw [hc]; exact h.p⟩
theorem StB.start : StB gStart := ⟨by simp [gStart], by simp [gStart], fun c hc => by cases hc⟩
theorem StB.dash {st : Gst} (h : StB st) (l : List Int) (ph : Int) : StB (dashF l ph st).2 := by
  unfold dashF
  split
  · split
    · exact h
    · split
      · exact h
      · exact ⟨by show l.length ≤ 11; omega, h.c, h.p⟩
  · exact h
theorem StB.clip {st : Gst} {p : PS} (h : StB st) (hp : PsB p) (eo : Bool) : StB (clipF eo p st).2 := by
  unfold clipF
  split
  · exact h
  · split
    · exact h.of rfl rfl
    · refine ⟨h.d, by simp only [List.length_append, List.length_cons, List.length_nil]; omega, fun c hc => ?_⟩
      rcases List.mem_append.1 hc with hc | hc
      · exact h.p c hc
      · rw [List.mem_singleton] at hc; subst hc; exact hp.l
/-- The bounds of states. -/
structure SB (k : Nat) (s : GS) : Prop where
  st : StB s.cur.st
  ps : PsB s.cur.p
  v : ∀ l ∈ s.saved, StB l.st ∧ PsB l.p
  n : s.saved.length ≤ k
  m : 0 ≤ s.most ∧ s.most ≤ 1000
  sg : 0 ≤ s.segs ∧ s.segs ≤ 1000
theorem SB.small {k : Nat} {s : GS} (h : SB k s) (hk : k ≤ 1000) : SmallS s := ⟨h.st.small, h.ps.pb, fun l hl => ⟨(h.v l hl).1.small, (h.v l hl).2.pb⟩, Nat.le_trans h.n hk, by have := h.m; omega⟩
theorem SB.le {k j : Nat} {s : GS} (h : SB k s) (hj : k ≤ j) : SB j s := ⟨h.st, h.ps, h.v, Nat.le_trans h.n hj, h.m, h.sg⟩
theorem SB.new (most segs : Int) (hm : 0 ≤ most ∧ most ≤ 1000) (hs : 0 ≤ segs ∧ segs ≤ 1000) : SB 0 (sNew most segs) := ⟨StB.start, ⟨hs, by simp [sNew]⟩, fun l hl => by simp [sNew] at hl, by simp [sNew], hm, hs⟩
/-- The state and the path that are. -/
def setF (s : GS) (r : Int × Gst) : Int × GS := (r.1, { s with cur := { s.cur with st := r.2 } })
def saveF (s : GS) : Int × GS := (if s.most ≤ s.saved.length then 9 else 0, if s.most ≤ s.saved.length then s else { s with saved := s.saved ++ [s.cur] })
def rectF (px py : Int) (p : PS) : PS := (lineF (moveF { p with list := [], start := oo, now := oo } ⟨px, py⟩).2 ⟨py, px⟩).2
def callF (a : Act14) (s : GS) : Int × GS :=
  if a.d = 1 then saveF s else if a.d = 2 then (0, restF s) else if a.d = 3 then (0, ralF s) else if a.d = 4 then (0, initF s)
  else if a.d = 5 then setF s (concatF a.m s.cur.st) else if a.d = 6 then setF s (matrixF a.m s.cur.st) else if a.d = 7 then setF s (fontF a.n a.m s.cur.st) else if a.d = 8 then setF s (colorF a.l s.cur.st)
  else if a.d = 9 then setF s (dashF a.l a.n s.cur.st) else if a.d = 10 then setF s (widthF a.n s.cur.st) else if a.d = 11 then setF s (capF a.n s.cur.st) else if a.d = 12 then setF s (joinF a.n s.cur.st)
  else if a.d = 13 then setF s (miterF a.n s.cur.st) else if a.d = 14 then setF s (clipF (a.n.tmod 2 == 0) s.cur.p s.cur.st) else if a.d = 15 then (0, { s with cur := { s.cur with st := { s.cur.st with clips := [], dark := false } } })
  else if a.d = 16 then (0, { s with cur := { s.cur with p := rectF a.px a.py s.cur.p } }) else (0, s)
/-- What a call does, case by case. -/
theorem callF_cases (a : Act14) (s : GS) (P : Int × GS → Prop) (h1 : a.d = 1 → P (saveF s)) (h2 : a.d = 2 → P ((0, restF s))) (h3 : a.d = 3 → P ((0, ralF s))) (h4 : a.d = 4 → P ((0, initF s))) (h5 : a.d = 5 → P (setF s (concatF a.m s.cur.st))) (h6 : a.d = 6 → P (setF s (matrixF a.m s.cur.st))) (h7 : a.d = 7 → P (setF s (fontF a.n a.m s.cur.st))) (h8 : a.d = 8 → P (setF s (colorF a.l s.cur.st))) (h9 : a.d = 9 → P (setF s (dashF a.l a.n s.cur.st))) (h10 : a.d = 10 → P (setF s (widthF a.n s.cur.st))) (h11 : a.d = 11 → P (setF s (capF a.n s.cur.st))) (h12 : a.d = 12 → P (setF s (joinF a.n s.cur.st))) (h13 : a.d = 13 → P (setF s (miterF a.n s.cur.st))) (h14 : a.d = 14 → P (setF s (clipF (a.n.tmod 2 == 0) s.cur.p s.cur.st))) (h15 : a.d = 15 → P ((0, { s with cur := { s.cur with st := { s.cur.st with clips := [], dark := false } } }))) (h16 : a.d = 16 → P ((0, { s with cur := { s.cur with p := rectF a.px a.py s.cur.p } }))) (h0 : (a.d < 1 ∨ 16 < a.d) → P (0, s)) : P (callF a s) := by
  unfold callF
  by_cases e1 : a.d = 1
  · rw [if_pos e1]; exact h1 e1
  rw [if_neg e1]
  by_cases e2 : a.d = 2
  · rw [if_pos e2]; exact h2 e2
  rw [if_neg e2]
  by_cases e3 : a.d = 3
  · rw [if_pos e3]; exact h3 e3
  rw [if_neg e3]
  by_cases e4 : a.d = 4
  · rw [if_pos e4]; exact h4 e4
  rw [if_neg e4]
  by_cases e5 : a.d = 5
  · rw [if_pos e5]; exact h5 e5
  rw [if_neg e5]
  by_cases e6 : a.d = 6
  · rw [if_pos e6]; exact h6 e6
  rw [if_neg e6]
  by_cases e7 : a.d = 7
  · rw [if_pos e7]; exact h7 e7
  rw [if_neg e7]
  by_cases e8 : a.d = 8
  · rw [if_pos e8]; exact h8 e8
  rw [if_neg e8]
  by_cases e9 : a.d = 9
  · rw [if_pos e9]; exact h9 e9
  rw [if_neg e9]
  by_cases e10 : a.d = 10
  · rw [if_pos e10]; exact h10 e10
  rw [if_neg e10]
  by_cases e11 : a.d = 11
  · rw [if_pos e11]; exact h11 e11
  rw [if_neg e11]
  by_cases e12 : a.d = 12
  · rw [if_pos e12]; exact h12 e12
  rw [if_neg e12]
  by_cases e13 : a.d = 13
  · rw [if_pos e13]; exact h13 e13
  rw [if_neg e13]
  by_cases e14 : a.d = 14
  · rw [if_pos e14]; exact h14 e14
  rw [if_neg e14]
  by_cases e15 : a.d = 15
  · rw [if_pos e15]; exact h15 e15
  rw [if_neg e15]
  by_cases e16 : a.d = 16
  · rw [if_pos e16]; exact h16 e16
  rw [if_neg e16]
  exact h0 (by omega)
theorem callF_1 (a : Act14) (s : GS) (h : a.d = 1) : callF a s = saveF s := by
  unfold callF
  rw [if_pos h]
theorem callF_2 (a : Act14) (s : GS) (h : a.d = 2) : callF a s = (0, restF s) := by
  unfold callF
  rw [if_neg (show ¬ a.d = 1 by omega), if_pos h]
theorem callF_3 (a : Act14) (s : GS) (h : a.d = 3) : callF a s = (0, ralF s) := by
  unfold callF
  rw [if_neg (show ¬ a.d = 1 by omega), if_neg (show ¬ a.d = 2 by omega), if_pos h]
theorem callF_4 (a : Act14) (s : GS) (h : a.d = 4) : callF a s = (0, initF s) := by
  unfold callF
  rw [if_neg (show ¬ a.d = 1 by omega), if_neg (show ¬ a.d = 2 by omega), if_neg (show ¬ a.d = 3 by omega), if_pos h]
theorem callF_5 (a : Act14) (s : GS) (h : a.d = 5) : callF a s = setF s (concatF a.m s.cur.st) := by
  unfold callF
  rw [if_neg (show ¬ a.d = 1 by omega), if_neg (show ¬ a.d = 2 by omega), if_neg (show ¬ a.d = 3 by omega), if_neg (show ¬ a.d = 4 by omega), if_pos h]
theorem callF_6 (a : Act14) (s : GS) (h : a.d = 6) : callF a s = setF s (matrixF a.m s.cur.st) := by
  unfold callF
  rw [if_neg (show ¬ a.d = 1 by omega), if_neg (show ¬ a.d = 2 by omega), if_neg (show ¬ a.d = 3 by omega), if_neg (show ¬ a.d = 4 by omega), if_neg (show ¬ a.d = 5 by omega), if_pos h]
theorem callF_7 (a : Act14) (s : GS) (h : a.d = 7) : callF a s = setF s (fontF a.n a.m s.cur.st) := by
  unfold callF
  rw [if_neg (show ¬ a.d = 1 by omega), if_neg (show ¬ a.d = 2 by omega), if_neg (show ¬ a.d = 3 by omega), if_neg (show ¬ a.d = 4 by omega), if_neg (show ¬ a.d = 5 by omega), if_neg (show ¬ a.d = 6 by omega), if_pos h]
theorem callF_8 (a : Act14) (s : GS) (h : a.d = 8) : callF a s = setF s (colorF a.l s.cur.st) := by
  unfold callF
  rw [if_neg (show ¬ a.d = 1 by omega), if_neg (show ¬ a.d = 2 by omega), if_neg (show ¬ a.d = 3 by omega), if_neg (show ¬ a.d = 4 by omega), if_neg (show ¬ a.d = 5 by omega), if_neg (show ¬ a.d = 6 by omega), if_neg (show ¬ a.d = 7 by omega), if_pos h]
theorem callF_9 (a : Act14) (s : GS) (h : a.d = 9) : callF a s = setF s (dashF a.l a.n s.cur.st) := by
  unfold callF
  rw [if_neg (show ¬ a.d = 1 by omega), if_neg (show ¬ a.d = 2 by omega), if_neg (show ¬ a.d = 3 by omega), if_neg (show ¬ a.d = 4 by omega), if_neg (show ¬ a.d = 5 by omega), if_neg (show ¬ a.d = 6 by omega), if_neg (show ¬ a.d = 7 by omega), if_neg (show ¬ a.d = 8 by omega), if_pos h]
theorem callF_10 (a : Act14) (s : GS) (h : a.d = 10) : callF a s = setF s (widthF a.n s.cur.st) := by
  unfold callF
  rw [if_neg (show ¬ a.d = 1 by omega), if_neg (show ¬ a.d = 2 by omega), if_neg (show ¬ a.d = 3 by omega), if_neg (show ¬ a.d = 4 by omega), if_neg (show ¬ a.d = 5 by omega), if_neg (show ¬ a.d = 6 by omega), if_neg (show ¬ a.d = 7 by omega), if_neg (show ¬ a.d = 8 by omega), if_neg (show ¬ a.d = 9 by omega), if_pos h]
theorem callF_11 (a : Act14) (s : GS) (h : a.d = 11) : callF a s = setF s (capF a.n s.cur.st) := by
  unfold callF
  rw [if_neg (show ¬ a.d = 1 by omega), if_neg (show ¬ a.d = 2 by omega), if_neg (show ¬ a.d = 3 by omega), if_neg (show ¬ a.d = 4 by omega), if_neg (show ¬ a.d = 5 by omega), if_neg (show ¬ a.d = 6 by omega), if_neg (show ¬ a.d = 7 by omega), if_neg (show ¬ a.d = 8 by omega), if_neg (show ¬ a.d = 9 by omega), if_neg (show ¬ a.d = 10 by omega), if_pos h]
theorem callF_12 (a : Act14) (s : GS) (h : a.d = 12) : callF a s = setF s (joinF a.n s.cur.st) := by
  unfold callF
  rw [if_neg (show ¬ a.d = 1 by omega), if_neg (show ¬ a.d = 2 by omega), if_neg (show ¬ a.d = 3 by omega), if_neg (show ¬ a.d = 4 by omega), if_neg (show ¬ a.d = 5 by omega), if_neg (show ¬ a.d = 6 by omega), if_neg (show ¬ a.d = 7 by omega), if_neg (show ¬ a.d = 8 by omega), if_neg (show ¬ a.d = 9 by omega), if_neg (show ¬ a.d = 10 by omega), if_neg (show ¬ a.d = 11 by omega), if_pos h]
theorem callF_13 (a : Act14) (s : GS) (h : a.d = 13) : callF a s = setF s (miterF a.n s.cur.st) := by
  unfold callF
  rw [if_neg (show ¬ a.d = 1 by omega), if_neg (show ¬ a.d = 2 by omega), if_neg (show ¬ a.d = 3 by omega), if_neg (show ¬ a.d = 4 by omega), if_neg (show ¬ a.d = 5 by omega), if_neg (show ¬ a.d = 6 by omega), if_neg (show ¬ a.d = 7 by omega), if_neg (show ¬ a.d = 8 by omega), if_neg (show ¬ a.d = 9 by omega), if_neg (show ¬ a.d = 10 by omega), if_neg (show ¬ a.d = 11 by omega), if_neg (show ¬ a.d = 12 by omega), if_pos h]
theorem callF_14 (a : Act14) (s : GS) (h : a.d = 14) : callF a s = setF s (clipF (a.n.tmod 2 == 0) s.cur.p s.cur.st) := by
  unfold callF
  rw [if_neg (show ¬ a.d = 1 by omega), if_neg (show ¬ a.d = 2 by omega), if_neg (show ¬ a.d = 3 by omega), if_neg (show ¬ a.d = 4 by omega), if_neg (show ¬ a.d = 5 by omega), if_neg (show ¬ a.d = 6 by omega), if_neg (show ¬ a.d = 7 by omega), if_neg (show ¬ a.d = 8 by omega), if_neg (show ¬ a.d = 9 by omega), if_neg (show ¬ a.d = 10 by omega), if_neg (show ¬ a.d = 11 by omega), if_neg (show ¬ a.d = 12 by omega), if_neg (show ¬ a.d = 13 by omega), if_pos h]
theorem callF_15 (a : Act14) (s : GS) (h : a.d = 15) : callF a s = (0, { s with cur := { s.cur with st := { s.cur.st with clips := [], dark := false } } }) := by
  unfold callF
  rw [if_neg (show ¬ a.d = 1 by omega), if_neg (show ¬ a.d = 2 by omega), if_neg (show ¬ a.d = 3 by omega), if_neg (show ¬ a.d = 4 by omega), if_neg (show ¬ a.d = 5 by omega), if_neg (show ¬ a.d = 6 by omega), if_neg (show ¬ a.d = 7 by omega), if_neg (show ¬ a.d = 8 by omega), if_neg (show ¬ a.d = 9 by omega), if_neg (show ¬ a.d = 10 by omega), if_neg (show ¬ a.d = 11 by omega), if_neg (show ¬ a.d = 12 by omega), if_neg (show ¬ a.d = 13 by omega), if_neg (show ¬ a.d = 14 by omega), if_pos h]
theorem callF_16 (a : Act14) (s : GS) (h : a.d = 16) : callF a s = (0, { s with cur := { s.cur with p := rectF a.px a.py s.cur.p } }) := by
  unfold callF
  rw [if_neg (show ¬ a.d = 1 by omega), if_neg (show ¬ a.d = 2 by omega), if_neg (show ¬ a.d = 3 by omega), if_neg (show ¬ a.d = 4 by omega), if_neg (show ¬ a.d = 5 by omega), if_neg (show ¬ a.d = 6 by omega), if_neg (show ¬ a.d = 7 by omega), if_neg (show ¬ a.d = 8 by omega), if_neg (show ¬ a.d = 9 by omega), if_neg (show ¬ a.d = 10 by omega), if_neg (show ¬ a.d = 11 by omega), if_neg (show ¬ a.d = 12 by omega), if_neg (show ¬ a.d = 13 by omega), if_neg (show ¬ a.d = 14 by omega), if_neg (show ¬ a.d = 15 by omega), if_pos h]
theorem callF_0 (a : Act14) (s : GS) (h : a.d < 1 ∨ 16 < a.d) : callF a s = (0, s) := by
  unfold callF
  rw [if_neg (show ¬ a.d = 1 by omega), if_neg (show ¬ a.d = 2 by omega), if_neg (show ¬ a.d = 3 by omega), if_neg (show ¬ a.d = 4 by omega), if_neg (show ¬ a.d = 5 by omega), if_neg (show ¬ a.d = 6 by omega), if_neg (show ¬ a.d = 7 by omega), if_neg (show ¬ a.d = 8 by omega), if_neg (show ¬ a.d = 9 by omega), if_neg (show ¬ a.d = 10 by omega), if_neg (show ¬ a.d = 11 by omega), if_neg (show ¬ a.d = 12 by omega), if_neg (show ¬ a.d = 13 by omega), if_neg (show ¬ a.d = 14 by omega), if_neg (show ¬ a.d = 15 by omega), if_neg (show ¬ a.d = 16 by omega)]
theorem SB.set {k : Nat} {s : GS} (h : SB k s) (r : Int × Gst) (hr : StB r.2) : SB k (setF s r).2 := ⟨hr, h.ps, h.v, h.n, h.m, h.sg⟩
theorem SB.save {k : Nat} {s : GS} (h : SB k s) : SB (k + 1) (saveF s).2 := by
  unfold saveF
  dsimp only
  split
  · exact h.le (by omega)
  · refine ⟨h.st, h.ps, fun l hl => ?_, by have := h.n; simp only [List.length_append, List.length_cons, List.length_nil]; omega, h.m, h.sg⟩
    rcases List.mem_append.1 hl with hl | hl
    · exact h.v l hl
    · rw [List.mem_singleton] at hl; subst hl; exact ⟨h.st, h.ps⟩
theorem SB.rest {k : Nat} {s : GS} (h : SB k s) : SB k (restF s) := by
  unfold restF
  split
  · have := h.v _ (List.getElem_mem (show s.saved.length - 1 < s.saved.length by omega))
    exact ⟨this.1, this.2, fun l hl => h.v l (List.mem_of_mem_take hl), by have := h.n; simp only [List.length_take]; omega, h.m, h.sg⟩
  · exact h
theorem SB.ral {k : Nat} {s : GS} (h : SB k s) : SB k (ralF s) := by
  unfold ralF
  split
  · next h0 =>
    have := h.v _ (List.getElem_mem h0)
    exact ⟨this.1, this.2, fun l hl => h.v l (List.mem_of_mem_take hl), by have := h.n; simp only [List.length_take]; omega, h.m, h.sg⟩
  · exact h
theorem SB.init {k : Nat} {s : GS} (h : SB k s) : SB k (initF s) := ⟨StB.start.of rfl rfl, ⟨h.sg, by simp [initF]⟩, h.v, h.n, h.m, h.sg⟩
theorem matrixF_same (m : M6) (st : Gst) : (matrixF m st).2.dash = st.dash ∧ (matrixF m st).2.clips = st.clips := by unfold matrixF; split <;> exact ⟨rfl, rfl⟩
theorem concatF_same (m : M6) (st : Gst) : (concatF m st).2.dash = st.dash ∧ (concatF m st).2.clips = st.clips := by unfold concatF; repeat (first | exact ⟨rfl, rfl⟩ | split)
theorem fontF_same (i : Int) (m : M6) (st : Gst) : (fontF i m st).2.dash = st.dash ∧ (fontF i m st).2.clips = st.clips := by unfold fontF; repeat (first | exact ⟨rfl, rfl⟩ | split)
theorem colorF_same (l : List Int) (st : Gst) : (colorF l st).2.dash = st.dash ∧ (colorF l st).2.clips = st.clips := by unfold colorF; repeat (first | exact ⟨rfl, rfl⟩ | split)
theorem widthF_same (n : Int) (st : Gst) : (widthF n st).2.dash = st.dash ∧ (widthF n st).2.clips = st.clips := by unfold widthF; split <;> exact ⟨rfl, rfl⟩
theorem miterF_same (n : Int) (st : Gst) : (miterF n st).2.dash = st.dash ∧ (miterF n st).2.clips = st.clips := by unfold miterF; split <;> exact ⟨rfl, rfl⟩
theorem capF_same (n : Int) (st : Gst) : (capF n st).2.dash = st.dash ∧ (capF n st).2.clips = st.clips := by unfold capF; dsimp only; split <;> exact ⟨rfl, rfl⟩
theorem joinF_same (n : Int) (st : Gst) : (joinF n st).2.dash = st.dash ∧ (joinF n st).2.clips = st.clips := by unfold joinF; dsimp only; split <;> exact ⟨rfl, rfl⟩
theorem PsB.rect {p : PS} (h : PsB p) (px py : Int) : PsB (rectF px py p) := ((show PsB { p with list := [], start := oo, now := oo } from ⟨h.m, by simp⟩).move _).line _
theorem SB.call {k : Nat} {s : GS} (h : SB k s) (a : Act14) : SB (k + 1) (callF a s).2 := by
  have h' : SB (k + 1) s := h.le (by omega)
  exact callF_cases a s (fun r => SB (k + 1) r.2) (fun _ => h.save) (fun _ => h'.rest) (fun _ => h'.ral) (fun _ => h'.init)
    (fun _ => h'.set _ (h.st.of (concatF_same _ _).1 (concatF_same _ _).2)) (fun _ => h'.set _ (h.st.of (matrixF_same _ _).1 (matrixF_same _ _).2)) (fun _ => h'.set _ (h.st.of (fontF_same _ _ _).1 (fontF_same _ _ _).2)) (fun _ => h'.set _ (h.st.of (colorF_same _ _).1 (colorF_same _ _).2))
    (fun _ => h'.set _ (h.st.dash _ _)) (fun _ => h'.set _ (h.st.of (widthF_same _ _).1 (widthF_same _ _).2)) (fun _ => h'.set _ (h.st.of (capF_same _ _).1 (capF_same _ _).2)) (fun _ => h'.set _ (h.st.of (joinF_same _ _).1 (joinF_same _ _).2)) (fun _ => h'.set _ (h.st.of (miterF_same _ _).1 (miterF_same _ _).2))
    (fun _ => h'.set _ (h.st.clip h.ps _)) (fun _ => ⟨⟨h.st.d, by simp, fun c hc => by simp at hc⟩, h.ps, h.v, by have := h.n; show s.saved.length ≤ k + 1; omega, h.m, h.sg⟩)
    (fun _ => ⟨h.st, h.ps.rect _ _, h.v, by have := h.n; show s.saved.length ≤ k + 1; omega, h.m, h.sg⟩) fun _ => h'
/-- What is saved, but for Save, Restore, RestoreAll. -/
theorem callF_saved (a : Act14) (s : GS) (h1 : ¬ a.d = 1) (h2 : ¬ a.d = 2) (h3 : ¬ a.d = 3) : (callF a s).2.saved = s.saved :=
  callF_cases a s (fun r => r.2.saved = s.saved) (fun e => (h1 e).elim) (fun e => (h2 e).elim) (fun e => (h3 e).elim) (fun _ => rfl) (fun _ => rfl) (fun _ => rfl) (fun _ => rfl) (fun _ => rfl) (fun _ => rfl) (fun _ => rfl) (fun _ => rfl) (fun _ => rfl) (fun _ => rfl) (fun _ => rfl) (fun _ => rfl) (fun _ => rfl) fun _ => rfl
theorem restF_most (s : GS) : (restF s).most = s.most := by unfold restF; split <;> rfl
theorem ralF_most (s : GS) : (ralF s).most = s.most := by unfold ralF; split <;> rfl
theorem saveF_most (s : GS) : (saveF s).2.most = s.most := by unfold saveF; dsimp only; split <;> rfl
theorem callF_most (a : Act14) (s : GS) : (callF a s).2.most = s.most :=
  callF_cases a s (fun r => r.2.most = s.most) (fun _ => saveF_most s) (fun _ => restF_most s) (fun _ => ralF_most s) (fun _ => rfl) (fun _ => rfl) (fun _ => rfl) (fun _ => rfl) (fun _ => rfl) (fun _ => rfl) (fun _ => rfl) (fun _ => rfl) (fun _ => rfl) (fun _ => rfl) (fun _ => rfl) (fun _ => rfl) (fun _ => rfl) fun _ => rfl
end Go.Proofs.YtkkejjfmidgciaaDoor
