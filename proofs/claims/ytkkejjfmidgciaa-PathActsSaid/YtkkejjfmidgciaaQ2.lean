/-
  The reference's path as functions on lists; a path that is built goes as the reference's, and is sound. No program, no conditions.
-/
import Derived.Test.YtkkejjfmidgciaaQ1
namespace Go.Proofs.Ytkkejjfmidgciaa
open Go.RowKit
set_option linter.unusedVariables false
set_option linter.unusedSimpArgs false
/-- Where the last one ended. -/
def curR (l : List Sg) : Pt := if lastK l = 4 then startF l else if lastK l = 3 then (l.getD (l.length - 1) sgZ).c else (l.getD (l.length - 1) sgZ).a
def rMove (most : Int) (l : List Sg) (a : Pt) : Int × List Sg :=
  if fitP a then
    if lastK l = 1 then (0, l.set (l.length - 1) (moveS a))
    else if most < l.length + 1 then (9, l) else (0, l ++ [moveS a])
  else (11, l)
def rDraw (most : Int) (l : List Sg) (s : Sg) : Int × List Sg :=
  if l.length = 0 then (10, l)
  else if lastK l = 4 then (if most < l.length + 2 then (9, l) else (0, l ++ [moveS (curR l), s]))
  else if most < l.length + 1 then (9, l) else (0, l ++ [s])
def rLine (most : Int) (l : List Sg) (a : Pt) : Int × List Sg := if fitP a then rDraw most l (lineS a) else (11, l)
def rCurve (most : Int) (l : List Sg) (a b c : Pt) : Int × List Sg := if [a, b, c].all fitP then rDraw most l ⟨3, a, b, c⟩ else (11, l)
def rClose (most : Int) (l : List Sg) : Int × List Sg :=
  if l.length = 0 ∨ lastK l = 4 then (0, l) else if most < l.length + 1 then (9, l) else (0, l ++ [closeS])

theorem lastK_zero (l : List Sg) (h : l.length = 0) : lastK l = 0 := by simp [lastK, h]
theorem lastK_getD (l : List Sg) : lastK l = (l.getD (l.length - 1) sgZ).kind := by
  unfold lastK
  split
  · next h => rw [List.getD_eq_getElem?_getD, List.getElem?_eq_getElem (by omega)]; rfl
  · next h => rw [List.getD_eq_getElem?_getD, List.getElem?_eq_none (by omega)]; rfl
theorem lastK_snoc (l : List Sg) (s : Sg) : lastK (l ++ [s]) = s.kind := by
  rw [lastK_getD]; simp [List.getD_eq_getElem?_getD]
theorem snoc_getD (l : List Sg) (s : Sg) : (l ++ [s]).getD ((l ++ [s]).length - 1) sgZ = s := by simp [List.getD_eq_getElem?_getD]
theorem startK_app (l m : List Sg) : ∀ k, k ≤ l.length → startK (l ++ m) k = startK l k
  | 0, _ => rfl
  | k + 1, h => by
    have e : (l ++ m).getD k sgZ = l.getD k sgZ := by
      rw [List.getD_eq_getElem?_getD, List.getD_eq_getElem?_getD, List.getElem?_append_left (by omega)]
    simp only [startK, e, startK_app l m k (by omega)]
theorem startF_snoc (l : List Sg) (s : Sg) : startF (l ++ [s]) = if s.kind = 1 then s.a else startF l := by
  unfold startF
  have e : (l ++ [s]).length = l.length + 1 := by simp
  rw [e]
  simp only [startK, startK_app l [s] l.length (Nat.le_refl _)]
  have : (l ++ [s]).getD l.length sgZ = s := by simp [List.getD_eq_getElem?_getD]
  rw [this]
theorem curR_snoc (l : List Sg) (s : Sg) : curR (l ++ [s]) = if s.kind = 4 then startF l else if s.kind = 3 then s.c else s.a := by
  unfold curR
  rw [lastK_snoc, snoc_getD, startF_snoc]
  by_cases h : s.kind = 4
  · rw [if_pos h, if_pos h, if_neg (by omega)]
  · rw [if_neg h, if_neg h]
theorem set_last (l : List Sg) (h : 0 < l.length) (s : Sg) : l.set (l.length - 1) s = l.take (l.length - 1) ++ [s] := by
  refine List.ext_getElem? fun i => ?_
  rw [List.getElem?_set]
  by_cases e : l.length - 1 = i
  · subst e; rw [if_pos rfl, if_pos (by omega), List.getElem?_append_right (by simp)]; simp
  · rw [if_neg e]
    by_cases hi : i < l.length - 1
    · rw [List.getElem?_append_left (by simp; omega), List.getElem?_take, if_pos hi]
    · rw [List.getElem?_eq_none (by omega), List.getElem?_eq_none (by simp; omega)]
/-- Sound, but for how long it is. -/
def Snd (l : List Sg) : Prop := ∀ k, k < l.length → snd1 l k = true
theorem snd1_app (l m : List Sg) (k : Nat) (h : k < l.length) : snd1 (l ++ m) k = snd1 l k := by
  have e : ∀ j, j < l.length → (l ++ m).getD j sgZ = l.getD j sgZ := fun j hj => by
    rw [List.getD_eq_getElem?_getD, List.getD_eq_getElem?_getD, List.getElem?_append_left hj]
  unfold snd1 prevK
  rw [e k h]
  by_cases h0 : k = 0
  · rw [if_pos h0, if_pos h0]
  · rw [if_neg h0, if_neg h0, e (k - 1) (by omega)]
theorem prevK_end (l : List Sg) (s : Sg) : prevK (l ++ [s]) l.length = lastK l := by
  unfold prevK
  by_cases h0 : l.length = 0
  · rw [if_pos h0, lastK_zero l h0]
  · rw [if_neg h0, lastK_getD, List.getD_eq_getElem?_getD, List.getD_eq_getElem?_getD, List.getElem?_append_left (by omega)]
theorem Snd.snoc {l : List Sg} (h : Snd l) (s : Sg) (h1 : folB s.kind (lastK l) = true) (h2 : sgOk s = true) : Snd (l ++ [s]) := by
  intro k hk
  by_cases e : k < l.length
  · rw [snd1_app l [s] k e]; exact h k e
  · have : k = l.length := by simp at hk; omega
    subst this
    unfold snd1
    rw [prevK_end]
    have e : (l ++ [s]).getD l.length sgZ = s := by simp [List.getD_eq_getElem?_getD]
    rw [e, h1, h2]; rfl
theorem Snd.take {l : List Sg} (h : Snd l) (n : Nat) : Snd (l.take n) := by
  intro k hk
  have hk' : k < n ∧ k < l.length := by simp at hk; omega
  have := h k hk'.2
  rw [← List.take_append_drop n l, snd1_app _ _ k hk] at this
  exact this
theorem Snd.kinds {l : List Sg} (h : Snd l) (h0 : 0 < l.length) : lastK l = 1 ∨ lastK l = 2 ∨ lastK l = 3 ∨ lastK l = 4 := by
  have := h (l.length - 1) (by omega)
  rw [lastK_getD]
  unfold snd1 at this
  generalize l.getD (l.length - 1) sgZ = s at *
  simp only [Bool.and_eq_true, sgOk, decide_eq_true_eq] at this
  obtain ⟨_, hp, _⟩ := this
  by_cases a : s.kind = 1 ∨ s.kind = 2 ∨ s.kind = 3 ∨ s.kind = 4
  · exact a
  · have : ptsK s.kind = -1 := by unfold ptsK; rw [if_neg (by omega), if_neg (by omega), if_neg (by omega)]
    omega
theorem ok_move {a : Pt} (h : fitP a = true) : sgOk (moveS a) = true := by
  simp [sgOk, moveS, ptsK, pts, someP, h]; decide
theorem ok_line {a : Pt} (h : fitP a = true) : sgOk (lineS a) = true := by
  simp [sgOk, lineS, ptsK, pts, someP, h]; decide
theorem ok_curve {a b c : Pt} (h : [a, b, c].all fitP = true) : sgOk ⟨3, a, b, c⟩ = true := by
  simp only [sgOk, pts, h]; simp [ptsK, someP]
theorem ok_close : sgOk closeS = true := by decide

/-- A path as it is built. -/
structure Good (p : PS) : Prop where
  snd : Snd p.list
  now : 0 < p.list.length → p.now = curR p.list
  start : 0 < p.list.length → p.start = startF p.list
  fit : 0 < p.list.length → fitP p.now = true ∧ fitP p.start = true
theorem Good.nil (most : Int) (a b : Pt) : Good ⟨most, [], a, b⟩ := ⟨fun k h => by simp at h, fun h => by simp at h, fun h => by simp at h, fun h => by simp at h⟩
/-- A step: the same answer, the same list, and good again. -/
structure Like (p : PS) (r : Int × PS) (q : Int × List Sg) : Prop where
  e : r.1 = q.1
  l : r.2.list = q.2
  most : r.2.most = p.most
  good : Good r.2
  len : r.2.list.length ≤ p.list.length + 2
theorem fol_move {k : Int} (h : ¬ k = 1) : folB 1 k = true := by simp [folB, h]
theorem fol_other {s k : Int} (hs : ¬ s = 1) (h0 : ¬ k = 0) (h4 : ¬ k = 4) : folB s k = true := by simp [folB, hs, h0, h4]
theorem move_like (p : PS) (a : Pt) (h : Good p) : Like p (moveF p a) (rMove p.most p.list a) := by
  unfold moveF rMove
  by_cases hf : fitP a
  · rw [if_pos hf, if_pos hf]
    by_cases h1 : lastK p.list = 1
    · rw [if_pos h1, if_pos h1]
      have h0 : 0 < p.list.length := by
        rcases Nat.eq_zero_or_pos p.list.length with e | e
        · rw [lastK_zero _ e] at h1; omega
        · exact e
      refine ⟨rfl, rfl, rfl, ?_, by simp⟩
      have hl := set_last p.list h0 (moveS a)
      have hfol : folB 1 (lastK (p.list.take (p.list.length - 1))) = true := by
        have h2 := h.snd (p.list.length - 1) (by omega)
        rw [lastK_take _ _ (by omega)]
        unfold snd1 at h2
        rw [← lastK_getD, h1] at h2
        simp only [Bool.and_eq_true] at h2
        exact h2.1
      refine ⟨?_, fun _ => ?_, fun _ => ?_, fun _ => ⟨hf, hf⟩⟩
      · show Snd (p.list.set (p.list.length - 1) (moveS a))
        rw [hl]; exact (h.snd.take _).snoc _ hfol (ok_move hf)
      · show a = curR (p.list.set (p.list.length - 1) (moveS a))
        rw [hl, curR_snoc]; rfl
      · show a = startF (p.list.set (p.list.length - 1) (moveS a))
        rw [hl, startF_snoc]; rfl
    · rw [if_neg h1, if_neg h1]
      by_cases h2 : p.most < p.list.length + 1
      · rw [if_pos h2, if_pos h2]; exact ⟨rfl, rfl, rfl, h, by simp⟩
      · rw [if_neg h2, if_neg h2]
        refine ⟨rfl, rfl, rfl, ⟨h.snd.snoc _ (fol_move h1) (ok_move hf), fun _ => ?_, fun _ => ?_, fun _ => ⟨hf, hf⟩⟩, by simp⟩
        · show a = curR (p.list ++ [moveS a]); rw [curR_snoc]; rfl
        · show a = startF (p.list ++ [moveS a]); rw [startF_snoc]; rfl
  · rw [if_neg hf, if_neg hf]; exact ⟨rfl, rfl, rfl, h, by simp⟩
theorem lastK_pos {p : PS} (h : Good p) (h0 : 0 < p.list.length) : ¬ lastK p.list = 0 := by have := h.snd.kinds h0; omega
theorem draw_like (p : PS) (s : Sg) (to : Pt) (h : Good p) (hk : s.kind = 2 ∨ s.kind = 3) (hs : sgOk s = true) (hto : (if s.kind = 3 then s.c else s.a) = to) (hf : fitP to = true) : Like p (drawF p s to) (rDraw p.most p.list s) := by
  unfold drawF rDraw
  rcases Nat.eq_zero_or_pos p.list.length with h0 | h0
  · rw [if_pos (lastK_zero _ h0), if_pos h0]; exact ⟨rfl, rfl, rfl, h, by simp⟩
  · have hn := lastK_pos h h0
    have hft := h.fit h0
    rw [if_neg hn, if_neg (show ¬ p.list.length = 0 by omega)]
    by_cases h4 : lastK p.list = 4
    · rw [if_pos h4, if_pos h4]
      unfold addF
      by_cases h2 : p.most < p.list.length + 2
      · rw [if_pos (by simpa using h2), if_pos h2]; exact ⟨rfl, rfl, rfl, h, by simp⟩
      · rw [if_neg (by simpa using h2), if_neg h2]
        have e : p.list ++ [moveS p.now, s] = (p.list ++ [moveS p.now]) ++ [s] := by simp
        refine ⟨rfl, by rw [h.now h0], rfl, ⟨?_, fun _ => ?_, fun _ => ?_, fun _ => ⟨hf, hft.2⟩⟩, by simp⟩
        · show Snd (p.list ++ [moveS p.now, s])
          rw [e]
          refine (h.snd.snoc _ (fol_move (by omega)) (ok_move hft.1)).snoc _ ?_ hs
          rw [lastK_snoc]
          exact fol_other (by omega) (by simp [moveS]) (by simp [moveS])
        · show to = curR (p.list ++ [moveS p.now, s])
          rw [e, curR_snoc, if_neg (by omega), hto]
        · show p.start = startF (p.list ++ [moveS p.now, s])
          rw [e, startF_snoc, if_neg (by omega), startF_snoc, h.start h0]
          have := h.now h0
          rw [show (moveS p.now).kind = 1 from rfl, if_pos rfl, show (moveS p.now).a = p.now from rfl, this]
          unfold curR; rw [if_pos h4]
    · rw [if_neg h4, if_neg h4]
      unfold addF
      by_cases h2 : p.most < p.list.length + 1
      · rw [if_pos (by simpa using h2), if_pos h2]; exact ⟨rfl, rfl, rfl, h, by simp⟩
      · rw [if_neg (by simpa using h2), if_neg h2]
        refine ⟨rfl, rfl, rfl, ⟨h.snd.snoc _ (fol_other (by omega) hn h4) hs, fun _ => ?_, fun _ => ?_, fun _ => ⟨hf, hft.2⟩⟩, by simp⟩
        · show to = curR (p.list ++ [s]); rw [curR_snoc, if_neg (by omega), hto]
        · show p.start = startF (p.list ++ [s]); rw [startF_snoc, if_neg (by omega), h.start h0]
theorem line_like (p : PS) (a : Pt) (h : Good p) : Like p (lineF p a) (rLine p.most p.list a) := by
  unfold lineF rLine
  by_cases hf : fitP a
  · rw [if_pos hf, if_pos hf]; exact draw_like p (lineS a) a h (.inl rfl) (ok_line hf) rfl hf
  · rw [if_neg hf, if_neg hf]; exact ⟨rfl, rfl, rfl, h, by simp⟩
theorem curve_like (p : PS) (a b c : Pt) (h : Good p) : Like p (curveF p a b c) (rCurve p.most p.list a b c) := by
  unfold curveF rCurve
  by_cases hf : [a, b, c].all fitP
  · rw [if_pos hf, if_pos hf]; exact draw_like p ⟨3, a, b, c⟩ c h (.inr rfl) (ok_curve hf) rfl (by simp at hf; exact hf.2.2)
  · rw [if_neg hf, if_neg hf]; exact ⟨rfl, rfl, rfl, h, by simp⟩
theorem close_like (p : PS) (h : Good p) : Like p (closeF p) (rClose p.most p.list) := by
  unfold closeF rClose
  rcases Nat.eq_zero_or_pos p.list.length with h0 | h0
  · rw [if_pos (.inl (lastK_zero _ h0)), if_pos (.inl h0)]; exact ⟨rfl, rfl, rfl, h, by simp⟩
  · have hn := lastK_pos h h0
    have hft := h.fit h0
    by_cases h4 : lastK p.list = 4
    · rw [if_pos (.inr h4), if_pos (.inr h4)]; exact ⟨rfl, rfl, rfl, h, by simp⟩
    · rw [if_neg (by rintro (e | e); exact hn e; exact h4 e), if_neg (by rintro (e | e); omega; exact h4 e)]
      unfold addF
      by_cases h2 : p.most < p.list.length + 1
      · rw [if_pos (by simpa using h2), if_pos h2]; exact ⟨rfl, rfl, rfl, h, by simp⟩
      · rw [if_neg (by simpa using h2), if_neg h2]
        refine ⟨rfl, rfl, rfl, ⟨h.snd.snoc _ (fol_other (by decide) hn h4) ok_close, fun _ => ?_, fun _ => ?_, fun _ => ⟨hft.2, hft.2⟩⟩, by simp⟩
        · show p.start = curR (p.list ++ [closeS]); rw [curR_snoc, if_pos (show closeS.kind = 4 from rfl), h.start h0]
        · show p.start = startF (p.list ++ [closeS]); rw [startF_snoc, if_neg (by decide), h.start h0]
theorem Good.sound {p : PS} (h : Good p) (hl : p.list.length ≤ 4096) : SoundP p.list := ⟨hl, h.snd⟩
end Go.Proofs.Ytkkejjfmidgciaa
