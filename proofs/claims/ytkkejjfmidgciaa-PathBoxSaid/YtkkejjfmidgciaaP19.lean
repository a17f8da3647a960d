/-
  The list that is moved, place by place.
-/
import Derived.Test.YtkkejjfmidgciaaP18
namespace Go.Proofs.Ytkkejjfmidgciaa
open Go.RowKit
set_option linter.unusedVariables false
set_option linter.unusedSimpArgs false
def setPt (s : Sg) (j : Nat) (p : Pt) : Sg := ⟨s.kind, if j = 0 then p else s.a, if j = 1 then p else s.b, if j = 2 then p else s.c⟩
def mvL (dx dy : Int) (l : List Sg) (k j : Nat) : List Sg := l.mapIdx fun i s => if i < k then shS dx dy s else if i = k then shTo dx dy j s else s
theorem mvL_len (dx dy : Int) (l : List Sg) (k j : Nat) : (mvL dx dy l k j).length = l.length := by simp [mvL]
theorem mvL_at (dx dy : Int) (l : List Sg) (k j i : Nat) (h : i < (mvL dx dy l k j).length) : (mvL dx dy l k j)[i] = if i < k then shS dx dy (l[i]'(by rw [mvL_len] at h; exact h)) else if i = k then shTo dx dy j (l[i]'(by rw [mvL_len] at h; exact h)) else l[i]'(by rw [mvL_len] at h; exact h) := by
  simp [mvL]
theorem shTo_zero (dx dy : Int) (s : Sg) : shTo dx dy 0 s = s := by simp [shTo]
theorem mvL_zero (dx dy : Int) (l : List Sg) : mvL dx dy l 0 0 = l := by
  refine List.ext_getElem (mvL_len ..) fun i h1 h2 => ?_
  rw [mvL_at, if_neg (by omega)]
  split
  · exact shTo_zero ..
  · rfl
theorem mvL_next (dx dy : Int) (l : List Sg) (k n : Nat) (hk : k < l.length) (hn : ptsK l[k].kind = n) : mvL dx dy l k n = mvL dx dy l (k + 1) 0 := by
  refine List.ext_getElem (by rw [mvL_len, mvL_len]) fun i h1 h2 => ?_
  rw [mvL_at, mvL_at]
  by_cases h : i < k
  · rw [if_pos h, if_pos (by omega)]
  · rw [if_neg h]
    by_cases e : i = k
    · subst e
      rw [if_pos rfl, if_pos (by omega)]
      unfold shS
      rw [hn]; rfl
    · rw [if_neg e, if_neg (by omega)]
      split
      · rw [shTo_zero]
      · rfl
theorem mvL_end (dx dy : Int) (l : List Sg) : mvL dx dy l l.length 0 = l.map (shS dx dy) := by
  refine List.ext_getElem (by rw [mvL_len, List.length_map]) fun i h1 h2 => ?_
  rw [mvL_at, if_pos (by rw [mvL_len] at h1; exact h1), List.getElem_map]
theorem shTo_set (dx dy : Int) (s : Sg) (j : Nat) (hj : j < (pts s).length) : setPt (shTo dx dy j s) j (shP dx dy (pts s)[j]) = shTo dx dy (j + 1) s := by
  have : j = 0 ∨ j = 1 ∨ j = 2 := by simp [pts] at hj; omega
  rcases this with rfl | rfl | rfl <;> simp [setPt, shTo, pts]
theorem mvL_set (dx dy : Int) (l : List Sg) (k j : Nat) (hk : k < l.length) (hj : j < (pts l[k]).length) : (mvL dx dy l k j).set k (setPt ((mvL dx dy l k j)[k]'(by rw [mvL_len]; exact hk)) j (shP dx dy (pts l[k])[j])) = mvL dx dy l k (j + 1) := by
  have hx : (mvL dx dy l k j)[k]'(by rw [mvL_len]; exact hk) = shTo dx dy j l[k] := by rw [mvL_at, if_neg (by omega), if_pos rfl]
  rw [hx, shTo_set dx dy l[k] j hj]
  refine List.ext_getElem (by rw [List.length_set, mvL_len, mvL_len]) fun i h1 h2 => ?_
  rw [List.getElem_set, mvL_at dx dy l k (j + 1)]
  by_cases e : k = i
  · subst e
    rw [if_pos rfl, if_neg (by omega), if_pos rfl]
  · rw [if_neg e, mvL_at, if_neg (show ¬ i = k from fun h => e h.symm), if_neg (show ¬ i = k from fun h => e h.symm)]
theorem OwnS.setPt {w : World} {v : Value} {n b : Nat} {l : List Sg} (h : OwnS w 43 7 v n (encSs l)) (hv : v.ownBlock = some b) (hl : l.length = n) (k : Nat) (hk : k < l.length) (j : Nat) (hj : j < 3) (p : Pt) :
    OwnS ((w.setCell ⟨b, k * 7 + 1 + j * 2, none⟩ (.int .i64 p.x)).setCell ⟨b, k * 7 + 1 + j * 2 + 1, none⟩ (.int .i64 p.y)) 43 7 v n (encSs (l.set k (Ytkkejjfmidgciaa.setPt l[k] j p))) := by
  subst hl
  have h2 := (h.store hv (k * 7 + 1 + j * 2) (by omega) (.int .i64 p.x)).store hv (k * 7 + 1 + j * 2 + 1) (by omega) (.int .i64 p.y)
  have e : ((encSs l).set (k * 7 + 1 + j * 2) (.int .i64 p.x)).set (k * 7 + 1 + j * 2 + 1) (.int .i64 p.y) = encSs (l.set k (Ytkkejjfmidgciaa.setPt l[k] j p)) := by
    clear h h2 hv
    induction l generalizing k with
    | nil => simp at hk
    | cons a r ih =>
      cases k with
      | zero =>
        have : j = 0 ∨ j = 1 ∨ j = 2 := by omega
        rcases this with rfl | rfl | rfl <;> simp [encSs, encS, Ytkkejjfmidgciaa.setPt]
      | succ k =>
        have hr := ih k (by simpa using hk)
        rw [List.set_cons_succ, encSs_cons, encSs_cons]
        simp only [List.getElem_cons_succ]
        rw [← hr]
        have hs : ∀ (i : Nat) (u : Value) (t : List Value), (encS a ++ t).set (i + 7) u = encS a ++ t.set i u := fun i u t => by
          rw [List.set_append_right _ _ (by simp [encS])]
          congr 2
        rw [show (k + 1) * 7 + 1 + j * 2 = (k * 7 + 1 + j * 2) + 7 by omega, hs, show k * 7 + 1 + j * 2 + 7 + 1 = (k * 7 + 1 + j * 2 + 1) + 7 by omega, hs]
  rw [e] at h2
  exact h2
theorem setPt_fr (w : World) (b o : Nat) (p : Pt) : Fr (fun k => k = b) w ((w.setCell ⟨b, o, none⟩ (.int .i64 p.x)).setCell ⟨b, o + 1, none⟩ (.int .i64 p.y)) :=
  ((Fr.refl (fun k => k = b) w).setCell (p := ⟨b, o, none⟩) (.inl rfl) _).setCell (p := ⟨b, o + 1, none⟩) (.inl rfl) _
end Go.Proofs.Ytkkejjfmidgciaa
