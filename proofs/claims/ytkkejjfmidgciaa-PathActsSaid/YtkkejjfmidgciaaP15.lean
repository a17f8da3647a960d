/-
  The walk of Curve; a step of building a path out of a sound list.
-/
import Derived.Test.YtkkejjfmidgciaaP11
namespace Go.Proofs.Ytkkejjfmidgciaa
open Go.RowKit
set_option linter.unusedVariables false
set_option linter.unusedSimpArgs false
set_option maxRecDepth 8000 in
set_option maxHeartbeats 1600000 in
theorem curve_any (g : Nat) (v : Value) (p : PS) (a b c : Pt) (w : World) (h : Pth w g v p) (hb : PB p) :
    Calls Try.prog 13 #[.pointer (some ⟨g, 0, none⟩), ptV a, ptV b, ptV c] w fun e w' => e = .returned (.int .i64 (curveF p a b c).1) ∧ PthTo w g v (curveF p a b c).2 w' := by
  obtain ⟨wa, hwa⟩ : ∃ ws, w.alloc (.cells #[.int .i64 a.x, .int .i64 a.y] 23) = ws := ⟨_, rfl⟩
  obtain ⟨wb, hwb⟩ : ∃ ws, wa.alloc (.cells #[.int .i64 b.x, .int .i64 b.y] 23) = ws := ⟨_, rfl⟩
  obtain ⟨ws, hws⟩ : ∃ ws, wb.alloc (.cells #[.int .i64 c.x, .int .i64 c.y] 23) = ws := ⟨_, rfl⟩
  have z1 : wa.heap.size = w.heap.size + 1 := by rw [← hwa]; simp
  have z2 : wb.heap.size = w.heap.size + 2 := by rw [← hwb]; simp [z1]
  have z3 : ws.heap.size = w.heap.size + 3 := by rw [← hws]; simp [z2]
  have fa : Fr Nob w wa := by rw [← hwa]; exact (Fr.refl Nob w).alloc _
  have fb : Fr Nob wa wb := by rw [← hwb]; exact (Fr.refl Nob wa).alloc _
  have fc : Fr Nob wb ws := by rw [← hws]; exact (Fr.refl Nob wb).alloc _
  have b1 : Blk ws w.heap.size (encP a).toArray 23 := by
    have h1 : Blk wa w.heap.size (encP a).toArray 23 := by rw [← hwa]; exact Blk.new w _ _
    exact (h1.fr fb fun hh => hh).fr fc fun hh => hh
  have b2 : Blk ws (w.heap.size + 1) (encP b).toArray 23 := by
    have h1 : Blk wb wa.heap.size (encP b).toArray 23 := by rw [← hwb]; exact Blk.new wa _ _
    rw [z1] at h1
    exact h1.fr fc fun hh => hh
  have b3 : Blk ws (w.heap.size + 2) (encP c).toArray 23 := by
    have h1 : Blk ws wb.heap.size (encP c).toArray 23 := by rw [← hws]; exact Blk.new wb _ _
    rwa [z2] at h1
  have hf : Fr Nob w ws := (fa.trans0 fb).trans0 fc
  have hW : ((w.alloc (.cells #[.int .i64 a.x, .int .i64 a.y] 23)).alloc (.cells #[.int .i64 b.x, .int .i64 b.y] 23)).alloc (.cells #[.int .i64 c.x, .int .i64 c.y] 23) = ws := by rw [hwa, hwb, hws]
  have c0 := b1.cell 0
  have c1 := b1.cell 1
  have c2 := b2.cell 0
  have c3 := b2.cell 1
  have c4 := b3.cell 0
  have c5 := b3.cell 1
  simp only [List.getElem?_toArray, encP, List.getElem?_cons_succ, List.getElem?_cons_zero] at c0 c1 c2 c3 c4 c5
  have HH := Lib.hid (h.nob hf)
  have HF := Lib.hid hf
  have HW := Lib.hid hW
  have HZ := Lib.hid z3
  clear h b1 b2 b3 hf hwa hwb hws fa fb fc hW z1 z2 z3
  obtain ⟨r, hr⟩ : ∃ r, curveF p a b c = r := ⟨_, rfl⟩
  rw [hr]
  unfold ptV
  cases hal : [a, b, c].all fitP with
  | true =>
    have hr2 : drawF p ⟨3, a, b, c⟩ c = r := by rw [← hr]; unfold curveF; rw [if_pos hal]
    have hr' := Lib.hid hr2
    have E1 := Lib.hid hal
    clear hr hr2 hal
    go_enter Try.func13, Try.ntmps13
    go_wp2_with fail
    rw [HW.out, ← HZ.out]
    refine (fits_any _ [a, b, c] _ _ (RowIn.pts ws [a, b, c] (by simp))).mono ?_
    rw [E1.out]
    rintro e w1 ⟨rfl, hf⟩
    have hf1 := ((Fr.refl Nob ws).alloc (.cells (encPs [a, b, c]).toArray 23)).trans0 hf
    have d0 := cell_nob c0 hf1
    have d1 := cell_nob c1 hf1
    have d2 := cell_nob c2 hf1
    have d3 := cell_nob c3 hf1
    have d4 := cell_nob c4 hf1
    have d5 := cell_nob c5 hf1
    have HF1 := Lib.hid hf1
    clear hf hf1 c0 c1 c2 c3 c4 c5
    go_wp2_with fail
    refine (draw_any g v p ⟨3, a, b, c⟩ c _ (HH.out.nob HF1.out) hb).mono ?_
    rw [hr'.out]
    rintro e w3 ⟨rfl, hq⟩
    have HQ := Lib.hid ((hq.after HF1.out).after HF.out)
    clear hq
    go_wp2_with fail
    go_ret
    exact ⟨rfl, HQ.out⟩
  | false =>
    have hr2 : r = (11, p) := by rw [← hr]; unfold curveF; rw [if_neg (by rw [hal]; simp)]
    subst hr2
    have E1 := Lib.hid hal
    clear hr hal
    go_enter Try.func13, Try.ntmps13
    go_wp2_with fail
    rw [HW.out, ← HZ.out]
    refine (fits_any _ [a, b, c] _ _ (RowIn.pts ws [a, b, c] (by simp))).mono ?_
    rw [E1.out]
    rintro e w1 ⟨rfl, hf⟩
    have HF1 := Lib.hid (((Fr.refl Nob ws).alloc (.cells (encPs [a, b, c]).toArray 23)).trans0 hf)
    clear hf
    go_wp2_with fail
    go_ret
    exact ⟨rfl, (PthTo.same HH.out HF1.out).after HF.out⟩
theorem curve_l {w0 w : World} {g : Nat} {p : PS} (a b c : Pt) (h : LP w0 w g p) (hb : PB p) :
    Calls Try.prog 13 #[.pointer (some ⟨g, 0, none⟩), ptV a, ptV b, ptV c] w fun e w' => e = .returned (.int .i64 (curveF p a b c).1) ∧ LP w0 w' g (curveF p a b c).2 := by
  obtain ⟨v, hp, hf, hk⟩ := h
  refine (curve_any g v p a b c w hp hb).mono ?_
  rintro e w' ⟨rfl, ht⟩
  exact ⟨rfl, LP.step hf hk ht⟩
theorem lastK_take (l : List Sg) (k : Nat) (h : k ≤ l.length) : lastK (l.take k) = prevK l k := by
  unfold lastK prevK
  have hl : (l.take k).length = k := by simp; omega
  by_cases h0 : k = 0
  · subst h0; simp
  · rw [dif_pos (by omega), if_neg h0]
    have : k - 1 < l.length := by omega
    simp only [hl]
    rw [List.getElem_take]
    simp [List.getD_eq_getElem?_getD, this]
def stepF (p : PS) (s : Sg) : Int × PS := if s.kind = 1 then moveF p s.a else if s.kind = 2 then lineF p s.a else if s.kind = 3 then curveF p s.a s.b s.c else closeF p
theorem take_snoc (l : List Sg) (k : Nat) (h : k < l.length) : l.take (k + 1) = l.take k ++ [l[k]] := List.take_succ_eq_append_getElem h
theorem add_ok (p : PS) (to : Pt) (s : Sg) (l : List Sg) (k : Nat) (hk : k < l.length) (hl : p.list = l.take k) (hm : p.most = l.length) (hs : l[k] = s) :
    (addF p to [s]).1 = 0 ∧ (addF p to [s]).2.list = l.take (k + 1) ∧ (addF p to [s]).2.most = l.length := by
  have hn : p.list.length = k := by rw [hl]; simp; omega
  have : ¬ p.most < p.list.length + ([s] : List Sg).length := by rw [hm, hn]; simp; omega
  unfold addF
  rw [if_neg this]
  refine ⟨rfl, ?_, hm⟩
  rw [take_snoc l k hk, hs, hl]
theorem pt_some {p : Pt} (h : (!decide (p = oo)) = false) : p = oo := by simpa using h
theorem step_ok (l : List Sg) (hS : SoundP l) (k : Nat) (hk : k < l.length) (p : PS) (hl : p.list = l.take k) (hm : p.most = l.length) :
    (l[k].kind = 1 ∨ l[k].kind = 2 ∨ l[k].kind = 3 ∨ l[k].kind = 4) ∧ (stepF p l[k]).1 = 0 ∧ (stepF p l[k]).2.list = l.take (k + 1) ∧ (stepF p l[k]).2.most = l.length := by
  have h1 := hS.2 k hk
  unfold snd1 at h1
  rw [getD_at hk] at h1
  have hK : lastK p.list = prevK l k := by rw [hl]; exact lastK_take l k (by omega)
  rw [← hK] at h1
  generalize hs : l[k] = s at *
  simp only [Bool.and_eq_true, sgOk, Bool.not_eq_true'] at h1
  obtain ⟨hfo, hpos, hfit, hz⟩ := h1
  have hkind : s.kind = 1 ∨ s.kind = 2 ∨ s.kind = 3 ∨ s.kind = 4 := by
    by_cases a : s.kind = 1 ∨ s.kind = 2 ∨ s.kind = 3 ∨ s.kind = 4
    · exact a
    · have : ptsK s.kind = -1 := by unfold ptsK; rw [if_neg (by omega), if_neg (by omega), if_neg (by omega)]
      rw [this] at hpos
      simp at hpos
  refine ⟨hkind, ?_⟩
  obtain ⟨kd, a, b, c⟩ := s
  simp only at hkind
  have hfa : fitP a = true := by simp [pts] at hfit; exact hfit.1
  rcases hkind with rfl | rfl | rfl | rfl
  · have hz' : b = oo ∧ c = oo := by simpa [ptsK, pts, someP] using hz
    obtain ⟨rfl, rfl⟩ := hz'
    have hne : ¬ lastK p.list = 1 := by simpa [folB] using hfo
    have hn : p.list.length = k := by rw [hl]; simp; omega
    have hno : ¬ p.most < p.list.length + 1 := by rw [hm, hn]; omega
    show (moveF p a).1 = 0 ∧ (moveF p a).2.list = l.take (k + 1) ∧ (moveF p a).2.most = l.length
    unfold moveF
    rw [if_pos hfa, if_neg hne, if_neg hno]
    refine ⟨rfl, ?_, hm⟩
    rw [take_snoc l k hk, hs, hl]; rfl
  · have hz' : b = oo ∧ c = oo := by simpa [ptsK, pts, someP] using hz
    obtain ⟨rfl, rfl⟩ := hz'
    have hne : ¬ lastK p.list = 0 ∧ ¬ lastK p.list = 4 := by simpa [folB] using hfo
    show (lineF p a).1 = 0 ∧ (lineF p a).2.list = l.take (k + 1) ∧ (lineF p a).2.most = l.length
    unfold lineF drawF
    rw [if_pos hfa, if_neg hne.1, if_neg hne.2]
    exact add_ok p a (lineS a) l k hk hl hm hs
  · have hne : ¬ lastK p.list = 0 ∧ ¬ lastK p.list = 4 := by simpa [folB] using hfo
    show (curveF p a b c).1 = 0 ∧ (curveF p a b c).2.list = l.take (k + 1) ∧ (curveF p a b c).2.most = l.length
    unfold curveF drawF
    rw [if_pos (show [a, b, c].all fitP = true from hfit), if_neg hne.1, if_neg hne.2]
    exact add_ok p c _ l k hk hl hm hs
  · have hz' : a = oo ∧ b = oo ∧ c = oo := by simpa [ptsK, pts, someP] using hz
    obtain ⟨rfl, rfl, rfl⟩ := hz'
    have hne : ¬ lastK p.list = 0 ∧ ¬ lastK p.list = 4 := by simpa [folB] using hfo
    show (closeF p).1 = 0 ∧ (closeF p).2.list = l.take (k + 1) ∧ (closeF p).2.most = l.length
    unfold closeF
    rw [if_neg (by rintro (h | h); exact hne.1 h; exact hne.2 h)]
    exact add_ok p p.start closeS l k hk hl hm hs
end Go.Proofs.Ytkkejjfmidgciaa
