/-
  The plain law of PathBox: the least and the greatest places of a sound list, and of one that is moved.
-/
import Derived.Test.YtkkejjfmidgciaaP17
namespace Go.Proofs.Ytkkejjfmidgciaa
open Go.RowKit
set_option linter.unusedVariables false
set_option linter.unusedSimpArgs false
def shP (dx dy : Int) (p : Pt) : Pt := ⟨p.x + dx, p.y + dy⟩
def shTo (dx dy : Int) (n : Nat) (s : Sg) : Sg := ⟨s.kind, if 0 < n then shP dx dy s.a else s.a, if 1 < n then shP dx dy s.b else s.b, if 2 < n then shP dx dy s.c else s.c⟩
def shS (dx dy : Int) (s : Sg) : Sg := shTo dx dy (ptsK s.kind).toNat s
theorem shS_kind (dx dy : Int) (s : Sg) : (shS dx dy s).kind = s.kind := rfl
theorem sound_sg {l : List Sg} (h : SoundP l) {k : Nat} (hk : k < l.length) : folB l[k].kind (prevK l k) = true ∧ 0 ≤ ptsK l[k].kind ∧ (pts l[k]).all fitP = true ∧ someP ((pts l[k]).drop (ptsK l[k].kind).toNat) = false := by
  have h1 := h.2 k hk
  unfold snd1 at h1
  rw [getD_at hk] at h1
  simpa only [Bool.and_eq_true, sgOk, Bool.not_eq_true', decide_eq_true_eq] using h1
theorem ptsK_nat {k : Int} (h : 0 ≤ ptsK k) : ptsK k = 0 ∨ ptsK k = 1 ∨ ptsK k = 3 := by
  rcases ptsK_cases k with h1 | h1 | h1 | h1
  · omega
  · exact .inl h1
  · exact .inr (.inl h1)
  · exact .inr (.inr h1)
theorem segPts_sh (dx dy : Int) (s : Sg) : segPts (shS dx dy s) = (segPts s).map (shP dx dy) := by
  unfold segPts
  rw [shS_kind]
  unfold shS
  rcases ptsK_cases s.kind with h | h | h | h <;> simp [h, pts, shTo]
theorem allPts_sh (dx dy : Int) (l : List Sg) : allPts (l.map (shS dx dy)) = (allPts l).map (shP dx dy) := by
  induction l with
  | nil => rfl
  | cons a r ih =>
    unfold allPts at *
    rw [List.map_cons, List.flatMap_cons, List.flatMap_cons, List.map_append, ih, segPts_sh]
theorem minP_sh (dx dy : Int) (p q : Pt) : minP (shP dx dy p) (shP dx dy q) = shP dx dy (minP p q) := by
  unfold minP shP minZ
  simp only [Pt.mk.injEq]
  constructor <;> split <;> split <;> omega
theorem maxP_sh (dx dy : Int) (p q : Pt) : maxP (shP dx dy p) (shP dx dy q) = shP dx dy (maxP p q) := by
  unfold maxP shP maxZ
  simp only [Pt.mk.injEq]
  constructor <;> split <;> split <;> omega
theorem fold_sh (f : Pt → Pt → Pt) (g : Pt → Pt) (h : ∀ p q, f (g p) (g q) = g (f p q)) (l : List Pt) (a : Pt) : (l.map g).foldl f (g a) = g (l.foldl f a) := by
  induction l generalizing a with
  | nil => rfl
  | cons b r ih => rw [List.map_cons, List.foldl_cons, List.foldl_cons, h, ih]
theorem head_move {l : List Sg} (h : SoundP l) (hn : 0 < l.length) : l[0].kind = 1 := by
  have := (sound_sg h hn).1
  simp only [prevK] at this
  unfold folB at this
  split at this
  · assumption
  · simp at this
theorem head_mem {l : List Sg} (h : SoundP l) (hn : 0 < l.length) : (l.getD 0 sgZ).a ∈ allPts l := by
  have hk := head_move h hn
  rw [getD_at hn]
  unfold allPts
  rw [List.mem_flatMap]
  refine ⟨l[0], List.getElem_mem hn, ?_⟩
  unfold segPts
  rw [hk]
  simp [ptsK, pts]
theorem head_sh (dx dy : Int) {l : List Sg} (h : SoundP l) (hn : 0 < l.length) : ((l.map (shS dx dy)).getD 0 sgZ).a = shP dx dy (l.getD 0 sgZ).a := by
  have hk := head_move h hn
  rw [getD_at hn, getD_at (by simpa using hn), List.getElem_map]
  unfold shS shTo
  rw [hk]
  simp [ptsK]
theorem lo_sh (dx dy : Int) {l : List Sg} (h : SoundP l) (hn : 0 < l.length) : loF (l.map (shS dx dy)) = shP dx dy (loF l) := by
  unfold loF
  rw [allPts_sh, head_sh dx dy h hn]
  exact fold_sh _ _ (minP_sh dx dy) _ _
theorem hi_sh (dx dy : Int) {l : List Sg} (h : SoundP l) (hn : 0 < l.length) : hiF (l.map (shS dx dy)) = shP dx dy (hiF l) := by
  unfold hiF
  rw [allPts_sh, head_sh dx dy h hn]
  exact fold_sh _ _ (maxP_sh dx dy) _ _
theorem mem_seg {l : List Sg} {k : Nat} (hk : k < l.length) {p : Pt} (hp : p ∈ segPts l[k]) : p ∈ allPts l := by
  unfold allPts
  rw [List.mem_flatMap]
  exact ⟨l[k], List.getElem_mem hk, hp⟩
theorem sound_sh (dx dy : Int) {l : List Sg} (h : SoundP l) (hf : (allPts l).all (fun p => fitP (shP dx dy p)) = true) : SoundP (l.map (shS dx dy)) := by
  refine ⟨by rw [List.length_map]; exact h.1, fun k hk => ?_⟩
  have hk' : k < l.length := by simpa using hk
  obtain ⟨h1, h2, h3, h4⟩ := sound_sg h hk'
  have hpk : prevK (l.map (shS dx dy)) k = prevK l k := by
    unfold prevK
    by_cases h0 : k = 0
    · rw [if_pos h0, if_pos h0]
    · rw [if_neg h0, if_neg h0, getD_at (by simp; omega), getD_at (by omega), List.getElem_map]; rfl
  have hff : ∀ p ∈ segPts l[k], fitP (shP dx dy p) = true := fun p hp => List.all_eq_true.1 hf p (mem_seg hk' hp)
  unfold snd1
  rw [getD_at hk, hpk, List.getElem_map, shS_kind, h1, Bool.true_and]
  unfold sgOk
  rw [shS_kind, decide_eq_true h2, Bool.true_and]
  generalize l[k] = s at *
  unfold segPts at hff
  unfold shS shTo
  rcases ptsK_nat h2 with hn | hn | hn
  · rw [hn] at hff h4 ⊢
    simp [pts] at h3 h4 ⊢
    exact ⟨h3, h4⟩
  · rw [hn] at hff h4 ⊢
    simp [pts] at h3 h4 hff ⊢
    exact ⟨⟨hff, h3.2⟩, h4⟩
  · rw [hn] at hff h4 ⊢
    simp [pts] at h3 h4 hff ⊢
    exact ⟨hff, h4⟩
theorem fold_min (l : List Pt) (a : Pt) : (l.foldl minP a).x ≤ a.x ∧ (l.foldl minP a).y ≤ a.y ∧ (∀ p ∈ l, (l.foldl minP a).x ≤ p.x ∧ (l.foldl minP a).y ≤ p.y) ∧
    ((l.foldl minP a).x = a.x ∨ ∃ p ∈ l, (l.foldl minP a).x = p.x) ∧ ((l.foldl minP a).y = a.y ∨ ∃ p ∈ l, (l.foldl minP a).y = p.y) := by
  induction l generalizing a with
  | nil => exact ⟨Int.le_refl _, Int.le_refl _, fun p hp => by simp at hp, .inl rfl, .inl rfl⟩
  | cons b r ih =>
    rw [List.foldl_cons]
    obtain ⟨h1, h2, h3, h4, h5⟩ := ih (minP a b)
    have hx : (minP a b).x ≤ a.x ∧ (minP a b).x ≤ b.x ∧ ((minP a b).x = a.x ∨ (minP a b).x = b.x) := by unfold minP minZ; simp only; split <;> omega
    have hy : (minP a b).y ≤ a.y ∧ (minP a b).y ≤ b.y ∧ ((minP a b).y = a.y ∨ (minP a b).y = b.y) := by unfold minP minZ; simp only; split <;> omega
    refine ⟨by omega, by omega, fun p hp => ?_, ?_, ?_⟩
    · rcases List.mem_cons.1 hp with rfl | hp
      · omega
      · exact h3 p hp
    · rcases h4 with h | ⟨p, hp, h⟩
      · rcases hx.2.2 with e | e
        · exact .inl (h.trans e)
        · exact .inr ⟨b, by simp, h.trans e⟩
      · exact .inr ⟨p, by simp [hp], h⟩
    · rcases h5 with h | ⟨p, hp, h⟩
      · rcases hy.2.2 with e | e
        · exact .inl (h.trans e)
        · exact .inr ⟨b, by simp, h.trans e⟩
      · exact .inr ⟨p, by simp [hp], h⟩
theorem fold_max (l : List Pt) (a : Pt) : a.x ≤ (l.foldl maxP a).x ∧ a.y ≤ (l.foldl maxP a).y ∧ (∀ p ∈ l, p.x ≤ (l.foldl maxP a).x ∧ p.y ≤ (l.foldl maxP a).y) ∧
    ((l.foldl maxP a).x = a.x ∨ ∃ p ∈ l, (l.foldl maxP a).x = p.x) ∧ ((l.foldl maxP a).y = a.y ∨ ∃ p ∈ l, (l.foldl maxP a).y = p.y) := by
  induction l generalizing a with
  | nil => exact ⟨Int.le_refl _, Int.le_refl _, fun p hp => by simp at hp, .inl rfl, .inl rfl⟩
  | cons b r ih =>
    rw [List.foldl_cons]
    obtain ⟨h1, h2, h3, h4, h5⟩ := ih (maxP a b)
    have hx : a.x ≤ (maxP a b).x ∧ b.x ≤ (maxP a b).x ∧ ((maxP a b).x = a.x ∨ (maxP a b).x = b.x) := by unfold maxP maxZ; simp only; split <;> omega
    have hy : a.y ≤ (maxP a b).y ∧ b.y ≤ (maxP a b).y ∧ ((maxP a b).y = a.y ∨ (maxP a b).y = b.y) := by unfold maxP maxZ; simp only; split <;> omega
    refine ⟨by omega, by omega, fun p hp => ?_, ?_, ?_⟩
    · rcases List.mem_cons.1 hp with rfl | hp
      · omega
      · exact h3 p hp
    · rcases h4 with h | ⟨p, hp, h⟩
      · rcases hx.2.2 with e | e
        · exact .inl (h.trans e)
        · exact .inr ⟨b, by simp, h.trans e⟩
      · exact .inr ⟨p, by simp [hp], h⟩
    · rcases h5 with h | ⟨p, hp, h⟩
      · rcases hy.2.2 with e | e
        · exact .inl (h.trans e)
        · exact .inr ⟨b, by simp, h.trans e⟩
      · exact .inr ⟨p, by simp [hp], h⟩
/-- What the law asks of the box. -/
structure Boxed (l : List Sg) : Prop where
  inn : ∀ p ∈ allPts l, (loF l).x ≤ p.x ∧ (loF l).y ≤ p.y ∧ p.x ≤ (hiF l).x ∧ p.y ≤ (hiF l).y
  left : (allPts l).any (fun p => p.x == (loF l).x) = true
  right : (allPts l).any (fun p => p.x == (hiF l).x) = true
  down : (allPts l).any (fun p => p.y == (loF l).y) = true
  up : (allPts l).any (fun p => p.y == (hiF l).y) = true
  fits : ∀ p ∈ allPts l, -2147483648 ≤ p.x ∧ p.x ≤ 2147483647 ∧ -2147483648 ≤ p.y ∧ p.y ≤ 2147483647
  flo : -2147483648 ≤ (loF l).x ∧ (loF l).x ≤ 2147483647 ∧ -2147483648 ≤ (loF l).y ∧ (loF l).y ≤ 2147483647
  fhi : -2147483648 ≤ (hiF l).x ∧ (hiF l).x ≤ 2147483647 ∧ -2147483648 ≤ (hiF l).y ∧ (hiF l).y ≤ 2147483647
theorem fit_seg {l : List Sg} (h : SoundP l) {k : Nat} (hk : k < l.length) {p : Pt} (hp : p ∈ segPts l[k]) : fitP p = true :=
  List.all_eq_true.1 (sound_sg h hk).2.2.1 p (List.mem_of_mem_take hp)
theorem fit_all {l : List Sg} (h : SoundP l) {p : Pt} (hp : p ∈ allPts l) : fitP p = true := by
  unfold allPts at hp
  rw [List.mem_flatMap] at hp
  obtain ⟨s, hs, hp⟩ := hp
  obtain ⟨k, hk, rfl⟩ := List.mem_iff_getElem.1 hs
  exact fit_seg h hk hp
theorem fitP_iff {p : Pt} (h : fitP p = true) : -2147483648 ≤ p.x ∧ p.x ≤ 2147483647 ∧ -2147483648 ≤ p.y ∧ p.y ≤ 2147483647 := by
  simp [fitP, fitZ] at h; omega
theorem boxed {l : List Sg} (h : SoundP l) (hn : 0 < l.length) : Boxed l := by
  have hm := head_mem h hn
  obtain ⟨a1, a2, a3, a4, a5⟩ := fold_min (allPts l) (l.getD 0 sgZ).a
  obtain ⟨b1, b2, b3, b4, b5⟩ := fold_max (allPts l) (l.getD 0 sgZ).a
  have ex : ∀ (f : Pt → Int) (z : Int), (z = f (l.getD 0 sgZ).a ∨ ∃ p ∈ allPts l, z = f p) → ∃ p ∈ allPts l, f p = z := fun f z hz => by
    rcases hz with e | ⟨p, hp, e⟩
    · exact ⟨_, hm, e.symm⟩
    · exact ⟨p, hp, e.symm⟩
  obtain ⟨p1, m1, e1⟩ := ex (·.x) _ a4
  obtain ⟨p2, m2, e2⟩ := ex (·.y) _ a5
  obtain ⟨p3, m3, e3⟩ := ex (·.x) _ b4
  obtain ⟨p4, m4, e4⟩ := ex (·.y) _ b5
  have f1 := fitP_iff (fit_all h m1)
  have f2 := fitP_iff (fit_all h m2)
  have f3 := fitP_iff (fit_all h m3)
  have f4 := fitP_iff (fit_all h m4)
  refine ⟨fun p hp => ⟨(a3 p hp).1, (a3 p hp).2, (b3 p hp).1, (b3 p hp).2⟩, ?_, ?_, ?_, ?_, fun p hp => fitP_iff (fit_all h hp), ?_, ?_⟩
  · exact List.any_eq_true.2 ⟨p1, m1, beq_iff_eq.2 e1⟩
  · exact List.any_eq_true.2 ⟨p3, m3, beq_iff_eq.2 e3⟩
  · exact List.any_eq_true.2 ⟨p2, m2, beq_iff_eq.2 e2⟩
  · exact List.any_eq_true.2 ⟨p4, m4, beq_iff_eq.2 e4⟩
  · unfold loF; omega
  · unfold hiF; omega
end Go.Proofs.Ytkkejjfmidgciaa
