/-
  The walks of the stack's Reset, fits, Need, of the law's own fits and answers.
-/
import Derived.Test.YtdkgbakapinidaaS4
namespace Go.Proofs.Ytdkgbakapinidaa
open Go.RowKit
set_option linter.unusedVariables false
set_option linter.unusedSimpArgs false
theorem ObAt.nob {w w' : World} {b off : Nat} {o : Ob} (h : ObAt w b off o) (hf : Fr Nob w w') : ObAt w' b off o :=
  ⟨cell_nob h.c0 hf, cell_nob h.c1 hf, cell_nob h.c2 hf, cell_nob h.c3 hf, cell_nob h.c4 hf, cell_nob h.c5 hf, cell_nob h.c6 hf, cell_nob h.c7 hf⟩

set_option maxHeartbeats 400000 in
theorem reset_any (g : Nat) (v : Value) (most over under : Int) (l m : List Ob) (x : Value) (S : Nat → Prop) (w : World) (h : Stk w g v most over under l) (hm : 0 ≤ most ∧ most ≤ 9223372036854775807)
    (hx : RowIn w S 8 x m.length (encs m)) (hs : m.length * 72 ≤ 140737488351232) :
    Calls Try.prog 17 #[.pointer (some ⟨g, 0, none⟩), x] w fun e w' => e = .returned (.tuple #[]) ∧ StkTo w g v most over under (m.take most.toNat) w' := by
  obtain ⟨i0, hi, hz0, hz1, hz2⟩ := info_parts info37
  have hlen := hx.len_le
  obtain ⟨A, cap, rfl, h1, h2⟩ : ∃ A c, x = .slice A m.length c ∧ m.length ≤ c ∧ c ≤ maxLen := by obtain ⟨_, A, c, h, h1, h2, _⟩ := hx; exact ⟨A, c, h, h1, h2⟩
  obtain ⟨c0, c1, c2, c3, f3⟩ := h.cells
  obtain ⟨q, rfl⟩ : ∃ q : Nat, most = q := ⟨most.toNat, by omega⟩
  have HH := Lib.hid h
  have HX := Lib.hid hx
  rw [Int.toNat_natCast]
  obtain ⟨k, hk⟩ : ∃ k, min m.length q = k := ⟨_, rfl⟩
  have hkl : k ≤ m.length := by omega
  have hkm : m.take q = m.take k := by rw [← hk, List.take_eq_take_iff]; omega
  rw [hkm]
  have ht := fun w => run_takeV (P := Try.prog) Try.underlying22 hi A m.length cap k (by omega) w
  have hrow := HX.out.takeV k hkl
  rw [encs_take] at hrow
  have HR := Lib.hid hrow
  have HL := Lib.hid (show (m.take k).length = k by simp; omega)
  have hF : ∀ w1 vo, OwnS w1 37 8 vo k (encs (m.take k)) → Fr Nob w w1 → NewV w vo → StkTo w g v (q : Int) over under (m.take k) (w1.setCell ⟨g, 3, none⟩ vo) := by
    intro w1 vo ho hf hn
    refine ⟨vo, Stk.put (m.take k) (HH.out.fr hf fun _ _ hf => hf).1 ho (by simp; omega) rfl, (hf.mono fun _ hf => hf.elim).setCell (.inl (.inl rfl)) _, fun b hb => .inr (hn b hb)⟩
  by_cases hq : q < m.length
  · have hk' : k = q := by omega
    subst hk'
    have hmn : ¬ ((m.length : Int) < k) := by omega
    have hmn2 : (k : Int) < m.length := by omega
    clear hk hm hkm
    have HF := Lib.hid hF
    clear hF hrow h hx c0 c1 c2 c3 f3
    obtain ⟨c0, c1, c2, c3, f3⟩ := HH.out.cells
    go_enter Try.func17, Try.ntmps17
    go_wp2_with fail
    refine (clone_any _ k (m.take k) _ _ (by rw [HL.out]; exact HR.out) (by rw [HL.out]; omega)).mono ?_
    rintro e w1 ⟨vo, rfl, ho, hf, hv⟩
    rw [HL.out] at ho
    have hs1 := (HH.out.fr hf fun _ _ hf => hf).cells
    have k3 := hs1.c3
    have q3 := hs1.f3
    have HFin := Lib.hid (HF.out w1 vo ho hf hv)
    obtain ⟨A1, cap1, rfl, _, _⟩ := ho.form
    clear ho hf hv hs1 c0 c1 c2 c3 f3
    go_wp2_with fail
    go_end0
    exact ⟨rfl, HFin.out⟩
  · have hk' : k = m.length := by omega
    have hmn : ((m.length : Int) ≤ q) := by omega
    subst hk'
    clear hk hm hkm
    have HF := Lib.hid hF
    clear hF hrow h hx c0 c1 c2 c3 f3
    obtain ⟨c0, c1, c2, c3, f3⟩ := HH.out.cells
    go_enter Try.func17, Try.ntmps17
    go_wp2_with fail
    refine (clone_any _ m.length (m.take m.length) _ _ (by rw [HL.out]; exact HR.out) (by rw [HL.out]; omega)).mono ?_
    rintro e w1 ⟨vo, rfl, ho, hf, hv⟩
    rw [HL.out] at ho
    have hs1 := (HH.out.fr hf fun _ _ hf => hf).cells
    have k3 := hs1.c3
    have q3 := hs1.f3
    have HFin := Lib.hid (HF.out w1 vo ho hf hv)
    obtain ⟨A1, cap1, rfl, _, _⟩ := ho.form
    clear ho hf hv hs1 c0 c1 c2 c3 f3
    go_wp2_with fail
    go_end0
    exact ⟨rfl, HFin.out⟩

theorem reset_none (A : Option Addr) (n cap : Nat) (w : World) : Calls Try.prog 17 #[.pointer none, .slice A n cap] w fun e w' => e = .returned (.tuple #[]) ∧ w = w' := by
  go_enter Try.func17, Try.ntmps17
  go_wp2
  go_end0
  exact ⟨rfl, rfl⟩

/-- Is an object of a kind? -/
def fitB (o : Ob) (k : Int) : Bool := if k = -2 then true else if k = -1 then o.kind == 1 || o.kind == 2 else if k = -3 then o.kind == 6 || o.kind == 7 else if k = -4 then o.kind == 7 && o.exec else o.kind == k
set_option maxHeartbeats 1600000 in
theorem fits_any (o : Ob) (k : Int) (w : World) : Calls Try.prog 25 #[obV o, .int .i64 k] w fun e w' => e = .returned (.bool (fitB o k)) ∧ Fr Nob w w' := by
  unfold obV
  by_cases h2 : k = -2
  · subst h2
    rw [show fitB o (-2) = true from rfl]
    go_enter Try.func25, Try.ntmps25
    go_wp2
    go_ret
    exact ⟨rfl, (Fr.refl Nob w).alloc _⟩
  by_cases h1 : k = -1
  · subst h1
    by_cases ha : o.kind = 1
    · rw [show fitB o (-1) = true by simp [fitB, ha]]
      have hb : (o.kind == 1) = true := by simp [ha]
      clear ha
      go_enter Try.func25, Try.ntmps25
      go_wp2
      go_ret
      exact ⟨rfl, (Fr.refl Nob w).alloc _⟩
    by_cases hc : o.kind = 2
    · rw [show fitB o (-1) = true by simp [fitB, hc]]
      have hb : (o.kind == 1) = false := by simp [ha]
      have hd : (o.kind == 2) = true := by simp [hc]
      clear ha hc
      go_enter Try.func25, Try.ntmps25
      go_wp2
      go_ret
      exact ⟨rfl, (Fr.refl Nob w).alloc _⟩
    · rw [show fitB o (-1) = false by simp [fitB, ha, hc]]
      have hb : (o.kind == 1) = false := by simp [ha]
      have hd : (o.kind == 2) = false := by simp [hc]
      clear ha hc
      go_enter Try.func25, Try.ntmps25
      go_wp2
      go_ret
      exact ⟨rfl, (Fr.refl Nob w).alloc _⟩
  by_cases h3 : k = -3
  · subst h3
    by_cases ha : o.kind = 6
    · rw [show fitB o (-3) = true by simp [fitB, ha]]
      have hb : (o.kind == 6) = true := by simp [ha]
      clear ha
      go_enter Try.func25, Try.ntmps25
      go_wp2
      go_ret
      exact ⟨rfl, (Fr.refl Nob w).alloc _⟩
    by_cases hc : o.kind = 7
    · rw [show fitB o (-3) = true by simp [fitB, hc]]
      have hb : (o.kind == 6) = false := by simp [ha]
      have hd : (o.kind == 7) = true := by simp [hc]
      clear ha hc
      go_enter Try.func25, Try.ntmps25
      go_wp2
      go_ret
      exact ⟨rfl, (Fr.refl Nob w).alloc _⟩
    · rw [show fitB o (-3) = false by simp [fitB, ha, hc]]
      have hb : (o.kind == 6) = false := by simp [ha]
      have hd : (o.kind == 7) = false := by simp [hc]
      clear ha hc
      go_enter Try.func25, Try.ntmps25
      go_wp2
      go_ret
      exact ⟨rfl, (Fr.refl Nob w).alloc _⟩
  by_cases h4 : k = -4
  · subst h4
    by_cases ha : o.kind = 7
    · rw [show fitB o (-4) = o.exec by simp [fitB, ha]]
      have hb : (o.kind == 7) = true := by simp [ha]
      clear ha
      go_enter Try.func25, Try.ntmps25
      go_wp2
      go_ret
      exact ⟨rfl, (Fr.refl Nob w).alloc _⟩
    · rw [show fitB o (-4) = false by simp [fitB, ha]]
      have hb : (o.kind == 7) = false := by simp [ha]
      clear ha
      go_enter Try.func25, Try.ntmps25
      go_wp2
      go_ret
      exact ⟨rfl, (Fr.refl Nob w).alloc _⟩
  by_cases ha : o.kind = k
  · rw [show fitB o k = true by simp [fitB, ha, h1, h2, h3, h4]]
    have hb : (o.kind == k) = true := by simp [ha]
    clear ha
    go_enter Try.func25, Try.ntmps25
    go_wp2
    go_ret
    exact ⟨rfl, (Fr.refl Nob w).alloc _⟩
  · rw [show fitB o k = false by simp [fitB, ha, h1, h2, h3, h4]]
    have hb : (o.kind == k) = false := by simp [ha]
    clear ha
    go_enter Try.func25, Try.ntmps25
    go_wp2
    go_ret
    exact ⟨rfl, (Fr.refl Nob w).alloc _⟩

set_option maxHeartbeats 1600000 in
theorem lfits_any (o : Ob) (k : Int) (w : World) : Calls Try.prog 19 #[obV o, .int .i64 k] w fun e w' => e = .returned (.bool (fitB o k)) ∧ Fr Nob w w' := by
  unfold obV
  by_cases h2 : k = -2
  · subst h2
    rw [show fitB o (-2) = true from rfl]
    go_enter Try.func19, Try.ntmps19
    go_wp2
    go_ret
    exact ⟨rfl, (Fr.refl Nob w).alloc _⟩
  by_cases h1 : k = -1
  · subst h1
    by_cases ha : o.kind = 1
    · rw [show fitB o (-1) = true by simp [fitB, ha]]
      have hb : (o.kind == 1) = true := by simp [ha]
      clear ha
      go_enter Try.func19, Try.ntmps19
      go_wp2
      go_ret
      exact ⟨rfl, (Fr.refl Nob w).alloc _⟩
    by_cases hc : o.kind = 2
    · rw [show fitB o (-1) = true by simp [fitB, hc]]
      have hb : (o.kind == 1) = false := by simp [ha]
      have hd : (o.kind == 2) = true := by simp [hc]
      clear ha hc
      go_enter Try.func19, Try.ntmps19
      go_wp2
      go_ret
      exact ⟨rfl, (Fr.refl Nob w).alloc _⟩
    · rw [show fitB o (-1) = false by simp [fitB, ha, hc]]
      have hb : (o.kind == 1) = false := by simp [ha]
      have hd : (o.kind == 2) = false := by simp [hc]
      clear ha hc
      go_enter Try.func19, Try.ntmps19
      go_wp2
      go_ret
      exact ⟨rfl, (Fr.refl Nob w).alloc _⟩
  by_cases h3 : k = -3
  · subst h3
    by_cases ha : o.kind = 6
    · rw [show fitB o (-3) = true by simp [fitB, ha]]
      have hb : (o.kind == 6) = true := by simp [ha]
      clear ha
      go_enter Try.func19, Try.ntmps19
      go_wp2
      go_ret
      exact ⟨rfl, (Fr.refl Nob w).alloc _⟩
    by_cases hc : o.kind = 7
    · rw [show fitB o (-3) = true by simp [fitB, hc]]
      have hb : (o.kind == 6) = false := by simp [ha]
      have hd : (o.kind == 7) = true := by simp [hc]
      clear ha hc
      go_enter Try.func19, Try.ntmps19
      go_wp2
      go_ret
      exact ⟨rfl, (Fr.refl Nob w).alloc _⟩
    · rw [show fitB o (-3) = false by simp [fitB, ha, hc]]
      have hb : (o.kind == 6) = false := by simp [ha]
      have hd : (o.kind == 7) = false := by simp [hc]
      clear ha hc
      go_enter Try.func19, Try.ntmps19
      go_wp2
      go_ret
      exact ⟨rfl, (Fr.refl Nob w).alloc _⟩
  by_cases h4 : k = -4
  · subst h4
    by_cases ha : o.kind = 7
    · rw [show fitB o (-4) = o.exec by simp [fitB, ha]]
      have hb : (o.kind == 7) = true := by simp [ha]
      clear ha
      go_enter Try.func19, Try.ntmps19
      go_wp2
      go_ret
      exact ⟨rfl, (Fr.refl Nob w).alloc _⟩
    · rw [show fitB o (-4) = false by simp [fitB, ha]]
      have hb : (o.kind == 7) = false := by simp [ha]
      clear ha
      go_enter Try.func19, Try.ntmps19
      go_wp2
      go_ret
      exact ⟨rfl, (Fr.refl Nob w).alloc _⟩
  by_cases ha : o.kind = k
  · rw [show fitB o k = true by simp [fitB, ha, h1, h2, h3, h4]]
    have hb : (o.kind == k) = true := by simp [ha]
    clear ha
    go_enter Try.func19, Try.ntmps19
    go_wp2
    go_ret
    exact ⟨rfl, (Fr.refl Nob w).alloc _⟩
  · rw [show fitB o k = false by simp [fitB, ha, h1, h2, h3, h4]]
    have hb : (o.kind == k) = false := by simp [ha]
    clear ha
    go_enter Try.func19, Try.ntmps19
    go_wp2
    go_ret
    exact ⟨rfl, (Fr.refl Nob w).alloc _⟩


end Go.Proofs.Ytdkgbakapinidaa
