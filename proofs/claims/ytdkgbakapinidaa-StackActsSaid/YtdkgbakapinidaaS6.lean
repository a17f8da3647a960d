/-
  The walks of the stack's Need and of the law's own answers.
-/
import Derived.Test.YtdkgbakapinidaaS5
namespace Go.Proofs.Ytdkgbakapinidaa
open Go.RowKit
set_option linter.unusedVariables false
set_option linter.unusedSimpArgs false
def ints (ks : List Int) : List Value := ks.map (.int .i64)
theorem ints_at {ks : List Int} {j : Nat} (h : j < ks.length) : (ints ks)[j]? = some (.int .i64 ks[j]) := by simp [ints, List.getElem?_eq_getElem h]
/-- Are the objects of these kinds? -/
def fitL : List Ob → List Int → Bool
  | o :: r, k :: ks => fitB o k && fitL r ks
  | _, _ => true
theorem fitL_all (l : List Ob) : ∀ (ks : List Int), l.length = ks.length → (∀ j, (h : j < l.length) → (h' : j < ks.length) → fitB l[j] ks[j] = true) → fitL l ks = true := by
  induction l with
  | nil => intro ks _ _; cases ks <;> rfl
  | cons o r ih =>
    intro ks hl h
    cases ks with
    | nil => rfl
    | cons k ks =>
      have h0 := h 0 (by simp) (by simp)
      simp at h0
      simp only [fitL, h0, Bool.true_and]
      exact ih ks (by simpa using hl) fun j hj hj' => by
        have := h (j + 1) (by simp; omega) (by simp; omega)
        simp only [List.getElem_cons_succ] at this
        exact this
theorem fitL_not (l : List Ob) : ∀ (ks : List Int) (j : Nat) (h : j < l.length) (h' : j < ks.length), fitB l[j] ks[j] = false → fitL l ks = false := by
  induction l with
  | nil => intro ks j h; simp at h
  | cons o r ih =>
    intro ks j h h' hf
    cases ks with
    | nil => simp at h'
    | cons k ks =>
      cases j with
      | zero => simp at hf; simp [fitL, hf]
      | succ j =>
        have := ih ks j (by simpa using h) (by simpa using h') (by simpa using hf)
        simp [fitL, this]
def needF (l : List Ob) (ks : List Int) (under : Int) : Int := if l.length < ks.length then under else if fitL (l.drop (l.length - ks.length)) ks then 0 else 16
theorem need_none (A : Option Addr) (n cap : Nat) (w : World) : Calls Try.prog 18 #[.pointer none, .slice A n cap] w fun e w' => e = .returned (.int .i64 21) ∧ w = w' := by
  go_enter Try.func18, Try.ntmps18
  go_wp2_with fail
  refine (check_none _ _).mono ?_
  rintro e w1 ⟨rfl, rfl⟩
  go_wp2
  go_ret
  exact ⟨rfl, rfl⟩
theorem need_err (g : Nat) (v : Value) (most over under : Int) (l : List Ob) (ks : List Int) (x : Value) (S : Nat → Prop) (w : World) (h : Stk w g v most over under l) (hx : RowIn w S 1 x ks.length (ints ks))
    (hu : under ≠ 0) (hl : l.length < ks.length) :
    Calls Try.prog 18 #[.pointer (some ⟨g, 0, none⟩), x] w fun e w' => e = .returned (.int .i64 (needF l ks under)) ∧ Fr Nob w w' := by
  have hlen := hx.len_le
  obtain ⟨A, cap, rfl, h1, h2⟩ : ∃ A c, x = .slice A ks.length c ∧ ks.length ≤ c ∧ c ≤ maxLen := by obtain ⟨_, A, c, h, h1, h2, _⟩ := hx; exact ⟨A, c, h, h1, h2⟩
  have e1 : needF l ks under = under := by simp [needF, hl]
  have e2 : chkF ks.length l.length under = under := by unfold chkF; rw [if_neg (by omega), if_pos (by omega)]
  rw [e1]
  have HC := Lib.hid e2
  have HH := Lib.hid h
  have hb1 : (under == 0) = false := by simpa using hu
  have hb2 : (under != 0) = true := by simpa using hu
  clear h e1 e2 hu hx
  go_enter Try.func18, Try.ntmps18
  go_wp2_with fail
  refine (check_any g v most over under l _ _ HH.out).mono ?_
  rintro e w1 ⟨rfl, rfl⟩
  rw [HC.out]
  go_wp2
  go_ret
  exact ⟨rfl, Fr.refl _ _⟩

set_option maxHeartbeats 1600000 in
theorem need_in (g : Nat) (v : Value) (most over under : Int) (l : List Ob) (ks : List Int) (x : Value) (S : Nat → Prop) (w : World) (h : Stk w g v most over under l) (hx : RowIn w S 1 x ks.length (ints ks))
    (hl : ks.length ≤ l.length) :
    Calls Try.prog 18 #[.pointer (some ⟨g, 0, none⟩), x] w fun e w' => e = .returned (.int .i64 (needF l ks under)) ∧ Fr Nob w w' := by
  have hlen := hx.len_le
  obtain ⟨i0, hi, hz0, hz1, hz2⟩ := info_parts info37
  have e1 : needF l ks under = if fitL (l.drop (l.length - ks.length)) ks then 0 else 16 := by unfold needF; rw [if_neg (by omega)]
  have e2 : chkF ks.length l.length under = 0 := by unfold chkF; rw [if_neg (by omega), if_neg (by omega)]
  have HC := Lib.hid e2
  have HE := Lib.hid e1
  have HH := Lib.hid h
  have HX := Lib.hid hx
  obtain ⟨A, cap, rfl, h1, h2⟩ := h.form
  obtain ⟨k, hk⟩ : ∃ k, l.length - ks.length = k := ⟨_, rfl⟩
  have hkn : k + ks.length = l.length := by omega
  have hkk : (l.length : Int) - ks.length = k := by omega
  have hd := fun w => run_dropV (P := Try.prog) Try.underlying22 hi A l.length cap k (by omega) w
  rw [hz1] at hd
  have hrow := HH.out.2.row.dropV k (by omega) (by omega)
  rw [encs_drop, show l.length - k = ks.length by omega] at hrow
  have HL : Hid ((l.drop k).length = ks.length) := by show (l.drop k).length = _; simp; omega
  have HK := Lib.hid hk
  have HLL := Lib.hid hl
  obtain ⟨B, c', hB, hB1, hB2⟩ : ∃ B c', dropV 8 (.slice A l.length cap) k = .slice B ks.length c' ∧ ks.length ≤ c' ∧ c' ≤ maxLen := by obtain ⟨_, B, c', h1, h2, h3, _⟩ := hrow; exact ⟨B, c', h1, h2, h3⟩
  rw [hB] at hd hrow
  unfold maxLen at hB2
  have HR := Lib.hid hrow
  clear h hx hrow hB e1 e2 hk
  obtain ⟨c0, c1, c2, c3, f3⟩ := HH.out.cells
  by_cases h0 : ks.length = 0
  · obtain ⟨_, A', cap', rfl, _, _⟩ := HX.out
    have HF : Hid (needF l ks under = 0) := by
      have hz : ks = [] := List.length_eq_zero_iff.1 h0
      show needF l ks under = 0
      rw [HE.out, hz]
      cases hq : l.drop (l.length - [].length) <;> simp [fitL]
    have hn0 : ks.length ≤ 0 := by omega
    clear h0
    go_enter Try.func18, Try.ntmps18
    go_wp2_with fail
    refine (check_any g _ most over under l _ _ HH.out).mono ?_
    rintro e w1 ⟨rfl, rfl⟩
    rw [HC.out]
    go_wp2
    go_quiet (fail)
    go_wp2
    go_loopw [29] (fun q wr => q = .int .i64 0 ∧ Hid (Fr Nob w wr)) (fun _ _ => 0)
    case atStart => exact ⟨rfl, (Fr.refl Nob w).drewN _⟩
    case round =>
      obtain ⟨rfl, HF2⟩ := hrel
      go_wp2
      go_ret
      exact ⟨ret_i64 HF.out.symm, HF2.out⟩
  · obtain ⟨bk, ok, ck, rfl, hx1, hx2, _, hxc⟩ := HX.out.pos (by simp [ints]; omega)
    have HXC := Lib.hid hxc
    obtain ⟨bl, ol, cl, hv, _, _, _, hlc⟩ := (show RowIn w _ 8 _ (l.drop k).length (encs (l.drop k)) by rw [HL.out]; exact HR.out).ob (by rw [HL.out]; omega)
    rw [HL.out] at hv
    obtain ⟨rfl, rfl⟩ : B = some ⟨bl, ol, none⟩ ∧ c' = cl := by cases hv; exact ⟨rfl, rfl⟩
    have HLC := Lib.hid hlc
    have hn0 : 0 < ks.length := by omega
    clear hxc hlc hv h0
    go_enter Try.func18, Try.ntmps18
    go_wp2_with fail
    refine (check_any g _ most over under l _ _ HH.out).mono ?_
    rintro e w1 ⟨rfl, rfl⟩
    rw [HC.out]
    go_wp2
    go_quiet (fail)
    go_wp2
    clear hd c0 c1 c2 c3 f3
    go_loopw [29] (fun q wr => ∃ i : Nat, i ≤ ks.length ∧ q = .int .i64 i ∧ Hid (Fr Nob w wr) ∧ Hid (∀ j, j < i → (h : j < (l.drop k).length) → (h' : j < ks.length) → fitB (l.drop k)[j] ks[j] = true)) (fun q _ => ks.length - (intOf q).toNat)
    case atStart => exact ⟨0, by omega, rfl, (Fr.refl Nob w).drewN _, fun j hj => by omega⟩
    case round =>
      obtain ⟨i, hi', rfl, HF, HA⟩ := hrel
      by_cases hlt : i < ks.length
      · have hlt2 : i < (l.drop k).length := by rw [HL.out]; exact hlt
        obtain ⟨a0, a1, a2, a3, a4, a5, a6, a7⟩ := (HLC.out i hlt2).nob HF.out
        have x0 := cell_nob (HXC.out i _ (ints_at hlt)) HF.out
        have hil : (i : Int) < ks.length := by omega
        have HB : Hid (fitB (l.drop k)[i] ks[i] = fitB (l.drop k)[i] ks[i]) := rfl
        generalize hz : (l.drop k)[i] = o at *
        generalize hy : ks[i] = kd at *
        have HZ := Lib.hid hz
        have HY := Lib.hid hy
        clear hz hy
        have hbx := Blk.new wr #[.int .i64 o.kind, .bool o.exec, .int .i64 o.access, .int .i64 o.n, .string o.name, .int .i64 o.ref, .int .i64 o.frm, .int .i64 o.len] 37
        have hf2 := HF.out.alloc (.cells #[.int .i64 o.kind, .bool o.exec, .int .i64 o.access, .int .i64 o.n, .string o.name, .int .i64 o.ref, .int .i64 o.frm, .int .i64 o.len] 37)
        have y0 := cell_nob (HXC.out i _ (ints_at hlt)) hf2
        rw [HY.out] at y0
        obtain ⟨k0, k1, k2, k3, k4, k5, k6, k7⟩ := ObC.of hbx
        have HF2 := Lib.hid hf2
        clear hbx hf2
        go_wp2_with fail
        generalize hw2 : wr.alloc (.cells #[.int .i64 o.kind, .bool o.exec, .int .i64 o.access, .int .i64 o.n, .string o.name, .int .i64 o.ref, .int .i64 o.frm, .int .i64 o.len] 37) = w2 at *
        clear hw2
        go_still_tail 5, (by kernel_rfl)
        change wpList _ _ _ _ _ w2.drew
        go_wp2_with fail
        refine (fits_any o kd _).mono ?_
        rintro e w3 ⟨rfl, hf3⟩
        have HF3 : Hid (Fr Nob w w3) := HF2.out.drew.trans0 hf3
        clear hf3
        cases hq : fitB o kd
        · have HN : Hid (needF l ks under = 16) := by
            show needF l ks under = 16
            rw [HE.out, HK.out, fitL_not (l.drop k) ks i hlt2 hlt (by rw [HZ.out, HY.out]; exact hq)]
            rfl
          clear hq HB
          go_wp2_with fail
          go_ret
          exact ⟨ret_i64 HN.out.symm, HF3.out⟩
        · have HA' : Hid (∀ j, j < i + 1 → (h : j < (l.drop k).length) → (h' : j < ks.length) → fitB (l.drop k)[j] ks[j] = true) := fun j hj h h' => by
            by_cases e : j = i
            · subst e; rw [HZ.out, HY.out]; exact hq
            · exact HA.out j (by omega) h h'
          clear hq HB HA
          go_wp2_with fail
          go_roundw
          case rel => exact ⟨i + 1, by omega, by go_num, HF3, HA'⟩
          case measure => simp [intOf]; omega
      · have HN : Hid (needF l ks under = 0) := by
          show needF l ks under = 0
          rw [HE.out, HK.out, fitL_all (l.drop k) ks HL.out fun j h h' => HA.out j (by omega) h h']
          rfl
        have hge : ks.length ≤ i := by omega
        clear HA
        go_wp2_with fail
        go_ret
        exact ⟨ret_i64 HN.out.symm, HF.out⟩

set_option maxHeartbeats 800000 in
theorem answers_any (w : World) : Calls Try.prog 7 #[] w fun e w' => e = .returned (.bool true) ∧ Fr Nob w w' := by
  go_enter Try.func7, Try.ntmps7
  go_wp2_with fail
  refine (new_any 2 5 6 (by omega) _).mono ?_
  rintro e w1 ⟨rfl, hs, hf⟩
  have hlt := hs.1.lt
  have HS := Lib.hid hs
  have HF := Lib.hid hf
  clear hs hf
  go_wp2_with fail
  have hfa := (Fr.refl Nob w1).alloc (.cells #[.int .i64 1, .bool false, .int .i64 0, .int .i64 7, .string ⟨#[]⟩, .int .i64 0, .int .i64 0, .int .i64 0] 37)
  have hrow := RowIn.lit w1 37 8 #[.int .i64 1, .bool false, .int .i64 0, .int .i64 7, .string ⟨#[]⟩, .int .i64 0, .int .i64 0, .int .i64 0] 1 rfl (by decide)
  refine (push_in w.heap.size (.slice none 0 0) 2 5 6 [] [⟨1, false, 0, 7, ⟨#[]⟩, 0, 0, 0⟩] _ _ _ (HS.out.fr hfa fun _ _ hf => hf) hrow (by omega) ?_ (by simp) (by simp)).mono ?_
  · rintro k rfl (h | h)
    · omega
    · simp [Value.ownBlock] at h
  rintro e w2 ⟨rfl, v2, hs2, hf2, hb2⟩
  have HS2 := Lib.hid hs2
  have HF2 : Hid (Fr Nob w w2) := (HF.out.trans0 hfa).trans hf2 fun k hk => by
    rcases hk with rfl | h
    · exact .inr (Nat.le_refl _)
    · simp [Value.ownBlock] at h
  clear hs2 hf2 hb2 hrow hfa
  go_wp2_with fail
  refine (len_any _ _ _ _ _ _ _ HS2.out).mono ?_
  rintro e w3 ⟨rfl, rfl⟩
  go_wp2_with fail
  have hfa := (Fr.refl Nob w2).alloc (.cells #[.int .i64 0, .bool false, .int .i64 0, .int .i64 0, .string ⟨#[]⟩, .int .i64 0, .int .i64 0, .int .i64 0, .int .i64 0, .bool false, .int .i64 0, .int .i64 0, .string ⟨#[]⟩, .int .i64 0, .int .i64 0, .int .i64 0] 37)
  refine (push_over w.heap.size v2 2 5 6 _ _ 2 2 _ (HS2.out.fr hfa fun _ _ hf => hf) (by omega) (by omega) (by simp)).mono ?_
  rintro e w3 ⟨rfl, m, rfl⟩
  have HF3 := Lib.hid ((HF2.out.trans0 hfa).drewN m)
  clear hfa
  go_wp2_with fail
  go_ret
  exact ⟨rfl, HF3.out⟩
end Go.Proofs.Ytdkgbakapinidaa
