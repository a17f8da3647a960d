/-
  A stack of the call's own; rolling, in plain Lean; the walk of StackRolls.
-/
import Derived.Test.YtdkgbakapinidaaS7
namespace Go.Proofs.Ytdkgbakapinidaa
open Go.RowKit
set_option linter.unusedVariables false
set_option linter.unusedSimpArgs false
/-- A stack that the call itself has made, behind w0; nothing that was there has turned. -/
def LSt (w0 w : World) (g : Nat) (most over under : Int) (l : List Ob) : Prop :=
  ∃ v, Stk w g v most over under l ∧ w0.heap.size ≤ g ∧ NewV w0 v ∧ Fr Nob w0 w
theorem LSt.to {w0 w w' : World} {g : Nat} {v : Value} {most over under : Int} {l' : List Ob} (h : StkTo w g v most over under l' w') (hg : w0.heap.size ≤ g) (hv : NewV w0 v) (hf : Fr Nob w0 w) : LSt w0 w' g most over under l' := by
  obtain ⟨v', h1, h2, h3⟩ := h
  refine ⟨v', h1, hg, fun b hb => ?_, hf.trans h2 fun k hk => ?_⟩
  · rcases h3 b hb with h | h
    · exact hv b h
    · have := hf.size; omega
  · rcases hk with rfl | h
    · exact .inr hg
    · exact .inr (hv k h)
theorem LSt.fr {w0 w w' : World} {g : Nat} {most over under : Int} {l : List Ob} (h : LSt w0 w g most over under l) (hf : Fr Nob w w') : LSt w0 w' g most over under l := by
  obtain ⟨v, h1, h2, h3, h4⟩ := h
  exact ⟨v, h1.fr hf fun _ _ hf => hf, h2, h3, h4.trans0 hf⟩
theorem LSt.nob {w0 w : World} {g : Nat} {most over under : Int} {l : List Ob} (h : LSt w0 w g most over under l) : Fr Nob w0 w := by
  obtain ⟨v, h1, h2, h3, h4⟩ := h
  exact h4

theorem LSt.sep {w0 w w' : World} {g : Nat} {most over under : Int} {l : List Ob} (h : LSt w0 w g most over under l) (hf : Fr Nob w w') {x : Value} (hx : NewV w x) :
    ∃ v, Stk w' g v most over under l ∧ w0.heap.size ≤ g ∧ NewV w0 v ∧ Fr Nob w0 w' ∧ ∀ k, inB x k → ¬ stB g v k := by
  obtain ⟨v, h1, h2, h3, h4⟩ := h
  refine ⟨v, h1.fr hf fun _ _ hf => hf, h2, h3, h4.trans0 hf, fun k hk hs => ?_⟩
  have hge := hx k hk
  rcases hs with rfl | hs
  · have := h1.1.lt; omega
  · have := h1.2.lt k hs; omega

/-- m is l, its top n rolled down by s. -/
structure IsRot (l : List Ob) (n s : Nat) (m : List Ob) : Prop where
  len : m.length = l.length
  low : ∀ i, i < l.length - n → m[i]? = l[i]?
  top : ∀ i, i < n → m[l.length - n + i]? = l[l.length - n + (i + s) % n]?
theorem IsRot.refl (l : List Ob) (n : Nat) : IsRot l n 0 l := ⟨rfl, fun _ _ => rfl, fun i hi => by rw [Nat.add_zero, Nat.mod_eq_of_lt hi]⟩
theorem rollF_len (l : List Ob) (n k : Nat) (hn : n ≤ l.length) : (rollF l n k).length = l.length := by
  unfold rollF; simp only [List.length_append, List.length_take, List.length_drop]; omega
theorem IsRot.roll {l m : List Ob} {n s : Nat} (h : IsRot l n s m) (hn : n ≤ l.length) (k : Nat) (hk : k < n) : IsRot l n (s + (n - k)) (rollF m n k) := by
  have hl := h.len
  refine ⟨by rw [rollF_len _ _ _ (by omega), hl], fun i hi => ?_, fun i hi => ?_⟩
  · unfold rollF
    rw [List.getElem?_append_left (by simp; omega), List.getElem?_take, if_pos (by omega)]
    exact h.low i hi
  · have e1 : (rollF m n k)[l.length - n + i]? = m[l.length - n + (i + (n - k)) % n]? := by
      unfold rollF
      rw [List.getElem?_append_right (by simp; omega), List.length_take, hl, show l.length - n + i - min (l.length - n) l.length = i by omega]
      by_cases hik : i < k
      · rw [List.getElem?_append_left (by simp; omega), List.getElem?_drop, List.getElem?_drop, Nat.mod_eq_of_lt (by omega)]
        congr 1; omega
      · rw [List.getElem?_append_right (by simp; omega), List.length_drop, List.length_drop, List.getElem?_take, if_pos (by omega), List.getElem?_drop]
        have : (i + (n - k)) % n = i - k := by
          rw [show i + (n - k) = (i - k) + n by omega, Nat.add_mod_right, Nat.mod_eq_of_lt (by omega)]
        rw [this]
        congr 1; omega
    rw [e1, h.top _ (Nat.mod_lt _ (by omega))]
    congr 2
    rw [Nat.mod_add_mod]
    congr 1; omega
theorem IsRot.back {l m : List Ob} {n s : Nat} (h : IsRot l n s m) (hs : s % n = 0) : m = l := by
  apply List.ext_getElem?
  intro i
  by_cases hi : i < l.length - n
  · exact h.low i hi
  · by_cases hl : i < l.length
    · have := h.top (i - (l.length - n)) (by omega)
      rw [show l.length - n + (i - (l.length - n)) = i by omega] at this
      rw [this, Nat.add_mod, hs, Nat.add_zero, Nat.mod_mod, Nat.mod_eq_of_lt (by omega)]
      congr 1; omega
    · rw [List.getElem?_eq_none (by rw [h.len]; omega), List.getElem?_eq_none (by omega)]
theorem rollK_back (n : Nat) (j : Int) (hn : 0 < n) : (n - rollK n j + (n - rollK n (-j))) % n = 0 := by
  have h1 := rollK_lt n j hn
  have h2 := rollK_lt n (-j) hn
  have e1 : (rollK n j : Int) = j % n := Int.toNat_of_nonneg (Int.emod_nonneg _ (by omega))
  have e2 : (rollK n (-j) : Int) = (-j) % n := Int.toNat_of_nonneg (Int.emod_nonneg _ (by omega))
  have h3 : ((rollK n j : Int) + rollK n (-j)) % n = 0 := by rw [e1, e2, ← Int.add_emod, Int.add_right_neg, Int.zero_emod]
  have h4 : rollK n j + rollK n (-j) = 0 ∨ rollK n j + rollK n (-j) = n := by
    have h5 : (rollK n j + rollK n (-j)) % n = 0 := by exact_mod_cast h3
    obtain ⟨c, hc⟩ := Nat.dvd_of_mod_eq_zero h5
    have hc2 : c < 2 := by
      apply Nat.lt_of_mul_lt_mul_left (a := n)
      omega
    rcases (show c = 0 ∨ c = 1 by omega) with rfl | rfl
    · left; simpa using hc
    · right; simpa using hc
  rcases h4 with h | h
  · rw [show n - rollK n j + (n - rollK n (-j)) = n + n by omega]; simp
  · rw [show n - rollK n j + (n - rollK n (-j)) = n by omega]; simp
theorem rollK_one (n : Nat) (hn : 1 < n) : rollK n 1 = 1 := by
  unfold rollK
  rw [Int.emod_eq_of_lt (by omega) (by omega)]; rfl
theorem rollK_one1 : rollK 1 1 = 0 := rfl
theorem rot_all (n : Nat) (hn : 0 < n) : (n * (n - rollK n 1)) % n = 0 := by simp

def rollL (l : List Ob) (n : Nat) (j : Int) : List Ob := if n = 0 then l else rollF l n (rollK n j)
theorem rollL_len (l : List Ob) (n : Nat) (j : Int) (hn : n ≤ l.length) : (rollL l n j).length = l.length := by
  unfold rollL; split
  · rfl
  · exact rollF_len _ _ _ hn
theorem lroll (w0 w : World) (g : Nat) (most over under : Int) (l : List Ob) (h : LSt w0 w g most over under l) (n : Nat) (j : Int) (hn : n ≤ l.length) (hj : -9223372036854775808 ≤ j ∧ j ≤ 9223372036854775807) (hs : l.length * 72 ≤ 140737488351232) :
    Calls Try.prog 9 #[.pointer (some ⟨g, 0, none⟩), .int .i64 n, .int .i64 j] w fun e w' => e = .returned (.int .i64 0) ∧ LSt w0 w' g most over under (rollL l n j) := by
  obtain ⟨v, h1, h2, h3, h4⟩ := h
  by_cases h0 : n = 0
  · subst h0
    rw [show rollL l 0 j = l from rfl]
    exact (roll_zero g v most over under l j w h1).mono fun e w' ⟨he, hw⟩ => ⟨he, v, hw ▸ h1, h2, h3, hw ▸ h4⟩
  · rw [show rollL l n j = rollF l n (rollK n j) by simp [rollL, h0]]
    exact (roll_in g v most over under l n j hn (by omega) hj w h1 hs).mono fun e w' ⟨he, hw⟩ => ⟨he, LSt.to hw h2 h3 h4⟩
theorem lall (w0 w : World) (g : Nat) (most over under : Int) (l : List Ob) (h : LSt w0 w g most over under l) (hs : l.length * 72 ≤ 140737488351232) :
    Calls Try.prog 11 #[.pointer (some ⟨g, 0, none⟩)] w fun e w' => ∃ vo, e = .returned vo ∧ RowIn w' (inB vo) 8 vo l.length (encs l) ∧ LSt w0 w' g most over under l ∧ NewV w0 vo := by
  obtain ⟨v, h1, h2, h3, h4⟩ := h
  exact (all_any g v most over under l w h1 hs).mono fun e w' ⟨vo, he, ho, hf, hn⟩ => ⟨vo, he, ho.row, ⟨v, h1.fr hf fun _ _ hf => hf, h2, h3, h4.trans0 hf⟩, hn.le h4.size⟩

set_option maxHeartbeats 800000 in
theorem rolls_far (v : Value) (l : List Ob) (n j : Int) (w : World) (hl : RowIn w (Lt w) 8 v l.length (encs l)) (h2 : 200 < l.length) :
    Calls Try.prog 3 #[v, .int .u8 n, .int .i32 j] w fun e w' => e = .returned (.bool true) ∧ Fr Nob w w' := by
  have hlen := hl.len_le
  obtain ⟨A, cap, rfl, _, _⟩ : ∃ A c, v = .slice A l.length c ∧ l.length ≤ c ∧ c ≤ maxLen := by obtain ⟨_, A, c, h, h1, h2, _⟩ := hl; exact ⟨A, c, h, h1, h2⟩
  have hi : (200 : Int) < l.length := by omega
  clear hl
  go_enter Try.func3, Try.ntmps3
  go_wp2_with fail
  refine (new_any 1000 1 2 (by omega) _).mono ?_
  rintro e w1 ⟨rfl, _, hf1⟩
  have HF1 := Lib.hid hf1
  clear hf1
  go_wp2_with fail
  refine (answers_any _).mono ?_
  rintro e w2 ⟨rfl, hf⟩
  have HF2 := Lib.hid (HF1.out.trans0 hf)
  clear hf
  go_wp2_with fail
  refine (answers_any _).mono ?_
  rintro e w3 ⟨rfl, hf⟩
  have HF3 := Lib.hid (HF2.out.trans0 hf)
  clear hf
  go_wp2_with fail
  go_ret
  exact ⟨rfl, HF3.out⟩

set_option maxHeartbeats 1600000 in
theorem rolls_near (v : Value) (l : List Ob) (n j : Int) (hn : 0 ≤ n ∧ n ≤ 255) (hj : -2147483648 ≤ j ∧ j ≤ 2147483647) (w : World) (hl : RowIn w (Lt w) 8 v l.length (encs l)) (h2 : l.length ≤ 200) :
    Calls Try.prog 3 #[v, .int .u8 n, .int .i32 j] w fun e w' => e = .returned (.bool true) ∧ Fr Nob w w' := by
  obtain ⟨i0, hi, hz0, hz1, hz2⟩ := info_parts info37
  obtain ⟨A, cap, rfl, _, _⟩ : ∃ A c, v = .slice A l.length c ∧ l.length ≤ c ∧ c ≤ maxLen := by obtain ⟨_, A, c, h, h1, h2, _⟩ := hl; exact ⟨A, c, h, h1, h2⟩
  have HL := Lib.hid hl
  clear hl
  have hn1 := hn.1
  have hn2 := hn.2
  have hdec : decide ((200 : Int) < l.length) = false := by simp; omega
  go_enter Try.func3, Try.ntmps3
  go_wp2_with fail
  refine (new_any 1000 1 2 (by omega) _).mono ?_
  rintro e w1 ⟨rfl, hs, hf⟩
  have HS : Hid (LSt w w1 w.heap.size 1000 1 2 []) := ⟨_, hs, Nat.le_refl _, NewV.nil _, hf⟩
  clear hs hf
  go_wp2_with fail
  refine (answers_any _).mono ?_
  rintro e w2 ⟨rfl, hf⟩
  have HS2 := Lib.hid (HS.out.fr hf)
  clear hf HS
  have hrow : RowIn (w2.alloc (.cells #[] 37)) (Lt w) 8 (.slice A l.length cap) l.length (encs l) := HL.out.fr (HS2.out.nob.alloc _) (fun _ _ hf => hf)
  have HR := Lib.hid hrow
  clear hrow
  go_wp2_with (at_builtin; go_loud (refine wpList_appG _ rfl _ _ 22 rfl 37 i0 _ 8 72 Try.underlying22 hi hz0 hz1 hz2 rfl (by decide) _ 0 [] rfl (OwnS.new0 w2 37 8) (Lt w) _ l.length (encs l) rfl HR.out ?c1 ?c2 ?c3 ?_))
  case c1 => exact encs_one l
  case c2 => unfold maxLen at *; omega
  case c3 => omega
  intro v' w3 hown hfr hat _
  have hN := app_new (w := w2) (NewV.at w2 0 0) ((Fr.refl _ _).alloc _) hfr (by simpa using hat)
  have HN1 := Lib.hid hN.1
  have HW : Hid (RowIn w3 (inB v') 8 v' l.length (encs l)) := hown.row
  have HB := Lib.hid hN.2
  obtain ⟨A1, cap1, rfl, _, _⟩ := hown.form
  clear hown hfr hat hN
  go_wp2_with fail
  obtain ⟨v0, hs, hg, hv, hf, hsep⟩ := HS2.out.sep HN1.out HB.out
  refine (push_in w.heap.size v0 1000 1 2 [] l _ _ _ hs HW.out (by omega) hsep (by simp; omega) (by simp; omega)).mono ?_
  rintro e w4 ⟨rfl, hto⟩
  rw [List.nil_append] at hto
  have HS4 := Lib.hid (LSt.to hto hg hv hf)
  clear hto hg hv hf hs hsep HS2 HB HW HN1 HR
  -- the number of those that are rolled
  have key : ∃ k : Nat, k ≤ l.length ∧ ((0 < (l.length : Int) ∧ n % ((l.length : Int) + 1) = k) ∨ ((l.length : Int) ≤ 0 ∧ k = 0)) := by
    by_cases h0 : 0 < l.length
    · refine ⟨(n % ((l.length : Int) + 1)).toNat, ?_, .inl ⟨by omega, ?_⟩⟩
      · have := Int.emod_lt_of_pos n (show (0 : Int) < (l.length : Int) + 1 by omega); omega
      · exact (Int.toNat_of_nonneg (Int.emod_nonneg _ (by omega))).symm
    · exact ⟨0, by omega, .inr ⟨by omega, rfl⟩⟩
  obtain ⟨k, hk, hkey⟩ := key
  have HK := Lib.hid hkey
  clear hkey
  rcases HK.out with ⟨q1, q2⟩ | ⟨q1, q2⟩
  · clear HK
    go_wp2_with fail
    rw [q2]
    refine (lroll w _ _ _ _ _ l HS4.out k j hk (by omega) (by omega)).mono ?_
    rintro e w5 ⟨rfl, h⟩
    have HS5 := Lib.hid h
    clear h HS4
    go_wp2_with fail
    refine (lroll w _ _ _ _ _ _ HS5.out k (-j) (by rw [rollL_len _ _ _ hk]; exact hk) (by omega) (by rw [rollL_len _ _ _ hk]; omega)).mono ?_
    rintro e w6 ⟨rfl, h⟩
    have hback : rollL (rollL l k j) k (-j) = l := by
      unfold rollL
      by_cases h0 : k = 0
      · simp [h0]
      · rw [if_neg h0, if_neg h0]
        exact (((IsRot.refl l k).roll hk _ (rollK_lt k j (by omega))).roll hk _ (rollK_lt k (-j) (by omega))).back (by rw [Nat.zero_add]; exact rollK_back k j (by omega))
    rw [hback] at h
    have HS6 := Lib.hid h
    clear h HS5 hback
    go_wp2_with fail
    refine (lall w _ _ _ _ _ _ HS6.out (by omega)).mono ?_
    rintro e w7 ⟨vo, rfl, hr, h, hn⟩
    have HS7 := Lib.hid h
    have HR7 := Lib.hid hr
    have HL7 := Lib.hid (HL.out.fr h.nob fun _ _ hf => hf)
    clear h hr hn HS6
    go_wp2_with fail
    refine (same_any _ _ l l _ _ _ HR7.out HL7.out).mono ?_
    rintro e w8 ⟨rfl, m8, rfl⟩
    have HS8 := Lib.hid (HS7.out.fr ((Fr.refl Nob w7).drewN m8))
    clear HS7 HR7 HL7
    rw [decide_eq_true rfl]
    go_wp2_with fail
    go_loopw [9] (fun q wr => ∃ (i : Nat) (m : List Ob), i ≤ k ∧ q = .int .i64 i ∧ Hid (IsRot l k (i * (k - rollK k 1)) m) ∧ Hid (LSt w wr w.heap.size 1000 1 2 m)) (fun q _ => k - (intOf q).toNat)
    case atStart => exact ⟨0, l, by omega, rfl, (by rw [Nat.zero_mul]; exact IsRot.refl l k), HS8.out⟩
    case round =>
      obtain ⟨i, m, hik, rfl, HI, HM⟩ := hrel
      by_cases hlt : i < k
      · have hml : m.length = l.length := HI.out.len
        have HI' : Hid (IsRot l k ((i + 1) * (k - rollK k 1)) (rollL m k 1)) := by
          show IsRot _ _ _ _
          unfold rollL
          rw [if_neg (by omega), Nat.succ_mul]
          exact HI.out.roll hk _ (rollK_lt k 1 (by omega))
        have HC := fun w0 wr h => lroll w0 wr w.heap.size 1000 1 2 m h k 1 (by omega) (by omega) (by omega)
        have HCC := Lib.hid HC
        clear hml HC
        go_wp2_with fail
        refine (HCC.out w _ HM.out).mono ?_
        rintro e w9 ⟨rfl, h⟩
        have HM9 := Lib.hid h
        clear h
        go_wp2_with fail
        go_roundw
        case rel => exact ⟨i + 1, _, by omega, by go_num, HI', HM9⟩
        case measure => simp [intOf]; omega
      · obtain rfl : i = k := by omega
        have hml : m = l := by
          by_cases h0 : i = 0
          · subst h0
            exact HI.out.back (by simp)
          · exact HI.out.back (rot_all i (by omega))
        subst hml
        clear hlt
        go_wp2_with fail
        refine (lall w _ _ _ _ _ _ HM.out (by omega)).mono ?_
        rintro e w9 ⟨vo, rfl, hr, h, hn⟩
        have HS9 := Lib.hid h
        have HR9 := Lib.hid hr
        have HL9 := Lib.hid (HL.out.fr h.nob fun _ _ hf => hf)
        clear h hr hn
        go_wp2_with fail
        refine (same_any _ _ m m _ _ _ HR9.out HL9.out).mono ?_
        rintro e w10 ⟨rfl, m8, rfl⟩
        rw [decide_eq_true rfl]
        go_wp2_with fail
        go_ret
        exact ⟨rfl, HS9.out.nob.drewN _⟩
  · subst q2
    clear HK
    have hnil : l = [] := List.length_eq_zero_iff.1 (by omega)
    subst hnil
    go_wp2_with fail
    refine (lroll w _ _ _ _ _ [] HS4.out 0 j (by simp) (by omega) (by simp)).mono ?_
    rintro e w5 ⟨rfl, h⟩
    have HS5 := Lib.hid h
    clear h HS4
    go_wp2_with fail
    refine (lroll w _ _ _ _ _ _ HS5.out 0 (-j) (by omega) (by omega) (by simp [rollL])).mono ?_
    rintro e w6 ⟨rfl, h⟩
    have HS6 : Hid (LSt w w6 w.heap.size 1000 1 2 []) := h
    clear h HS5
    go_wp2_with fail
    refine (lall w _ _ _ _ _ _ HS6.out (by simp)).mono ?_
    rintro e w7 ⟨vo, rfl, hr, h, hn⟩
    have HS7 := Lib.hid h
    have HR7 := Lib.hid hr
    have HL7 := Lib.hid (HL.out.fr h.nob fun _ _ hf => hf)
    clear h hr hn HS6
    go_wp2_with fail
    refine (same_any _ _ [] [] _ _ _ HR7.out HL7.out).mono ?_
    rintro e w8 ⟨rfl, m8, rfl⟩
    have HS8 := Lib.hid (HS7.out.fr ((Fr.refl Nob w7).drewN m8))
    clear HS7 HR7 HL7
    rw [decide_eq_true rfl]
    go_wp2_with fail
    go_loopw [9] (fun q wr => q = .int .i64 0 ∧ Hid (LSt w wr w.heap.size 1000 1 2 [])) (fun _ _ => 0)
    case atStart => exact ⟨rfl, HS8.out⟩
    case round =>
      obtain ⟨rfl, HM⟩ := hrel
      go_wp2_with fail
      refine (lall w _ _ _ _ _ _ HM.out (by simp)).mono ?_
      rintro e w9 ⟨vo, rfl, hr, h, hn⟩
      have HS9 := Lib.hid h
      have HR9 := Lib.hid hr
      have HL9 := Lib.hid (HL.out.fr h.nob fun _ _ hf => hf)
      clear h hr hn
      go_wp2_with fail
      refine (same_any _ _ [] [] _ _ _ HR9.out HL9.out).mono ?_
      rintro e w10 ⟨rfl, m8, rfl⟩
      rw [decide_eq_true rfl]
      go_wp2_with fail
      go_ret
      exact ⟨rfl, HS9.out.nob.drewN _⟩
end Go.Proofs.Ytdkgbakapinidaa
