/-
  Texts joined in build order: The walks of package fix: all, within, over, Add, Mul, Sum. The walks of fix.Sum and of the steps of package mat. The walks of two, point, Delta, Apply of package mat.
-/
import Derived.Test.YtkkejjfmidgciaaDoorJSNone7
import Derived.BigRegion
/- The walks of package fix: all, within, over, Add, Mul, Sum. -/
namespace Go.Proofs.YtkkejjfmidgciaaDoor
open Go.RowKit
set_option linter.unusedVariables false
set_option linter.unusedSimpArgs false
theorem fall_any (v : Value) (l : List Int) (S : Nat → Prop) (w : World) (h : RowIn w S 1 v l.length (ints l)) :
    Calls Tryd.prog 141 #[v] w fun e w' => e = .returned (.bool (l.all fitZ)) ∧ w = w' := by
  by_cases h0 : l.length = 0
  · obtain rfl : l = [] := List.length_eq_zero_iff.1 h0
    obtain ⟨_, A, c, rfl, _⟩ := h
    go_enter Tryd.func141, Tryd.ntmps141
    go_wp2
    go_loopw [7] (fun q wr => q = .int .i64 0 ∧ wr = w) (fun _ _ => 0)
    case atStart => exact ⟨rfl, rfl⟩
    case round =>
      obtain ⟨rfl, rfl⟩ := hrel
      go_wp2
      go_ret
      exact ⟨rfl, rfl⟩
  · obtain ⟨b, off, cap, rfl, h1, h2, _, hA⟩ := h.int (by omega)
    have HA := Lib.hid hA
    clear h hA
    go_enter Tryd.func141, Tryd.ntmps141
    go_wp2
    go_loopw [7] (fun q wr => ∃ k : Nat, k ≤ l.length ∧ q = .int .i64 k ∧ Hid (∀ j (hj : j < l.length), j < k → fitZ l[j] = true) ∧ wr = w) (fun q _ => l.length - (intOf q).toNat)
    case atStart => exact ⟨0, by omega, rfl, fun j _ h => by omega, rfl⟩
    case round =>
      obtain ⟨k, hk, rfl, HT, rfl⟩ := hrel
      by_cases hlt : k < l.length
      · have a0 := HA.out k hlt
        have i1 : (k : Int) < l.length := by omega
        have HS := Lib.hid (fix_fits l[k] wr)
        by_cases hp : fitZ l[k] = true
        · rw [hp] at HS
          have HT2 := Lib.hid (show ∀ j (hj : j < l.length), j < k + 1 → fitZ l[j] = true by
            intro j hj hjk
            rcases Nat.lt_or_ge j k with h | h
            · exact HT.out j hj h
            · obtain rfl : j = k := by omega
              exact hp)
          clear hp
          generalize l[k] = x at *
          go_wp2_with fail
          refine HS.out.mono ?_
          rintro e w1 ⟨rfl, rfl⟩
          go_wp2_with fail
          go_roundw
          case rel => exact ⟨k + 1, by omega, by go_num, HT2, trivial⟩
          case measure => simp [intOf]; omega
        · have hp' : fitZ l[k] = false := by simpa using hp
          rw [hp'] at HS
          have HE := Lib.hid (show false = l.all fitZ by
            symm
            rw [List.all_eq_false]
            exact ⟨_, List.getElem_mem hlt, hp⟩)
          clear hp hp'
          generalize l[k] = x at *
          go_wp2_with fail
          refine HS.out.mono ?_
          rintro e w1 ⟨rfl, rfl⟩
          go_wp2_with fail
          go_ret
          exact ⟨ret_bool HE.out, rfl⟩
      · have HE := Lib.hid (show true = l.all fitZ by
          symm
          rw [List.all_eq_true]
          intro x hx
          obtain ⟨i, hi, rfl⟩ := List.mem_iff_getElem.1 hx
          exact HT.out i hi (by omega))
        have hge : l.length ≤ k := by omega
        go_wp2
        go_ret
        exact ⟨ret_bool HE.out, rfl⟩
def withinF (n : Int) : Int × Int := if fitZ n then (n, 0) else (0, 18)
theorem fwithin_any (n : Int) (w : World) : Calls Tryd.prog 142 #[.int .i64 n] w fun e w' => e = .returned (.tuple #[.int .i64 (withinF n).1, .int .i64 (withinF n).2]) ∧ w = w' := by
  have HS := Lib.hid (fix_fits n w)
  unfold withinF
  by_cases hp : fitZ n = true
  · rw [hp] at HS
    rw [if_pos hp]
    clear hp
    go_enter Tryd.func142, Tryd.ntmps142
    go_wp2_with fail
    refine HS.out.mono ?_
    rintro e w1 ⟨rfl, rfl⟩
    go_wp2_with fail
    go_ret2
    exact ⟨rfl, rfl⟩
  · have hp' : fitZ n = false := by simpa using hp
    rw [hp'] at HS
    rw [if_neg hp]
    clear hp hp'
    go_enter Tryd.func142, Tryd.ntmps142
    go_wp2_with fail
    refine HS.out.mono ?_
    rintro e w1 ⟨rfl, rfl⟩
    go_wp2_with fail
    go_ret2
    exact ⟨rfl, rfl⟩
def overF (a : Int) : Int := if 65536 ≤ 2 * a.tmod 65536 then a.tdiv 65536 + 1 else if 65536 ≤ -2 * a.tmod 65536 then a.tdiv 65536 - 1 else a.tdiv 65536
theorem fover_any (a : Int) (w : World) (h : -4611686018427387904 ≤ a ∧ a ≤ 4611686018427387904) : Calls Tryd.prog 152 #[.int .i64 a, .int .i64 65536] w fun e w' => e = .returned (.int .i64 (overF a)) ∧ Fr Nob w w' := by
  have h1 := Int.tmod_lt_of_pos a (show (0 : Int) < 65536 by decide)
  have h2 := Int.lt_tmod_of_pos a (show (0 : Int) < 65536 by decide)
  have h3 := Int.mul_tdiv_add_tmod a 65536
  have HO := Lib.hid (show overF a = if 65536 ≤ 2 * a.tmod 65536 then a.tdiv 65536 + 1 else if 65536 ≤ -2 * a.tmod 65536 then a.tdiv 65536 - 1 else a.tdiv 65536 from rfl)
  have w1 : wrap64 (2 * a.tmod 65536) = 2 * a.tmod 65536 := IntWalk.wrap64_in _ (by omega)
  have w2 : wrap64 (-2 * a.tmod 65536) = -2 * a.tmod 65536 := IntWalk.wrap64_in _ (by omega)
  have w3 : wrap64 (a.tdiv 65536 + 1) = a.tdiv 65536 + 1 := IntWalk.wrap64_in _ (by omega)
  have w5 : wrap64 (a.tdiv 65536) = a.tdiv 65536 := IntWalk.wrap64_in _ (by omega)
  have w4 : wrap64 (a.tdiv 65536 - 1) = a.tdiv 65536 - 1 := IntWalk.wrap64_in _ (by omega)
  clear h1 h2 h3 h
  by_cases c1 : 65536 ≤ 2 * a.tmod 65536
  · rw [show overF a = a.tdiv 65536 + 1 by rw [HO.out, if_pos c1]]
    go_enter Tryd.func152, Tryd.ntmps152
    go_wp2_with fail
    go_quiet (fail)
    go_wp2_with fail
    go_ret
    exact ⟨ret_i64 w3, (Fr.refl _ _).drewN _⟩
  · by_cases c2 : 65536 ≤ -2 * a.tmod 65536
    · rw [show overF a = a.tdiv 65536 - 1 by rw [HO.out, if_neg c1, if_pos c2]]
      go_enter Tryd.func152, Tryd.ntmps152
      go_wp2_with fail
      go_quiet (fail)
      go_wp2_with fail
      go_ret
      exact ⟨ret_i64 w4, (Fr.refl _ _).drewN _⟩
    · rw [show overF a = a.tdiv 65536 by rw [HO.out, if_neg c1, if_neg c2]]
      go_enter Tryd.func152, Tryd.ntmps152
      go_wp2_with fail
      go_quiet (fail)
      go_wp2_with fail
      go_ret
      exact ⟨ret_i64 w5, (Fr.refl _ _).drewN _⟩
theorem mul_le (a b : Int) (ha : -2147483648 ≤ a ∧ a ≤ 2147483647) (hb : -2147483648 ≤ b ∧ b ≤ 2147483647) : -4611686018427387904 ≤ a * b ∧ a * b ≤ 4611686018427387904 := by
  have h : (a * b).natAbs ≤ 2147483648 * 2147483648 := by
    rw [Int.natAbs_mul]
    exact Nat.mul_le_mul (by omega) (by omega)
  omega
def addZ (a b : Int) : Int × Int := if fitZ a && fitZ b then withinF (a + b) else (0, 11)
def mulZ (a b : Int) : Int × Int := if fitZ a && fitZ b then withinF (overF (a * b)) else (0, 11)
theorem all_two (a b : Int) : [a, b].all fitZ = (fitZ a && fitZ b) := by simp
theorem fadd_any (a b : Int) (w : World) : Calls Tryd.prog 121 #[.int .i64 a, .int .i64 b] w fun e w' => e = .returned (.tuple #[.int .i64 (addZ a b).1, .int .i64 (addZ a b).2]) ∧ Fr Nob w w' := by
  have HA := Lib.hid (fall_any _ [a, b] _ (w.alloc (.cells #[.int .i64 a, .int .i64 b] 3)) ((show Blk (w.alloc (.cells #[.int .i64 a, .int .i64 b] 3)) w.heap.size (ints [a, b]).toArray 3 from Blk.new _ _ _).ints (by simp [maxLen])))
  have HF := Lib.hid ((Fr.refl Nob w).alloc (.cells #[.int .i64 a, .int .i64 b] 3))
  rw [all_two] at HA
  unfold addZ
  cases hc : fitZ a && fitZ b with
  | true =>
    rw [hc] at HA
    rw [if_pos rfl]
    have h1 := fitZ_le (show fitZ a = true by simp at hc; exact hc.1)
    have h2 := fitZ_le (show fitZ b = true by simp at hc; exact hc.2)
    have hw : wrap64 (a + b) = a + b := IntWalk.wrap64_in _ (by omega)
    have HW := Lib.hid (fun w => fwithin_any (a + b) w)
    generalize withinF (a + b) = r at *
    clear hc h1 h2
    go_enter Tryd.func121, Tryd.ntmps121
    go_wp2_with fail
    refine HA.out.mono ?_
    rintro e w1 ⟨rfl, rfl⟩
    go_wp2_with fail
    refine (HW.out _).mono ?_
    rintro e w1 ⟨rfl, rfl⟩
    go_wp2_with fail
    go_ret2
    exact ⟨rfl, HF.out⟩
  | false =>
    rw [hc] at HA
    rw [if_neg (by decide)]
    clear hc
    go_enter Tryd.func121, Tryd.ntmps121
    go_wp2_with fail
    refine HA.out.mono ?_
    rintro e w1 ⟨rfl, rfl⟩
    go_wp2_with fail
    go_ret2
    exact ⟨rfl, HF.out⟩
theorem fmul_any (a b : Int) (w : World) : Calls Tryd.prog 150 #[.int .i64 a, .int .i64 b] w fun e w' => e = .returned (.tuple #[.int .i64 (mulZ a b).1, .int .i64 (mulZ a b).2]) ∧ Fr Nob w w' := by
  have HA := Lib.hid (fall_any _ [a, b] _ (w.alloc (.cells #[.int .i64 a, .int .i64 b] 3)) ((show Blk (w.alloc (.cells #[.int .i64 a, .int .i64 b] 3)) w.heap.size (ints [a, b]).toArray 3 from Blk.new _ _ _).ints (by simp [maxLen])))
  have HF := Lib.hid ((Fr.refl Nob w).alloc (.cells #[.int .i64 a, .int .i64 b] 3))
  rw [all_two] at HA
  unfold mulZ
  cases hc : fitZ a && fitZ b with
  | true =>
    rw [hc] at HA
    rw [if_pos rfl]
    have h1 := fitZ_le (show fitZ a = true by simp at hc; exact hc.1)
    have h2 := fitZ_le (show fitZ b = true by simp at hc; exact hc.2)
    have h3 := mul_le a b h1 h2
    obtain ⟨h4, h5⟩ := h3
    have HO := Lib.hid (fun w => fover_any (a * b) w ⟨h4, h5⟩)
    clear hc h1 h2
    have HW := Lib.hid (fun w => fwithin_any (overF (a * b)) w)
    generalize withinF (overF (a * b)) = r at *
    generalize overF (a * b) = ov at *
    go_enter Tryd.func150, Tryd.ntmps150
    go_wp2_with fail
    refine HA.out.mono ?_
    rintro e w1 ⟨rfl, rfl⟩
    go_wp2_with fail
    refine (HO.out _).mono ?_
    rintro e w2 ⟨rfl, h2⟩
    have HF2 := Lib.hid (HF.out.trans0 h2)
    clear h2
    go_wp2_with fail
    refine (HW.out _).mono ?_
    rintro e w1 ⟨rfl, rfl⟩
    go_wp2_with fail
    go_ret2
    exact ⟨rfl, HF2.out⟩
  | false =>
    rw [hc] at HA
    rw [if_neg (by decide)]
    clear hc
    go_enter Tryd.func150, Tryd.ntmps150
    go_wp2_with fail
    refine HA.out.mono ?_
    rintro e w1 ⟨rfl, rfl⟩
    go_wp2_with fail
    go_ret2
    exact ⟨rfl, HF.out⟩
end Go.Proofs.YtkkejjfmidgciaaDoor
/- The walks of fix.Sum and of the steps of package mat. -/
namespace Go.Proofs.YtkkejjfmidgciaaDoor
open Go.RowKit
set_option linter.unusedVariables false
set_option linter.unusedSimpArgs false
def sumGo (t : Int) : List Int → Int × Int
  | [] => (t, 0)
  | n :: r => if (addZ t n).2 = 0 then sumGo (addZ t n).1 r else (0, (addZ t n).2)
def sumZ (l : List Int) : Int × Int := sumGo 0 l
theorem sumGo_stop {l : List Int} {k : Nat} {t : Int} (h : k < l.length) (he : ¬ (addZ t l[k]).2 = 0) : sumGo t (l.drop k) = (0, (addZ t l[k]).2) := by
  rw [List.drop_eq_getElem_cons h, sumGo, if_neg he]
theorem sumGo_step {l : List Int} {k : Nat} {t : Int} (h : k < l.length) (he : (addZ t l[k]).2 = 0) : sumGo t (l.drop k) = sumGo (addZ t l[k]).1 (l.drop (k + 1)) := by
  rw [List.drop_eq_getElem_cons h, sumGo, if_pos he]
theorem sumGo_end {l : List Int} {k : Nat} {t : Int} (h : l.length ≤ k) : sumGo t (l.drop k) = (t, 0) := by
  rw [List.drop_of_length_le h, sumGo]
theorem ret_two {a b c d : Int} (p : Int × Int) (h : p = (a, b)) : Ending.returned (.tuple #[.int .i64 a, .int .i64 b]) = .returned (.tuple #[.int .i64 p.1, .int .i64 p.2]) := by rw [h]
theorem fsum_any (v : Value) (l : List Int) (S : Nat → Prop) (w : World) (h : RowIn w S 1 v l.length (ints l)) :
    Calls Tryd.prog 151 #[v] w fun e w' => e = .returned (.tuple #[.int .i64 (sumZ l).1, .int .i64 (sumZ l).2]) ∧ Fr Nob w w' := by
  obtain ⟨r, hr⟩ : ∃ r, sumZ l = r := ⟨_, rfl⟩
  rw [hr]
  have HR := Lib.hid hr
  clear hr
  by_cases h0 : l.length = 0
  · obtain rfl : l = [] := List.length_eq_zero_iff.1 h0
    obtain rfl : r = (0, 0) := HR.out.symm
    obtain ⟨_, A, c, rfl, _⟩ := h
    go_enter Tryd.func151, Tryd.ntmps151
    go_wp2
    go_loopw [4, 10] (fun t q wr => t = .int .i64 0 ∧ q = .int .i64 0 ∧ wr = w) (fun _ _ _ => 0)
    case atStart => exact ⟨rfl, rfl, rfl⟩
    case round =>
      obtain ⟨rfl, rfl, rfl⟩ := hrel
      go_wp2
      go_ret2
      exact ⟨rfl, Fr.refl _ _⟩
  · obtain ⟨b, off, cap, rfl, h1, h2, _, hA⟩ := h.int (by omega)
    have HA := Lib.hid hA
    clear h hA h0
    go_enter Tryd.func151, Tryd.ntmps151
    go_wp2
    go_loopw [4, 10] (fun tv q wr => ∃ (k : Nat) (t : Int), k ≤ l.length ∧ q = .int .i64 k ∧ tv = .int .i64 t ∧ Hid (sumGo t (l.drop k) = r) ∧ Hid (Fr Nob w wr)) (fun _ q _ => l.length - (intOf q).toNat)
    case atStart => exact ⟨0, 0, by omega, rfl, rfl, HR.out, Fr.refl _ _⟩
    case round =>
      obtain ⟨k, t, hk, rfl, rfl, HT, HF⟩ := hrel
      by_cases hlt : k < l.length
      · have a0 := cell_nob (HA.out k hlt) HF.out
        have i1 : (k : Int) < l.length := by omega
        have HS := Lib.hid (fun w => fadd_any t l[k] w)
        by_cases hp : (addZ t l[k]).2 = 0
        · have HT2 := Lib.hid ((sumGo_step hlt hp).symm.trans HT.out)
          rw [hp] at HS
          generalize (addZ t l[k]).1 = t2 at *
          clear hp
          generalize l[k] = x at *
          go_wp2_with fail
          refine (HS.out _).mono ?_
          rintro e w1 ⟨rfl, hf⟩
          have HF2 := Lib.hid (HF.out.trans0 hf)
          clear hf
          go_wp2_with fail
          go_roundw
          case rel => exact ⟨k + 1, t2, by omega, by go_num, rfl, HT2.out, HF2.out⟩
          case measure => simp [intOf]; omega
        · have HT2 := Lib.hid ((sumGo_stop hlt hp).symm.trans HT.out)
          have hne : ((addZ t l[k]).2 == 0) = false := by simpa using hp
          have hne2 : ((addZ t l[k]).2 != 0) = true := by simpa using hp
          generalize (addZ t l[k]).2 = e2 at *
          generalize (addZ t l[k]).1 = t2 at *
          clear hp
          generalize l[k] = x at *
          go_wp2_with fail
          refine (HS.out _).mono ?_
          rintro e w1 ⟨rfl, hf⟩
          have HF2 := Lib.hid (HF.out.trans0 hf)
          clear hf
          go_wp2_with fail
          go_ret2
          exact ⟨ret_two (c := 0) (d := 0) r HT2.out.symm, HF2.out⟩
      · have HT2 := Lib.hid ((sumGo_end (by omega)).symm.trans HT.out)
        have hge : l.length ≤ k := by omega
        go_wp2
        go_ret2
        exact ⟨ret_two (c := 0) (d := 0) r HT2.out.symm, HF.out⟩
def eN (e e1 : Int) : Int := if e = 0 then e1 else e
theorem mtook_any (b : Nat) (e n e1 : Int) (w : World) (h : Blk w b #[.int .i64 e] 169) :
    Calls Tryd.prog 149 #[.pointer (some ⟨b, 0, none⟩), .int .i64 n, .int .i64 e1] w fun x w' => x = .returned (.int .i64 n) ∧ Blk w' b #[.int .i64 (eN e e1)] 169 ∧ Fr (fun k => k = b) w w' := by
  have c0 := h.cell 0
  have q0 := h.free 0
  simp only [List.getElem?_toArray, List.getElem?_cons_zero] at c0
  have HB := Lib.hid h
  clear h
  by_cases h0 : e = 0
  · rw [show eN e e1 = e1 by unfold eN; rw [if_pos h0]]
    subst h0
    go_enter Tryd.func149, Tryd.ntmps149
    go_wp2
    go_ret
    exact ⟨rfl, HB.out.set 0 _, (Fr.refl (fun k => k = b) _).setCell (p := ⟨b, 0, none⟩) (.inl rfl) _⟩
  · rw [show eN e e1 = e by unfold eN; rw [if_neg h0]]
    have hne : (e == 0) = false := by simpa using h0
    go_enter Tryd.func149, Tryd.ntmps149
    go_wp2
    go_ret
    exact ⟨rfl, HB.out, Fr.refl _ _⟩
theorem mmul_any (b : Nat) (e x y : Int) (w : World) (h : Blk w b #[.int .i64 e] 169) :
    Calls Tryd.prog 146 #[.pointer (some ⟨b, 0, none⟩), .int .i64 x, .int .i64 y] w fun r w' => r = .returned (.int .i64 (mulZ x y).1) ∧ Blk w' b #[.int .i64 (eN e (mulZ x y).2)] 169 ∧ Fr (fun k => k = b) w w' := by
  have HB := Lib.hid h
  have HM := Lib.hid (fun w => fmul_any x y w)
  generalize mulZ x y = r at *
  clear h
  go_enter Tryd.func146, Tryd.ntmps146
  go_wp2_with fail
  refine (HM.out _).mono ?_
  rintro _ w1 ⟨rfl, h1⟩
  have H1 := Lib.hid h1
  clear h1
  go_wp2_with fail
  refine (mtook_any b e _ _ _ (HB.out.nob H1.out)).mono ?_
  rintro _ w2 ⟨rfl, h2, h3⟩
  have H2 := Lib.hid h2
  have H3 := Lib.hid ((H1.out.mono (T := fun k => k = b) fun _ hh => hh.elim).trans h3 fun k hk => .inl hk)
  clear h2 h3
  go_wp2_with fail
  go_ret
  exact ⟨rfl, H2.out, H3.out⟩
theorem msum_any (b : Nat) (e : Int) (v : Value) (l : List Int) (S : Nat → Prop) (w : World) (h : Blk w b #[.int .i64 e] 169) (hr : RowIn w S 1 v l.length (ints l)) :
    Calls Tryd.prog 147 #[.pointer (some ⟨b, 0, none⟩), v] w fun r w' => r = .returned (.int .i64 (sumZ l).1) ∧ Blk w' b #[.int .i64 (eN e (sumZ l).2)] 169 ∧ Fr (fun k => k = b) w w' := by
  have HB := Lib.hid h
  have HM := Lib.hid (fsum_any v l S w hr)
  obtain ⟨A, c, rfl, _⟩ := hr.form
  generalize sumZ l = r at *
  clear h hr
  go_enter Tryd.func147, Tryd.ntmps147
  go_wp2_with fail
  refine HM.out.mono ?_
  rintro _ w1 ⟨rfl, h1⟩
  have H1 := Lib.hid h1
  clear h1
  go_wp2_with fail
  refine (mtook_any b e _ _ _ (HB.out.nob H1.out)).mono ?_
  rintro _ w2 ⟨rfl, h2, h3⟩
  have H2 := Lib.hid h2
  have H3 := Lib.hid ((H1.out.mono (T := fun k => k = b) fun _ hh => hh.elim).trans h3 fun k hk => .inl hk)
  clear h2 h3
  go_wp2_with fail
  go_ret
  exact ⟨rfl, H2.out, H3.out⟩
end Go.Proofs.YtkkejjfmidgciaaDoor
/- The walks of two, point, Delta, Apply of package mat. -/
namespace Go.Proofs.YtkkejjfmidgciaaDoor
open Go.RowKit
set_option linter.unusedVariables false
set_option linter.unusedSimpArgs false
def twoZ (e a x c y : Int) (more : List Int) : Int × Int := ((sumZ ((mulZ a x).1 :: (mulZ c y).1 :: more)).1, eN (eN (eN e (mulZ a x).2) (mulZ c y).2) (sumZ ((mulZ a x).1 :: (mulZ c y).1 :: more)).2)
theorem Fr.of0 {S : Nat → Prop} {w w' : World} (h : Fr Nob w w') : Fr S w w' := h.mono fun _ hh => hh.elim
theorem Fr.again {S : Nat → Prop} {a b c : World} (h : Fr S a b) (k : Fr S b c) : Fr S a c := h.trans k fun _ hk => .inl hk
theorem OwnS.two (w : World) (m n : Int) : OwnS (w.alloc (.cells #[.int .i64 m, .int .i64 n] 3)) 3 1 (.slice (some ⟨w.heap.size, 0, none⟩) 2 2) 2 (ints [m, n]) :=
  ⟨by simp [ints], .inr ⟨w.heap.size, 2, _, rfl, Blk.new _ _ _, Nat.le_refl _, by decide, by simp, by simp [ints]⟩⟩
theorem mtwo_any (b : Nat) (e a x c y : Int) (v : Value) (more : List Int) (S : Nat → Prop) (w : World) (h : Blk w b #[.int .i64 e] 169) (hr : RowIn w S 1 v more.length (ints more)) (hS : ∀ k, S k → ¬ k = b) (hm : more.length ≤ 1000) :
    Calls Tryd.prog 133 #[.pointer (some ⟨b, 0, none⟩), .int .i64 a, .int .i64 x, .int .i64 c, .int .i64 y, v] w fun r w' => r = .returned (.int .i64 (twoZ e a x c y more).1) ∧ Blk w' b #[.int .i64 (twoZ e a x c y more).2] 169 ∧ Fr (fun k => k = b) w w' := by
  obtain ⟨i0, hi, hz0, hz1, hz2⟩ := info_parts infoInt
  unfold twoZ
  dsimp only
  have HB := Lib.hid h
  have HR := Lib.hid hr
  have HS := Lib.hid hS
  have HLT := Lib.hid h.lt
  obtain ⟨A, cap, rfl, _⟩ := hr.form
  have HM1 := Lib.hid (fun w h => mmul_any b e a x w h)
  have HM2 := Lib.hid (fun e w h => mmul_any b e c y w h)
  generalize mulZ a x = p at *
  generalize mulZ c y = q at *
  have HM3 := Lib.hid (fun e v S w h hr => msum_any b e v (p.1 :: q.1 :: more) S w h hr)
  generalize sumZ (p.1 :: q.1 :: more) = s at *
  clear h hr hS
  go_enter Tryd.func133, Tryd.ntmps133
  go_wp2_with fail
  refine (HM1.out _ HB.out).mono ?_
  rintro _ w1 ⟨rfl, h1, f1⟩
  have H1 := Lib.hid h1
  have F1 := Lib.hid f1
  clear h1 f1
  go_wp2_with fail
  refine (HM2.out _ _ H1.out).mono ?_
  rintro _ w2 ⟨rfl, h2, f2⟩
  have H2 := Lib.hid h2
  have F2 := Lib.hid (F1.out.again f2)
  have HO := Lib.hid (OwnS.two w2 p.1 q.1)
  have HR2 := Lib.hid ((HR.out.fr F2.out fun k hk e => HS.out k hk e).nob ((Fr.refl Nob w2).alloc (.cells #[.int .i64 p.1, .int .i64 q.1] 3)))
  have HA2 := Lib.hid ((Fr.refl Nob w2).alloc (.cells #[.int .i64 p.1, .int .i64 q.1] 3))
  clear h2 f2
  go_wp2_with (at_builtin; refine wpList_app _ rfl (.tmp 24) (.tmp 25) 30 rfl 3 i0 _ 1 8 Tryd.underlying30 hi hz0 hz1 hz2 rfl (by decide) _ 2 (ints [p.1, q.1]) (by rfl) HO.out S _ more.length (ints more) (by rfl) HR2.out (ints_one more) (by unfold maxLen; omega) (by omega) ?_)
  intro v' w3 hown hfr hat
  have HF3 := Lib.hid (HA2.out.trans hfr fun k hk => .inr (by simp [inB, Value.ownBlock] at hk; omega))
  have HRN := Lib.hid (show RowIn w3 (inB v') 1 v' (p.1 :: q.1 :: more).length (ints (p.1 :: q.1 :: more)) from (show 2 + more.length = (p.1 :: q.1 :: more).length by simp; omega) ▸ hown.row)
  obtain ⟨A3, c3, rfl, _⟩ := hown.form
  clear hown hfr hat
  go_wp2_with fail
  refine (HM3.out _ _ _ _ (H2.out.nob HF3.out) HRN.out).mono ?_
  rintro _ w4 ⟨rfl, h4, f4⟩
  have H4 := Lib.hid h4
  have F4 := Lib.hid ((F2.out.trans0 HF3.out).again f4)
  clear h4 f4
  go_wp2_with fail
  go_ret
  exact ⟨rfl, H4.out, F4.out⟩
def pointZ (x y e : Int) : Pt × Int := if e = 0 then (⟨x, y⟩, 0) else (oo, e)
def pairV (r : Pt × Int) : Value := .tuple #[ptV r.1, .int .i64 r.2]
theorem mpoint_any (b : Nat) (e x y : Int) (w : World) (h : Blk w b #[.int .i64 e] 169) :
    Calls Tryd.prog 134 #[.pointer (some ⟨b, 0, none⟩), .int .i64 x, .int .i64 y] w fun r w' => r = .returned (pairV (pointZ x y e)) ∧ Fr Nob w w' := by
  have hf := (Fr.refl Nob w).alloc (.cells #[.int .i64 0, .int .i64 0] 56)
  have hb := h.nob hf
  have c0 := hb.cell 0
  simp only [List.getElem?_toArray, List.getElem?_cons_zero] at c0
  have hbw : b ≠ w.heap.size := by have := h.lt; omega
  have HZ := Lib.hid (Blk.new w #[.int .i64 0, .int .i64 0] 56)
  have HF := Lib.hid hf
  clear h hb hf
  unfold pairV pointZ ptV
  by_cases h0 : e = 0
  · rw [if_pos h0]
    subst h0
    go_enter Tryd.func134, Tryd.ntmps134
    go_wp2
    exact bodyPost_ret (results_ct rfl _ _ _ 56 _ _ rfl (Blk.new w #[.int .i64 x, .int .i64 y] 56) Tryd.underlying56 rfl (by kernel_rfl)) rfl ⟨rfl, (Fr.refl Nob w).alloc _⟩
  · rw [if_neg h0]
    have hne : (e == 0) = false := by simpa using h0
    have hne2 : (e != 0) = true := by simpa using h0
    clear h0
    go_enter Tryd.func134, Tryd.ntmps134
    go_wp2
    go_region
    go_wp2
    exact bodyPost_ret (results_ct rfl _ _ _ 56 _ _ rfl HZ.out.drew Tryd.underlying56 rfl (by kernel_rfl)) rfl ⟨rfl, HF.out.drew⟩
def deltaZ (m : M6) (p : Pt) : Pt × Int := pointZ (twoZ 0 m.a p.x m.c p.y []).1 (twoZ (twoZ 0 m.a p.x m.c p.y []).2 m.b p.x m.d p.y []).1 (twoZ (twoZ 0 m.a p.x m.c p.y []).2 m.b p.x m.d p.y []).2
def applyZ (m : M6) (p : Pt) : Pt × Int := pointZ (twoZ 0 m.a p.x m.c p.y [m.e]).1 (twoZ (twoZ 0 m.a p.x m.c p.y [m.e]).2 m.b p.x m.d p.y [m.f]).1 (twoZ (twoZ 0 m.a p.x m.c p.y [m.e]).2 m.b p.x m.d p.y [m.f]).2
theorem Blk.new3 (w : World) (o o' o'' : Obj) (cs : Array Value) (t : TypeId) : Blk ((((w.alloc o).alloc o').alloc o'').alloc (.cells cs t)) (w.heap.size + 3) cs t := by
  have := Blk.new (((w.alloc o).alloc o').alloc o'') cs t
  simpa using this
set_option maxRecDepth 8000 in
theorem mdelta_any (m : M6) (p : Pt) (w : World) : Calls Tryd.prog 110 #[mV m, ptV p] w fun r w' => r = .returned (pairV (deltaZ m p)) ∧ Fr Nob w w' := by
  unfold deltaZ
  have HT1 := Lib.hid (fun b v S w h hr hS => mtwo_any b 0 m.a p.x m.c p.y v [] S w h hr hS (by simp))
  generalize twoZ 0 m.a p.x m.c p.y [] = r1 at *
  have HT2 := Lib.hid (fun b v S w h hr hS => mtwo_any b r1.2 m.b p.x m.d p.y v [] S w h hr hS (by simp))
  generalize twoZ r1.2 m.b p.x m.d p.y [] = r2 at *
  have HPT := Lib.hid (fun b w h => mpoint_any b r2.2 r1.1 r2.1 w h)
  generalize pointZ r1.1 r2.1 r2.2 = r3 at *
  have HM := Lib.hid (show Blk ((((w.alloc (.cells #[.int .i64 m.a, .int .i64 m.b, .int .i64 m.c, .int .i64 m.d, .int .i64 m.e, .int .i64 m.f] 33)).alloc (.cells #[.int .i64 p.x, .int .i64 p.y] 56)).alloc (.cells #[.int .i64 0, .int .i64 0] 56)).alloc (.cells #[.int .i64 0] 169)) w.heap.size #[.int .i64 m.a, .int .i64 m.b, .int .i64 m.c, .int .i64 m.d, .int .i64 m.e, .int .i64 m.f] 33 from (((Blk.new w _ _).alloc _).alloc _).alloc _)
  have HP := Lib.hid (show Blk ((((w.alloc (.cells #[.int .i64 m.a, .int .i64 m.b, .int .i64 m.c, .int .i64 m.d, .int .i64 m.e, .int .i64 m.f] 33)).alloc (.cells #[.int .i64 p.x, .int .i64 p.y] 56)).alloc (.cells #[.int .i64 0, .int .i64 0] 56)).alloc (.cells #[.int .i64 0] 169)) (w.heap.size + 1) #[.int .i64 p.x, .int .i64 p.y] 56 from ((Blk.new1 w _ _ _).alloc _).alloc _)
  have HZ := Lib.hid (show Blk ((((w.alloc (.cells #[.int .i64 m.a, .int .i64 m.b, .int .i64 m.c, .int .i64 m.d, .int .i64 m.e, .int .i64 m.f] 33)).alloc (.cells #[.int .i64 p.x, .int .i64 p.y] 56)).alloc (.cells #[.int .i64 0, .int .i64 0] 56)).alloc (.cells #[.int .i64 0] 169)) (w.heap.size + 2) #[.int .i64 0, .int .i64 0] 56 from (Blk.new2 w _ _ _ _).alloc _)
  have HST := Lib.hid (show Blk ((((w.alloc (.cells #[.int .i64 m.a, .int .i64 m.b, .int .i64 m.c, .int .i64 m.d, .int .i64 m.e, .int .i64 m.f] 33)).alloc (.cells #[.int .i64 p.x, .int .i64 p.y] 56)).alloc (.cells #[.int .i64 0, .int .i64 0] 56)).alloc (.cells #[.int .i64 0] 169)) (w.heap.size + 3) #[.int .i64 0] 169 from Blk.new3 w _ _ _ _ _)
  have HF := Lib.hid (show Fr Nob w ((((w.alloc (.cells #[.int .i64 m.a, .int .i64 m.b, .int .i64 m.c, .int .i64 m.d, .int .i64 m.e, .int .i64 m.f] 33)).alloc (.cells #[.int .i64 p.x, .int .i64 p.y] 56)).alloc (.cells #[.int .i64 0, .int .i64 0] 56)).alloc (.cells #[.int .i64 0] 169)) from ((((Fr.refl Nob w).alloc _).alloc _).alloc _).alloc _)
  unfold mV ptV
  go_enter Tryd.func110, Tryd.ntmps110
  go_upto_region 2 with (fail)
  generalize (((w.alloc (.cells #[.int .i64 m.a, .int .i64 m.b, .int .i64 m.c, .int .i64 m.d, .int .i64 m.e, .int .i64 m.f] 33)).alloc (.cells #[.int .i64 p.x, .int .i64 p.y] 56)).alloc (.cells #[.int .i64 0, .int .i64 0] 56)).alloc (.cells #[.int .i64 0] 169) = wa at *
  have a0 : wa.cell? ⟨w.heap.size, 0, none⟩ = some (.int .i64 m.a) := HM.out.cell 0
  have a2 : wa.cell? ⟨w.heap.size, 2, none⟩ = some (.int .i64 m.c) := HM.out.cell 2
  have a4 : wa.cell? ⟨w.heap.size, 4, none⟩ = some (.int .i64 m.e) := HM.out.cell 4
  have b0 : wa.cell? ⟨w.heap.size + 1, 0, none⟩ = some (.int .i64 p.x) := HP.out.cell 0
  have b1 : wa.cell? ⟨w.heap.size + 1, 1, none⟩ = some (.int .i64 p.y) := HP.out.cell 1
  have n0 : w.heap.size ≠ w.heap.size + 3 := by omega
  have n1 : w.heap.size + 1 ≠ w.heap.size + 3 := by omega
  have n2 : w.heap.size + 2 ≠ w.heap.size + 3 := by omega
  go_wp2_with fail
  refine (HT1.out _ _ Nob _ HST.out (RowIn.nil _ _ _) (fun k hk => hk.elim)).mono ?_
  rintro _ w1 ⟨rfl, h1, f1⟩
  have F1 := Lib.hid f1
  have H1 := Lib.hid h1
  have HM1 := Lib.hid (HM.out.fr F1.out n0)
  have HP1 := Lib.hid (HP.out.fr F1.out n1)
  have HZ1 := Lib.hid (HZ.out.fr F1.out n2)
  clear h1 f1 a0 a2 a4 b0 b1
  have a1 : w1.cell? ⟨w.heap.size, 1, none⟩ = some (.int .i64 m.b) := HM1.out.cell 1
  have a3 : w1.cell? ⟨w.heap.size, 3, none⟩ = some (.int .i64 m.d) := HM1.out.cell 3
  have a5 : w1.cell? ⟨w.heap.size, 5, none⟩ = some (.int .i64 m.f) := HM1.out.cell 5
  have b0 : w1.cell? ⟨w.heap.size + 1, 0, none⟩ = some (.int .i64 p.x) := HP1.out.cell 0
  have b1 : w1.cell? ⟨w.heap.size + 1, 1, none⟩ = some (.int .i64 p.y) := HP1.out.cell 1
  go_wp2_with fail
  refine (HT2.out _ _ Nob _ H1.out (RowIn.nil _ _ _) (fun k hk => hk.elim)).mono ?_
  rintro _ w2 ⟨rfl, h2, f2⟩
  have F2 := Lib.hid (F1.out.again f2)
  have HZ2 := Lib.hid (HZ1.out.fr f2 n2)
  have H2 := Lib.hid h2
  clear h2 f2 a1 a3 a5 b0 b1
  go_wp2_with fail
  refine (HPT.out _ _ H2.out).mono ?_
  unfold pairV ptV
  rintro _ w3 ⟨rfl, h3⟩
  have HZ3 := Lib.hid (HZ2.out.nob h3)
  have F3 := Lib.hid (F2.out.trans0 h3)
  have z0 := (HZ2.out.nob h3).cell 0
  have z1 := (HZ2.out.nob h3).cell 1
  have y0 := (HZ2.out.nob h3).free 0
  have y1 := (HZ2.out.nob h3).free 1
  simp only [List.getElem?_toArray, List.getElem?_cons_succ, List.getElem?_cons_zero] at z0 z1
  clear h3
  go_wp2_with fail
  exact bodyPost_ret (results_ct rfl _ _ _ 56 _ _ rfl ((HZ3.out.set 0 _).set 1 _) Tryd.underlying56 rfl (by kernel_rfl)) rfl ⟨rfl, ((HF.out.trans F3.out fun k hk => .inr (by omega)).setCell (p := ⟨w.heap.size + 2, 0, none⟩) (.inr (by show w.heap.size ≤ w.heap.size + 2; omega)) _).setCell (p := ⟨w.heap.size + 2, 1, none⟩) (.inr (by show w.heap.size ≤ w.heap.size + 2; omega)) _⟩
set_option maxRecDepth 8000 in
theorem mapply_any (m : M6) (p : Pt) (w : World) : Calls Tryd.prog 139 #[mV m, ptV p] w fun r w' => r = .returned (pairV (applyZ m p)) ∧ Fr Nob w w' := by
  unfold applyZ
  have HT1 := Lib.hid (fun b v S w h hr hS => mtwo_any b 0 m.a p.x m.c p.y v [m.e] S w h hr hS (by simp))
  generalize twoZ 0 m.a p.x m.c p.y [m.e] = r1 at *
  have HT2 := Lib.hid (fun b v S w h hr hS => mtwo_any b r1.2 m.b p.x m.d p.y v [m.f] S w h hr hS (by simp))
  generalize twoZ r1.2 m.b p.x m.d p.y [m.f] = r2 at *
  have HPT := Lib.hid (fun b w h => mpoint_any b r2.2 r1.1 r2.1 w h)
  generalize pointZ r1.1 r2.1 r2.2 = r3 at *
  have HM := Lib.hid (show Blk ((((w.alloc (.cells #[.int .i64 m.a, .int .i64 m.b, .int .i64 m.c, .int .i64 m.d, .int .i64 m.e, .int .i64 m.f] 33)).alloc (.cells #[.int .i64 p.x, .int .i64 p.y] 56)).alloc (.cells #[.int .i64 0, .int .i64 0] 56)).alloc (.cells #[.int .i64 0] 169)) w.heap.size #[.int .i64 m.a, .int .i64 m.b, .int .i64 m.c, .int .i64 m.d, .int .i64 m.e, .int .i64 m.f] 33 from (((Blk.new w _ _).alloc _).alloc _).alloc _)
  have HP := Lib.hid (show Blk ((((w.alloc (.cells #[.int .i64 m.a, .int .i64 m.b, .int .i64 m.c, .int .i64 m.d, .int .i64 m.e, .int .i64 m.f] 33)).alloc (.cells #[.int .i64 p.x, .int .i64 p.y] 56)).alloc (.cells #[.int .i64 0, .int .i64 0] 56)).alloc (.cells #[.int .i64 0] 169)) (w.heap.size + 1) #[.int .i64 p.x, .int .i64 p.y] 56 from ((Blk.new1 w _ _ _).alloc _).alloc _)
  have HZ := Lib.hid (show Blk ((((w.alloc (.cells #[.int .i64 m.a, .int .i64 m.b, .int .i64 m.c, .int .i64 m.d, .int .i64 m.e, .int .i64 m.f] 33)).alloc (.cells #[.int .i64 p.x, .int .i64 p.y] 56)).alloc (.cells #[.int .i64 0, .int .i64 0] 56)).alloc (.cells #[.int .i64 0] 169)) (w.heap.size + 2) #[.int .i64 0, .int .i64 0] 56 from (Blk.new2 w _ _ _ _).alloc _)
  have HST := Lib.hid (show Blk ((((w.alloc (.cells #[.int .i64 m.a, .int .i64 m.b, .int .i64 m.c, .int .i64 m.d, .int .i64 m.e, .int .i64 m.f] 33)).alloc (.cells #[.int .i64 p.x, .int .i64 p.y] 56)).alloc (.cells #[.int .i64 0, .int .i64 0] 56)).alloc (.cells #[.int .i64 0] 169)) (w.heap.size + 3) #[.int .i64 0] 169 from Blk.new3 w _ _ _ _ _)
  have HF := Lib.hid (show Fr Nob w ((((w.alloc (.cells #[.int .i64 m.a, .int .i64 m.b, .int .i64 m.c, .int .i64 m.d, .int .i64 m.e, .int .i64 m.f] 33)).alloc (.cells #[.int .i64 p.x, .int .i64 p.y] 56)).alloc (.cells #[.int .i64 0, .int .i64 0] 56)).alloc (.cells #[.int .i64 0] 169)) from ((((Fr.refl Nob w).alloc _).alloc _).alloc _).alloc _)
  unfold mV ptV
  go_enter Tryd.func139, Tryd.ntmps139
  go_upto_region 2 with (fail)
  generalize (((w.alloc (.cells #[.int .i64 m.a, .int .i64 m.b, .int .i64 m.c, .int .i64 m.d, .int .i64 m.e, .int .i64 m.f] 33)).alloc (.cells #[.int .i64 p.x, .int .i64 p.y] 56)).alloc (.cells #[.int .i64 0, .int .i64 0] 56)).alloc (.cells #[.int .i64 0] 169) = wa at *
  have a0 : wa.cell? ⟨w.heap.size, 0, none⟩ = some (.int .i64 m.a) := HM.out.cell 0
  have a2 : wa.cell? ⟨w.heap.size, 2, none⟩ = some (.int .i64 m.c) := HM.out.cell 2
  have a4 : wa.cell? ⟨w.heap.size, 4, none⟩ = some (.int .i64 m.e) := HM.out.cell 4
  have b0 : wa.cell? ⟨w.heap.size + 1, 0, none⟩ = some (.int .i64 p.x) := HP.out.cell 0
  have b1 : wa.cell? ⟨w.heap.size + 1, 1, none⟩ = some (.int .i64 p.y) := HP.out.cell 1
  have n0 : w.heap.size ≠ w.heap.size + 3 := by omega
  have n1 : w.heap.size + 1 ≠ w.heap.size + 3 := by omega
  have n2 : w.heap.size + 2 ≠ w.heap.size + 3 := by omega
  have G1 := Lib.hid ((show Blk (wa.alloc (.cells #[.int .i64 m.e] 3)) wa.heap.size (ints [m.e]).toArray 3 from Blk.new _ _ _).ints (by simp [maxLen]))
  have HL := Lib.hid HST.out.lt
  go_wp2_with fail
  refine (HT1.out _ _ _ _ (HST.out.alloc _) G1.out (fun k hk e => by have := HL.out; omega)).mono ?_
  rintro _ w1 ⟨rfl, h1, f1⟩
  have F1 := Lib.hid (((Fr.refl Nob wa).alloc (.cells #[.int .i64 m.e] 3)).of0.again f1)
  have H1 := Lib.hid h1
  have HM1 := Lib.hid (HM.out.fr F1.out n0)
  have HP1 := Lib.hid (HP.out.fr F1.out n1)
  have HZ1 := Lib.hid (HZ.out.fr F1.out n2)
  clear h1 f1 a0 a2 a4 b0 b1
  have a1 : w1.cell? ⟨w.heap.size, 1, none⟩ = some (.int .i64 m.b) := HM1.out.cell 1
  have a3 : w1.cell? ⟨w.heap.size, 3, none⟩ = some (.int .i64 m.d) := HM1.out.cell 3
  have a5 : w1.cell? ⟨w.heap.size, 5, none⟩ = some (.int .i64 m.f) := HM1.out.cell 5
  have b0 : w1.cell? ⟨w.heap.size + 1, 0, none⟩ = some (.int .i64 p.x) := HP1.out.cell 0
  have b1 : w1.cell? ⟨w.heap.size + 1, 1, none⟩ = some (.int .i64 p.y) := HP1.out.cell 1
  have G2 := Lib.hid ((show Blk (w1.alloc (.cells #[.int .i64 m.f] 3)) w1.heap.size (ints [m.f]).toArray 3 from Blk.new _ _ _).ints (by simp [maxLen]))
  have HL1 := Lib.hid H1.out.lt
  go_wp2_with fail
  refine (HT2.out _ _ _ _ (H1.out.alloc _) G2.out (fun k hk e => by have := HL1.out; omega)).mono ?_
  rintro _ w2 ⟨rfl, h2, f2⟩
  have F2 := Lib.hid (F1.out.again (((Fr.refl Nob w1).alloc (.cells #[.int .i64 m.f] 3)).of0.again f2))
  have HZ2 := Lib.hid ((HZ1.out.alloc (.cells #[.int .i64 m.f] 3)).fr f2 n2)
  have H2 := Lib.hid h2
  clear h2 f2 a1 a3 a5 b0 b1
  go_wp2_with fail
  refine (HPT.out _ _ H2.out).mono ?_
  unfold pairV ptV
  rintro _ w3 ⟨rfl, h3⟩
  have HZ3 := Lib.hid (HZ2.out.nob h3)
  have F3 := Lib.hid (F2.out.trans0 h3)
  have z0 := (HZ2.out.nob h3).cell 0
  have z1 := (HZ2.out.nob h3).cell 1
  have y0 := (HZ2.out.nob h3).free 0
  have y1 := (HZ2.out.nob h3).free 1
  simp only [List.getElem?_toArray, List.getElem?_cons_succ, List.getElem?_cons_zero] at z0 z1
  clear h3
  go_wp2_with fail
  exact bodyPost_ret (results_ct rfl _ _ _ 56 _ _ rfl ((HZ3.out.set 0 _).set 1 _) Tryd.underlying56 rfl (by kernel_rfl)) rfl ⟨rfl, ((HF.out.trans F3.out fun k hk => .inr (by omega)).setCell (p := ⟨w.heap.size + 2, 0, none⟩) (.inr (by show w.heap.size ≤ w.heap.size + 2; omega)) _).setCell (p := ⟨w.heap.size + 2, 1, none⟩) (.inr (by show w.heap.size ≤ w.heap.size + 2; omega)) _⟩
end Go.Proofs.YtkkejjfmidgciaaDoor
