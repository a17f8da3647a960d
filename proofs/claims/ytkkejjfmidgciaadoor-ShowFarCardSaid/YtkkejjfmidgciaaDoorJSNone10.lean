/-
  Texts joined in build order: The reference's sums and products: Rounded, keep, Mul, Add, Sums, Delta: they give what the program's do. The reference's Sums and Delta: they give what the program's do. Fonts: the widths as lists of numbers; the two texts of each table; plain Lean, no program. The walks of font.table, mezzotintref12.table. The walk of font.Width. The walk of mezzotintref12.Width. The walks of font.Sum, of the reference's Sum, of the law FontSums.
-/
import Derived.Test.YtkkejjfmidgciaaDoorJSNone9
import Derived.Deep.QuietTactic
import Derived.BigQuiet
import Derived.RegionTactic
import Derived.ChangeAlike
import Derived.RowKit
import Derived.Test.YtkkejjfmidgciaaDoorProg
import Derived.WalkKit
import Derived.KernelRfl
import Derived.Lib.Hide
import Derived.Lib.ConvBytes
/- The reference's sums and products: Rounded, keep, Mul, Add, Sums, Delta: they give what the program's do. -/
namespace Go.Proofs.YtkkejjfmidgciaaDoor
open Go.RowKit
set_option linter.unusedVariables false
set_option linter.unusedSimpArgs false
def rq (x b : Int) : Int := if b - x % b ≤ x % b then x / b + 1 else x / b
theorem rround_pos (x b : Int) (w : World) (hx : 0 ≤ x ∧ x ≤ 4611686018427387904) (hb : 0 < b ∧ b ≤ 65536) : Calls Tryd.prog 67 #[.int .i64 x, .int .i64 b] w fun e w' => e = .returned (.int .i64 (rq x b)) ∧ Fr Nob w w' := by
  obtain ⟨x0, x1⟩ := hx
  obtain ⟨b0, b1⟩ := hb
  have n0 : ¬ x < 0 := by omega
  have n1 : ¬ b < 0 := by omega
  have nb : ¬ b = 0 := by omega
  have q0 := Int.ediv_nonneg x0 (show 0 ≤ b by omega)
  have q1 : x / b ≤ x := Int.ediv_le_self b x0
  have r0 := Int.emod_nonneg x nb
  have r1 := Int.emod_lt_of_pos x b0
  have HR : Hid (rq x b = if b - x % b ≤ x % b then x / b + 1 else x / b) := rfl
  by_cases c1 : b - x % b ≤ x % b
  · rw [show rq x b = x / b + 1 by rw [HR.out, if_pos c1]]
    go_enter Tryd.func67, Tryd.ntmps67
    go_wp2_with fail
    go_quiet (fail)
    go_wp2_with fail
    go_ret
    exact ⟨rfl, (Fr.refl _ _).drewN _⟩
  · rw [show rq x b = x / b by rw [HR.out, if_neg c1]]
    go_enter Tryd.func67, Tryd.ntmps67
    go_wp2_with fail
    go_quiet (fail)
    go_wp2_with fail
    go_ret
    exact ⟨rfl, (Fr.refl _ _).drewN _⟩
theorem rround_neg (a x b : Int) (w : World) (ha : a = -x) (hx : 0 < x ∧ x ≤ 4611686018427387904) (hb : 0 < b ∧ b ≤ 65536) : Calls Tryd.prog 67 #[.int .i64 a, .int .i64 b] w fun e w' => e = .returned (.int .i64 (-(rq x b))) ∧ Fr Nob w w' := by
  obtain ⟨x0, x1⟩ := hx
  obtain ⟨b0, b1⟩ := hb
  have n0 : a < 0 := by omega
  have n1 : ¬ b < 0 := by omega
  have nb : ¬ b = 0 := by omega
  have q0 := Int.ediv_nonneg (show 0 ≤ x by omega) (show 0 ≤ b by omega)
  have q1 : x / b ≤ x := Int.ediv_le_self b (by omega)
  have r0 := Int.emod_nonneg x nb
  have r1 := Int.emod_lt_of_pos x b0
  have na : -a = x := by omega
  have x0' : 0 ≤ x := by omega
  have HR : Hid (rq x b = if b - x % b ≤ x % b then x / b + 1 else x / b) := rfl
  have a0 : -4611686018427387904 ≤ a := by omega
  clear ha
  by_cases c1 : b - x % b ≤ x % b
  · rw [show rq x b = x / b + 1 by rw [HR.out, if_pos c1]]
    go_enter Tryd.func67, Tryd.ntmps67
    go_wp2_with fail
    go_quiet (fail)
    go_wp2_with fail
    go_ret
    exact ⟨rfl, (Fr.refl _ _).drewN _⟩
  · rw [show rq x b = x / b by rw [HR.out, if_neg c1]]
    go_enter Tryd.func67, Tryd.ntmps67
    go_wp2_with fail
    go_quiet (fail)
    go_wp2_with fail
    go_ret
    exact ⟨rfl, (Fr.refl _ _).drewN _⟩
theorem over_pos (x : Int) (h : 0 ≤ x) : overF x = rq x 65536 := by
  unfold overF rq
  rw [Int.tmod_eq_emod_of_nonneg h, Int.tdiv_eq_ediv_of_nonneg h]
  have r0 := Int.emod_nonneg x (show (65536 : Int) ≠ 0 by decide)
  by_cases c : 65536 ≤ 2 * (x % 65536)
  · rw [if_pos c, if_pos (by omega)]
  · rw [if_neg c, if_neg (by omega), if_neg (by omega)]
theorem over_neg (x : Int) (h : 0 < x) : overF (-x) = -(rq x 65536) := by
  unfold overF rq
  rw [Int.neg_tmod, Int.neg_tdiv, Int.tmod_eq_emod_of_nonneg (by omega), Int.tdiv_eq_ediv_of_nonneg (by omega)]
  have r0 := Int.emod_nonneg x (show (65536 : Int) ≠ 0 by decide)
  rw [if_neg (by omega)]
  by_cases c : 65536 ≤ 2 * (x % 65536)
  · rw [if_pos (by omega), if_pos (by omega)]; omega
  · rw [if_neg (by omega), if_neg (by omega)]
theorem rover_any (a : Int) (w : World) (h : -4611686018427387904 ≤ a ∧ a ≤ 4611686018427387904) : Calls Tryd.prog 67 #[.int .i64 a, .int .i64 65536] w fun e w' => e = .returned (.int .i64 (overF a)) ∧ Fr Nob w w' := by
  by_cases h0 : 0 ≤ a
  · rw [over_pos a h0]
    exact rround_pos a 65536 w ⟨h0, h.2⟩ (by decide)
  · have e : a = -(-a) := by omega
    have := over_neg (-a) (by omega)
    rw [← e] at this
    rw [this]
    exact rround_neg a (-a) 65536 w e ⟨by omega, by omega⟩ (by decide)
theorem rkeep_any (n : Int) (w : World) : Calls Tryd.prog 148 #[.int .i64 n] w fun e w' => e = .returned (.tuple #[.int .i64 (withinF n).1, .int .i64 (withinF n).2]) ∧ w = w' := by
  have HS := Lib.hid (ref_fits n w)
  unfold withinF
  by_cases hf : fitZ n = true
  · rw [if_pos hf]
    rw [hf] at HS
    clear hf
    go_enter Tryd.func148, Tryd.ntmps148
    go_wp2_with fail
    refine HS.out.mono ?_
    rintro _ w1 ⟨rfl, rfl⟩
    go_wp2_with fail
    go_ret2
    exact ⟨rfl, rfl⟩
  · have hf' : fitZ n = false := by simpa using hf
    rw [if_neg hf]
    rw [hf'] at HS
    clear hf hf'
    go_enter Tryd.func148, Tryd.ntmps148
    go_wp2_with fail
    refine HS.out.mono ?_
    rintro _ w1 ⟨rfl, rfl⟩
    go_wp2_with fail
    go_ret2
    exact ⟨rfl, rfl⟩
theorem fitZ_bd {n : Int} (h : fitZ n = true) : -2147483648 ≤ n ∧ n ≤ 2147483647 := by simpa [fitZ] using h
theorem radd_any (a b : Int) (w : World) : Calls Tryd.prog 138 #[.int .i64 a, .int .i64 b] w fun e w' => e = .returned (.tuple #[.int .i64 (addZ a b).1, .int .i64 (addZ a b).2]) ∧ Fr Nob w w' := by
  unfold addZ
  have HA := Lib.hid (ref_fits a)
  have HB := Lib.hid (ref_fits b)
  have HK := Lib.hid (rkeep_any (a + b))
  by_cases ha : fitZ a = true
  · by_cases hb : fitZ b = true
    · obtain ⟨a0, a1⟩ := fitZ_bd ha
      obtain ⟨b0, b1⟩ := fitZ_bd hb
      rw [if_pos (by rw [ha, hb]; rfl)]
      rw [ha] at HA
      rw [hb] at HB
      generalize withinF (a + b) = r at *
      clear ha hb
      go_enter Tryd.func138, Tryd.ntmps138
      go_wp2_with fail
      refine (HA.out _).mono ?_
      rintro _ w1 ⟨rfl, rfl⟩
      go_wp2_with fail
      refine (HB.out _).mono ?_
      rintro _ w1 ⟨rfl, rfl⟩
      go_wp2_with fail
      refine (HK.out _).mono ?_
      rintro _ w1 ⟨rfl, rfl⟩
      go_wp2_with fail
      go_ret2
      exact ⟨rfl, Fr.refl _ _⟩
    · have hb' : fitZ b = false := by simpa using hb
      rw [if_neg (by simp [hb'])]
      rw [ha] at HA
      rw [hb'] at HB
      clear ha hb hb' HK
      go_enter Tryd.func138, Tryd.ntmps138
      go_wp2_with fail
      refine (HA.out _).mono ?_
      rintro _ w1 ⟨rfl, rfl⟩
      go_wp2_with fail
      refine (HB.out _).mono ?_
      rintro _ w1 ⟨rfl, rfl⟩
      go_wp2_with fail
      go_ret2
      exact ⟨rfl, Fr.refl _ _⟩
  · have ha' : fitZ a = false := by simpa using ha
    rw [if_neg (by simp [ha'])]
    rw [ha'] at HA
    clear ha ha' HK HB
    go_enter Tryd.func138, Tryd.ntmps138
    go_wp2_with fail
    refine (HA.out _).mono ?_
    rintro _ w1 ⟨rfl, rfl⟩
    go_wp2_with fail
    go_ret2
    exact ⟨rfl, Fr.refl _ _⟩
theorem rmul_any (a b : Int) (w : World) : Calls Tryd.prog 136 #[.int .i64 a, .int .i64 b] w fun e w' => e = .returned (.tuple #[.int .i64 (mulZ a b).1, .int .i64 (mulZ a b).2]) ∧ Fr Nob w w' := by
  unfold mulZ
  have HA := Lib.hid (ref_fits a)
  have HB := Lib.hid (ref_fits b)
  have HK := Lib.hid (rkeep_any (overF (a * b)))
  by_cases ha : fitZ a = true
  · by_cases hb : fitZ b = true
    · have hm := mul_le a b (fitZ_bd ha) (fitZ_bd hb)
      have HO := Lib.hid (fun w => rover_any (a * b) w hm)
      obtain ⟨m0, m1⟩ := hm
      rw [if_pos (by rw [ha, hb]; rfl)]
      rw [ha] at HA
      rw [hb] at HB
      generalize withinF (overF (a * b)) = r at *
      generalize overF (a * b) = ov at *
      clear ha hb
      go_enter Tryd.func136, Tryd.ntmps136
      go_wp2_with fail
      refine (HA.out _).mono ?_
      rintro _ w1 ⟨rfl, rfl⟩
      go_wp2_with fail
      refine (HB.out _).mono ?_
      rintro _ w1 ⟨rfl, rfl⟩
      go_wp2_with fail
      refine (HO.out _).mono ?_
      rintro _ w2 ⟨rfl, h2⟩
      have HF2 := Lib.hid h2
      clear h2
      go_wp2_with fail
      refine (HK.out _).mono ?_
      rintro _ w1 ⟨rfl, rfl⟩
      go_wp2_with fail
      go_ret2
      exact ⟨rfl, HF2.out⟩
    · have hb' : fitZ b = false := by simpa using hb
      rw [if_neg (by simp [hb'])]
      rw [ha] at HA
      rw [hb'] at HB
      clear ha hb hb' HK
      go_enter Tryd.func136, Tryd.ntmps136
      go_wp2_with fail
      refine (HA.out _).mono ?_
      rintro _ w1 ⟨rfl, rfl⟩
      go_wp2_with fail
      refine (HB.out _).mono ?_
      rintro _ w1 ⟨rfl, rfl⟩
      go_wp2_with fail
      go_ret2
      exact ⟨rfl, Fr.refl _ _⟩
  · have ha' : fitZ a = false := by simpa using ha
    rw [if_neg (by simp [ha'])]
    rw [ha'] at HA
    clear ha ha' HK HB
    go_enter Tryd.func136, Tryd.ntmps136
    go_wp2_with fail
    refine (HA.out _).mono ?_
    rintro _ w1 ⟨rfl, rfl⟩
    go_wp2_with fail
    go_ret2
    exact ⟨rfl, Fr.refl _ _⟩
end Go.Proofs.YtkkejjfmidgciaaDoor
/- The reference's Sums and Delta: they give what the program's do. -/
namespace Go.Proofs.YtkkejjfmidgciaaDoor
open Go.RowKit
set_option linter.unusedVariables false
set_option linter.unusedSimpArgs false
theorem stook_any (b : Nat) (e n e1 : Int) (w : World) (h : Blk w b #[.int .i64 e] 151) :
    Calls Tryd.prog 137 #[.pointer (some ⟨b, 0, none⟩), .int .i64 n, .int .i64 e1] w fun x w' => x = .returned (.int .i64 n) ∧ Blk w' b #[.int .i64 (eN e e1)] 151 ∧ Fr (fun k => k = b) w w' := by
  have c0 := h.cell 0
  have q0 := h.free 0
  simp only [List.getElem?_toArray, List.getElem?_cons_zero] at c0
  have HB := Lib.hid h
  clear h
  by_cases h0 : e = 0
  · rw [show eN e e1 = e1 by unfold eN; rw [if_pos h0]]
    subst h0
    go_enter Tryd.func137, Tryd.ntmps137
    go_wp2
    go_ret
    exact ⟨rfl, HB.out.set 0 _, (Fr.refl (fun k => k = b) _).setCell (p := ⟨b, 0, none⟩) (.inl rfl) _⟩
  · rw [show eN e e1 = e by unfold eN; rw [if_neg h0]]
    have hne : (e == 0) = false := by simpa using h0
    go_enter Tryd.func137, Tryd.ntmps137
    go_wp2
    go_ret
    exact ⟨rfl, HB.out, Fr.refl _ _⟩
theorem smul_any (b : Nat) (e x y : Int) (w : World) (h : Blk w b #[.int .i64 e] 151) :
    Calls Tryd.prog 112 #[.pointer (some ⟨b, 0, none⟩), .int .i64 x, .int .i64 y] w fun r w' => r = .returned (.int .i64 (mulZ x y).1) ∧ Blk w' b #[.int .i64 (eN e (mulZ x y).2)] 151 ∧ Fr (fun k => k = b) w w' := by
  have HB := Lib.hid h
  have HM := Lib.hid (fun w => rmul_any x y w)
  generalize mulZ x y = r at *
  clear h
  go_enter Tryd.func112, Tryd.ntmps112
  go_wp2_with fail
  refine (HM.out _).mono ?_
  rintro _ w1 ⟨rfl, h1⟩
  have H1 := Lib.hid h1
  clear h1
  go_wp2_with fail
  refine (stook_any b e _ _ _ (HB.out.nob H1.out)).mono ?_
  rintro _ w2 ⟨rfl, h2, h3⟩
  have H2 := Lib.hid h2
  have H3 := Lib.hid ((H1.out.mono (T := fun k => k = b) fun _ hh => hh.elim).trans h3 fun k hk => .inl hk)
  clear h2 h3
  go_wp2_with fail
  go_ret
  exact ⟨rfl, H2.out, H3.out⟩
theorem sadd_any (b : Nat) (e x y : Int) (w : World) (h : Blk w b #[.int .i64 e] 151) :
    Calls Tryd.prog 113 #[.pointer (some ⟨b, 0, none⟩), .int .i64 x, .int .i64 y] w fun r w' => r = .returned (.int .i64 (addZ x y).1) ∧ Blk w' b #[.int .i64 (eN e (addZ x y).2)] 151 ∧ Fr (fun k => k = b) w w' := by
  have HB := Lib.hid h
  have HM := Lib.hid (fun w => radd_any x y w)
  generalize addZ x y = r at *
  clear h
  go_enter Tryd.func113, Tryd.ntmps113
  go_wp2_with fail
  refine (HM.out _).mono ?_
  rintro _ w1 ⟨rfl, h1⟩
  have H1 := Lib.hid h1
  clear h1
  go_wp2_with fail
  refine (stook_any b e _ _ _ (HB.out.nob H1.out)).mono ?_
  rintro _ w2 ⟨rfl, h2, h3⟩
  have H2 := Lib.hid h2
  have H3 := Lib.hid ((H1.out.mono (T := fun k => k = b) fun _ hh => hh.elim).trans h3 fun k hk => .inl hk)
  clear h2 h3
  go_wp2_with fail
  go_ret
  exact ⟨rfl, H2.out, H3.out⟩
theorem eN_zero (e : Int) : eN e 0 = e := by unfold eN; split <;> simp_all
theorem fit0 : fitZ 0 = true := by decide
theorem mulZ_fit (a b : Int) : fitZ (mulZ a b).1 = true := by
  unfold mulZ withinF
  split
  · split
    · next h => exact h
    · exact fit0
  · exact fit0
theorem addZ_zero (a : Int) (h : fitZ a = true) : addZ 0 a = (a, 0) := by
  unfold addZ withinF
  rw [if_pos (by rw [fit0, h]; rfl), Int.zero_add, if_pos h]
theorem addZ_err (a b : Int) (h : ¬ (addZ a b).2 = 0) : addZ a b = (0, (addZ a b).2) := by
  unfold addZ withinF at *
  split at h
  · split at h
    · exact (h rfl).elim
    · next h1 h2 => rw [if_pos h1, if_neg h2]
  · next h1 => rw [if_neg h1]
theorem sumZ_two (a b : Int) (h : fitZ a = true) : sumZ [a, b] = addZ a b := by
  unfold sumZ
  rw [sumGo, addZ_zero a h, if_pos rfl, sumGo]
  by_cases hb : (addZ a b).2 = 0
  · rw [if_pos hb, sumGo, ← hb]
  · rw [if_neg hb]; exact (addZ_err a b hb).symm
/-- a x + c y, as the reference has it. -/
def rtwo (e a x c y : Int) : Int × Int := ((addZ (mulZ a x).1 (mulZ c y).1).1, eN (eN (eN (eN e (mulZ a x).2) (mulZ c y).2) 0) (addZ (mulZ a x).1 (mulZ c y).1).2)
theorem rtwo_eq (e a x c y : Int) : twoZ e a x c y [] = rtwo e a x c y := by
  unfold twoZ rtwo
  rw [sumZ_two _ _ (mulZ_fit a x), eN_zero]
set_option maxHeartbeats 1600000 in
theorem rdelta_any (m : M6) (p : Pt) (w : World) : Calls Tryd.prog 69 #[mV m, ptV p] w fun r w' => r = .returned (pairV (deltaZ m p)) ∧ Fr Nob w w' := by
  have hD : deltaZ m p = pointZ (rtwo 0 m.a p.x m.c p.y).1 (rtwo (rtwo 0 m.a p.x m.c p.y).2 m.b p.x m.d p.y).1 (rtwo (rtwo 0 m.a p.x m.c p.y).2 m.b p.x m.d p.y).2 := by
    unfold deltaZ
    rw [rtwo_eq, rtwo_eq]
  rw [hD]
  clear hD
  have f1 := mulZ_fit m.a p.x
  have f2 := mulZ_fit m.b p.x
  have Z1 := Lib.hid (addZ_zero _ f1)
  have Z2 := Lib.hid (addZ_zero _ f2)
  unfold rtwo
  have HA := Lib.hid (fun b e w h => smul_any b e m.a p.x w h)
  have HB := Lib.hid (fun b e w h => smul_any b e m.c p.y w h)
  have HC := Lib.hid (fun b e w h => smul_any b e m.b p.x w h)
  have HD := Lib.hid (fun b e w h => smul_any b e m.d p.y w h)
  generalize mulZ m.a p.x = ra at *
  generalize mulZ m.c p.y = rc at *
  generalize mulZ m.b p.x = rb at *
  generalize mulZ m.d p.y = rd at *
  have HS1 := Lib.hid (fun b e w h => sadd_any b e 0 ra.1 w h)
  have HS2 := Lib.hid (fun b e w h => sadd_any b e ra.1 rc.1 w h)
  have HS3 := Lib.hid (fun b e w h => sadd_any b e 0 rb.1 w h)
  have HS4 := Lib.hid (fun b e w h => sadd_any b e rb.1 rd.1 w h)
  rw [Z1.out] at HS1
  rw [Z2.out] at HS3
  generalize addZ ra.1 rc.1 = r1 at *
  generalize addZ rb.1 rd.1 = r2 at *
  clear f1 f2 Z1 Z2
  dsimp only at HS1 HS3
  obtain ⟨ee, hee⟩ : ∃ ee, eN (eN (eN (eN (eN (eN (eN (eN 0 ra.2) rc.2) 0) r1.2) rb.2) rd.2) 0) r2.2 = ee := ⟨_, rfl⟩
  have HEE := Lib.hid hee
  dsimp only
  rw [hee]
  clear hee
  obtain ⟨pt, hpt⟩ : ∃ pt, pointZ r1.1 r2.1 ee = pt := ⟨_, rfl⟩
  have HPT := Lib.hid hpt
  rw [hpt]
  clear hpt
  have HM := Lib.hid (show Blk ((((w.alloc (.cells #[.int .i64 m.a, .int .i64 m.b, .int .i64 m.c, .int .i64 m.d, .int .i64 m.e, .int .i64 m.f] 33)).alloc (.cells #[.int .i64 p.x, .int .i64 p.y] 56)).alloc (.cells #[.int .i64 0, .int .i64 0] 56)).alloc (.cells #[.int .i64 0] 151)) w.heap.size #[.int .i64 m.a, .int .i64 m.b, .int .i64 m.c, .int .i64 m.d, .int .i64 m.e, .int .i64 m.f] 33 from (((Blk.new w _ _).alloc _).alloc _).alloc _)
  have HP := Lib.hid (show Blk ((((w.alloc (.cells #[.int .i64 m.a, .int .i64 m.b, .int .i64 m.c, .int .i64 m.d, .int .i64 m.e, .int .i64 m.f] 33)).alloc (.cells #[.int .i64 p.x, .int .i64 p.y] 56)).alloc (.cells #[.int .i64 0, .int .i64 0] 56)).alloc (.cells #[.int .i64 0] 151)) (w.heap.size + 1) #[.int .i64 p.x, .int .i64 p.y] 56 from ((Blk.new1 w _ _ _).alloc _).alloc _)
  have HZ := Lib.hid (show Blk ((((w.alloc (.cells #[.int .i64 m.a, .int .i64 m.b, .int .i64 m.c, .int .i64 m.d, .int .i64 m.e, .int .i64 m.f] 33)).alloc (.cells #[.int .i64 p.x, .int .i64 p.y] 56)).alloc (.cells #[.int .i64 0, .int .i64 0] 56)).alloc (.cells #[.int .i64 0] 151)) (w.heap.size + 2) #[.int .i64 0, .int .i64 0] 56 from (Blk.new2 w _ _ _ _).alloc _)
  have HST := Lib.hid (show Blk ((((w.alloc (.cells #[.int .i64 m.a, .int .i64 m.b, .int .i64 m.c, .int .i64 m.d, .int .i64 m.e, .int .i64 m.f] 33)).alloc (.cells #[.int .i64 p.x, .int .i64 p.y] 56)).alloc (.cells #[.int .i64 0, .int .i64 0] 56)).alloc (.cells #[.int .i64 0] 151)) (w.heap.size + 3) #[.int .i64 0] 151 from Blk.new3 w _ _ _ _ _)
  have HF := Lib.hid (show Fr Nob w ((((w.alloc (.cells #[.int .i64 m.a, .int .i64 m.b, .int .i64 m.c, .int .i64 m.d, .int .i64 m.e, .int .i64 m.f] 33)).alloc (.cells #[.int .i64 p.x, .int .i64 p.y] 56)).alloc (.cells #[.int .i64 0, .int .i64 0] 56)).alloc (.cells #[.int .i64 0] 151)) from ((((Fr.refl Nob w).alloc _).alloc _).alloc _).alloc _)
  unfold mV ptV
  go_enter Tryd.func69, Tryd.ntmps69
  go_upto_region 2 with (fail)
  generalize ((((w.alloc (.cells #[.int .i64 m.a, .int .i64 m.b, .int .i64 m.c, .int .i64 m.d, .int .i64 m.e, .int .i64 m.f] 33)).alloc (.cells #[.int .i64 p.x, .int .i64 p.y] 56)).alloc (.cells #[.int .i64 0, .int .i64 0] 56)).alloc (.cells #[.int .i64 0] 151)) = wa at *
  have n0 : w.heap.size ≠ w.heap.size + 3 := by omega
  have n1 : w.heap.size + 1 ≠ w.heap.size + 3 := by omega
  have n2 : w.heap.size + 2 ≠ w.heap.size + 3 := by omega
  have F0 : Hid (Fr (fun k => k = w.heap.size + 3) wa wa) := Fr.refl _ _
  have a0 : wa.cell? ⟨w.heap.size, 0, none⟩ = some (.int .i64 m.a) := HM.out.cell 0
  have b0 : wa.cell? ⟨w.heap.size + 1, 0, none⟩ = some (.int .i64 p.x) := HP.out.cell 0
  go_wp2_with fail
  refine (HA.out _ _ _ HST.out).mono ?_
  rintro _ w1 ⟨rfl, h1, f1⟩
  have F1 := Lib.hid (F0.out.again f1)
  have H1 := Lib.hid h1
  clear h1 f1 a0 b0
  have a2 : w1.cell? ⟨w.heap.size, 2, none⟩ = some (.int .i64 m.c) := (HM.out.fr F1.out n0).cell 2
  have b1 : w1.cell? ⟨w.heap.size + 1, 1, none⟩ = some (.int .i64 p.y) := (HP.out.fr F1.out n1).cell 1
  go_wp2_with fail
  refine (HB.out _ _ _ H1.out).mono ?_
  rintro _ w2 ⟨rfl, h1, f1⟩
  have F2 := Lib.hid (F1.out.again f1)
  have H2 := Lib.hid h1
  clear h1 f1  a2 b1
  go_wp2_with fail
  refine (HS1.out _ _ _ H2.out).mono ?_
  rintro _ w3 ⟨rfl, h1, f1⟩
  have F3 := Lib.hid (F2.out.again f1)
  have H3 := Lib.hid h1
  clear h1 f1 
  go_wp2_with fail
  refine (HS2.out _ _ _ H3.out).mono ?_
  rintro _ w4 ⟨rfl, h1, f1⟩
  have F4 := Lib.hid (F3.out.again f1)
  have H4 := Lib.hid h1
  clear h1 f1 
  have a1 : w4.cell? ⟨w.heap.size, 1, none⟩ = some (.int .i64 m.b) := (HM.out.fr F4.out n0).cell 1
  have b0 : w4.cell? ⟨w.heap.size + 1, 0, none⟩ = some (.int .i64 p.x) := (HP.out.fr F4.out n1).cell 0
  go_wp2_with fail
  refine (HC.out _ _ _ H4.out).mono ?_
  rintro _ w5 ⟨rfl, h1, f1⟩
  have F5 := Lib.hid (F4.out.again f1)
  have H5 := Lib.hid h1
  clear h1 f1  a1 b0
  have a3 : w5.cell? ⟨w.heap.size, 3, none⟩ = some (.int .i64 m.d) := (HM.out.fr F5.out n0).cell 3
  have b1 : w5.cell? ⟨w.heap.size + 1, 1, none⟩ = some (.int .i64 p.y) := (HP.out.fr F5.out n1).cell 1
  go_wp2_with fail
  refine (HD.out _ _ _ H5.out).mono ?_
  rintro _ w6 ⟨rfl, h1, f1⟩
  have F6 := Lib.hid (F5.out.again f1)
  have H6 := Lib.hid h1
  clear h1 f1  a3 b1
  go_wp2_with fail
  refine (HS3.out _ _ _ H6.out).mono ?_
  rintro _ w7 ⟨rfl, h1, f1⟩
  have F7 := Lib.hid (F6.out.again f1)
  have H7 := Lib.hid h1
  clear h1 f1 
  go_wp2_with fail
  refine (HS4.out _ _ _ H7.out).mono ?_
  rintro _ w8 ⟨rfl, h1, f1⟩
  have F8 := Lib.hid (F7.out.again f1)
  have H8 := Lib.hid h1
  clear h1 f1 
  have c8 := H8.out.cell 0
  simp only [List.getElem?_toArray, List.getElem?_cons_zero] at c8
  have HZ8 := Lib.hid (HZ.out.fr F8.out n2)
  have z0 := HZ8.out.cell 0
  have z1 := HZ8.out.cell 1
  have y0 := HZ8.out.free 0
  have y1 := HZ8.out.free 1
  simp only [List.getElem?_toArray, List.getElem?_cons_succ, List.getElem?_cons_zero] at z0 z1
  have HX := Lib.hid (HF.out.trans F8.out fun k hk => .inr (by omega))
  rw [HEE.out] at c8
  by_cases h0 : ee = 0
  · have HQ := Lib.hid (show pt = (⟨r1.1, r2.1⟩, 0) by rw [← HPT.out]; unfold pointZ; rw [if_pos h0])
    subst h0
    go_wp2_with fail
    exact bodyPost_ret (results_ct rfl _ _ _ 56 _ _ rfl ((HZ8.out.set 0 _).set 1 _) Tryd.underlying56 rfl (by kernel_rfl)) rfl ⟨by rw [HQ.out]; rfl, (HX.out.setCell (p := ⟨w.heap.size + 2, 0, none⟩) (.inr (by show w.heap.size ≤ w.heap.size + 2; omega)) _).setCell (p := ⟨w.heap.size + 2, 1, none⟩) (.inr (by show w.heap.size ≤ w.heap.size + 2; omega)) _⟩
  · have HQ := Lib.hid (show pt = (oo, ee) by rw [← HPT.out]; unfold pointZ; rw [if_neg h0])
    have hne : (ee != 0) = true := by simpa using h0
    clear h0
    go_wp2_with fail
    go_region
    all_goals
      go_wp2_with fail
      exact bodyPost_ret (results_ct rfl _ _ _ 56 _ _ rfl ((HZ8.out.drew.set 0 _).set 1 _) Tryd.underlying56 rfl (by kernel_rfl)) rfl ⟨by rw [HQ.out]; rfl, (HX.out.drew.setCell (p := ⟨w.heap.size + 2, 0, none⟩) (.inr (by show w.heap.size ≤ w.heap.size + 2; omega)) _).setCell (p := ⟨w.heap.size + 2, 1, none⟩) (.inr (by show w.heap.size ≤ w.heap.size + 2; omega)) _⟩
end Go.Proofs.YtkkejjfmidgciaaDoor
/- Fonts: the widths as lists of numbers; the two texts of each table; plain Lean, no program. -/
namespace Go.Proofs.YtkkejjfmidgciaaDoor
open Go.RowKit
def wid0 : List Nat := [278, 278, 355, 556, 556, 889, 667, 222, 333, 333, 389, 584, 278, 333, 278, 278, 556, 556, 556, 556, 556, 556, 556, 556, 556, 556, 278, 278, 584, 584, 584, 556, 1015, 667, 667, 722, 722, 667, 611, 778, 722, 278, 500, 667, 556, 833, 722, 778, 667, 778, 722, 667, 611, 722, 667, 944, 667, 667, 611, 278, 278, 278, 469, 556, 222, 556, 556, 500, 556, 556, 278, 556, 556, 222, 222, 500, 222, 833, 556, 556, 556, 556, 333, 500, 278, 556, 500, 722, 500, 500, 500, 334, 260, 334, 584]
def wid1 : List Nat := [278, 333, 474, 556, 556, 889, 722, 278, 333, 333, 389, 584, 278, 333, 278, 278, 556, 556, 556, 556, 556, 556, 556, 556, 556, 556, 333, 333, 584, 584, 584, 611, 975, 722, 722, 722, 722, 667, 611, 778, 722, 278, 556, 722, 611, 833, 722, 778, 667, 778, 722, 667, 611, 722, 667, 944, 667, 667, 611, 333, 278, 333, 584, 556, 278, 556, 611, 556, 611, 556, 333, 611, 611, 278, 278, 556, 278, 889, 611, 611, 611, 611, 389, 556, 333, 611, 556, 778, 556, 556, 500, 389, 280, 389, 584]
def wid2 : List Nat := [250, 333, 408, 500, 500, 833, 778, 333, 333, 333, 500, 564, 250, 333, 250, 278, 500, 500, 500, 500, 500, 500, 500, 500, 500, 500, 278, 278, 564, 564, 564, 444, 921, 722, 667, 667, 722, 611, 556, 722, 722, 333, 389, 722, 611, 889, 722, 722, 556, 722, 667, 556, 611, 722, 722, 944, 722, 722, 611, 333, 278, 333, 469, 500, 333, 444, 500, 444, 500, 444, 333, 500, 500, 278, 278, 500, 278, 778, 500, 500, 500, 500, 333, 389, 278, 500, 500, 722, 500, 500, 444, 480, 200, 480, 541]
def wid3 : List Nat := [250, 333, 555, 500, 500, 1000, 833, 333, 333, 333, 500, 570, 250, 333, 250, 278, 500, 500, 500, 500, 500, 500, 500, 500, 500, 500, 333, 333, 570, 570, 570, 500, 930, 722, 667, 722, 722, 667, 611, 778, 778, 389, 500, 778, 667, 944, 722, 778, 611, 778, 722, 556, 667, 722, 722, 1000, 722, 722, 667, 333, 278, 333, 581, 500, 333, 500, 556, 444, 556, 444, 333, 500, 556, 278, 333, 556, 278, 833, 556, 500, 556, 556, 444, 389, 333, 556, 500, 722, 500, 500, 444, 394, 220, 394, 520]
def wid4 : List Nat := [250, 333, 420, 500, 500, 833, 778, 333, 333, 333, 500, 675, 250, 333, 250, 278, 500, 500, 500, 500, 500, 500, 500, 500, 500, 500, 333, 333, 675, 675, 675, 500, 920, 611, 611, 667, 722, 611, 611, 722, 722, 333, 444, 667, 556, 833, 667, 722, 611, 722, 611, 500, 556, 722, 611, 833, 611, 556, 556, 389, 278, 389, 422, 500, 333, 500, 500, 444, 500, 444, 278, 500, 500, 278, 278, 444, 278, 722, 500, 500, 500, 500, 389, 389, 278, 500, 444, 667, 444, 444, 389, 400, 275, 400, 541]
def wid5 : List Nat := [250, 389, 555, 500, 500, 833, 778, 333, 333, 333, 500, 570, 250, 333, 250, 278, 500, 500, 500, 500, 500, 500, 500, 500, 500, 500, 333, 333, 570, 570, 570, 500, 832, 667, 667, 667, 722, 667, 667, 722, 778, 389, 500, 667, 611, 889, 722, 722, 611, 722, 667, 556, 611, 722, 667, 889, 667, 611, 611, 333, 278, 333, 570, 500, 333, 500, 500, 444, 500, 444, 333, 500, 556, 278, 278, 500, 278, 778, 556, 500, 500, 500, 389, 389, 278, 556, 444, 667, 500, 444, 389, 348, 220, 348, 570]
/-- The table of a font; empty: it has none. -/
def tabOf (i : Int) : List Nat := if i = 4 ∨ i = 6 then wid0 else if i = 5 ∨ i = 7 then wid1 else if i = 8 then wid2 else if i = 9 then wid3 else if i = 10 then wid4 else if i = 11 then wid5 else []
def d4 (n : Nat) : List UInt8 := [UInt8.ofNat (48 + n / 1000), UInt8.ofNat (48 + n / 100 % 10), UInt8.ofNat (48 + n / 10 % 10), UInt8.ofNat (48 + n % 10)]
/-- The program's text: four digits each. -/
def enc4 (l : List Nat) : ByteArray := ⟨(l.flatMap d4).toArray⟩
def dec (n : Nat) : List UInt8 := if n < 100 then [UInt8.ofNat (48 + n / 10 % 10), UInt8.ofNat (48 + n % 10)] else if n < 1000 then [UInt8.ofNat (48 + n / 100 % 10), UInt8.ofNat (48 + n / 10 % 10), UInt8.ofNat (48 + n % 10)] else d4 n
def joinSp : List Nat → List UInt8
  | [] => []
  | [n] => dec n
  | n :: r => dec n ++ 32 :: joinSp r
/-- The reference's text: with spaces between. -/
def encSp (l : List Nat) : ByteArray := ⟨(joinSp l).toArray⟩
end Go.Proofs.YtkkejjfmidgciaaDoor
/- The walks of font.table, mezzotintref12.table. -/
namespace Go.Proofs.YtkkejjfmidgciaaDoor
open Go.RowKit
set_option linter.unusedVariables false
set_option linter.unusedSimpArgs false
theorem ret_str {a b : List UInt8} (h : a = b) : Ending.returned (.string ⟨a.toArray⟩) = .returned (.string ⟨b.toArray⟩) := by rw [h]
set_option maxRecDepth 100000 in
theorem table_any (i : Int) (w : World) : Calls Tryd.prog 145 #[.int .i64 i] w fun e w' => e = .returned (.string (enc4 (tabOf i))) ∧ w = w' := by
  by_cases h4 : i = 4
  · subst h4; go_enter Tryd.func145, Tryd.ntmps145; go_wp2; go_ret; exact ⟨ret_str (by decide +kernel), rfl⟩
  by_cases h5 : i = 5
  · subst h5; go_enter Tryd.func145, Tryd.ntmps145; go_wp2; go_ret; exact ⟨ret_str (by decide +kernel), rfl⟩
  by_cases h6 : i = 6
  · subst h6; go_enter Tryd.func145, Tryd.ntmps145; go_wp2; go_ret; exact ⟨ret_str (by decide +kernel), rfl⟩
  by_cases h7 : i = 7
  · subst h7; go_enter Tryd.func145, Tryd.ntmps145; go_wp2; go_ret; exact ⟨ret_str (by decide +kernel), rfl⟩
  by_cases h8 : i = 8
  · subst h8; go_enter Tryd.func145, Tryd.ntmps145; go_wp2; go_ret; exact ⟨ret_str (by decide +kernel), rfl⟩
  by_cases h9 : i = 9
  · subst h9; go_enter Tryd.func145, Tryd.ntmps145; go_wp2; go_ret; exact ⟨ret_str (by decide +kernel), rfl⟩
  by_cases h10 : i = 10
  · subst h10; go_enter Tryd.func145, Tryd.ntmps145; go_wp2; go_ret; exact ⟨ret_str (by decide +kernel), rfl⟩
  by_cases h11 : i = 11
  · subst h11; go_enter Tryd.func145, Tryd.ntmps145; go_wp2; go_ret; exact ⟨ret_str (by decide +kernel), rfl⟩
  have ht : tabOf i = [] := by simp [tabOf, *]
  rw [ht]; clear ht
  go_enter Tryd.func145, Tryd.ntmps145; go_wp2; go_ret; exact ⟨rfl, rfl⟩
set_option maxRecDepth 100000 in
theorem rtable_any (i : Int) (w : World) : Calls Tryd.prog 135 #[.int .i64 i] w fun e w' => e = .returned (.string (encSp (tabOf i))) ∧ w = w' := by
  by_cases h4 : i = 4
  · subst h4; go_enter Tryd.func135, Tryd.ntmps135; go_wp2; go_ret; exact ⟨ret_str (by decide +kernel), rfl⟩
  by_cases h5 : i = 5
  · subst h5; go_enter Tryd.func135, Tryd.ntmps135; go_wp2; go_ret; exact ⟨ret_str (by decide +kernel), rfl⟩
  by_cases h6 : i = 6
  · subst h6; go_enter Tryd.func135, Tryd.ntmps135; go_wp2; go_ret; exact ⟨ret_str (by decide +kernel), rfl⟩
  by_cases h7 : i = 7
  · subst h7; go_enter Tryd.func135, Tryd.ntmps135; go_wp2; go_ret; exact ⟨ret_str (by decide +kernel), rfl⟩
  by_cases h8 : i = 8
  · subst h8; go_enter Tryd.func135, Tryd.ntmps135; go_wp2; go_ret; exact ⟨ret_str (by decide +kernel), rfl⟩
  by_cases h9 : i = 9
  · subst h9; go_enter Tryd.func135, Tryd.ntmps135; go_wp2; go_ret; exact ⟨ret_str (by decide +kernel), rfl⟩
  by_cases h10 : i = 10
  · subst h10; go_enter Tryd.func135, Tryd.ntmps135; go_wp2; go_ret; exact ⟨ret_str (by decide +kernel), rfl⟩
  by_cases h11 : i = 11
  · subst h11; go_enter Tryd.func135, Tryd.ntmps135; go_wp2; go_ret; exact ⟨ret_str (by decide +kernel), rfl⟩
  have ht : tabOf i = [] := by simp [tabOf, *]
  rw [ht]; clear ht
  go_enter Tryd.func135, Tryd.ntmps135; go_wp2; go_ret; exact ⟨rfl, rfl⟩
end Go.Proofs.YtkkejjfmidgciaaDoor
/- The walk of font.Width. -/
namespace Go.Proofs.YtkkejjfmidgciaaDoor
open Go.RowKit
set_option linter.unusedVariables false
set_option linter.unusedSimpArgs false
def widF (i c : Int) : Int := if i < 0 ∨ 14 ≤ i ∨ c < 32 ∨ 126 < c then 0 else if tabOf i = [] then (if i = 13 then 788 else 600) else ((tabOf i).getD (c - 32).toNat 0 : Nat)

theorem width_out (i c : Int) (h : i < 0 ∨ 14 ≤ i ∨ c < 32 ∨ 126 < c) (w : World) : Calls Tryd.prog 132 #[.int .i64 i, .int .u8 c] w fun e w' => e = .returned (.int .i64 0) ∧ w = w' := by
  by_cases h1 : i < 0
  · go_enter Tryd.func132, Tryd.ntmps132; go_wp2; go_ret; exact ⟨rfl, rfl⟩
  by_cases h2 : 14 ≤ i
  · go_enter Tryd.func132, Tryd.ntmps132; go_wp2; go_ret; exact ⟨rfl, rfl⟩
  by_cases h3 : c < 32
  · go_enter Tryd.func132, Tryd.ntmps132; go_wp2; go_ret; exact ⟨rfl, rfl⟩
  have h4 : 126 < c := by omega
  go_enter Tryd.func132, Tryd.ntmps132; go_wp2; go_ret; exact ⟨rfl, rfl⟩

theorem width_none (i c : Int) (h1 : 0 ≤ i) (h2 : i < 14) (h3 : 32 ≤ c) (h4 : c ≤ 126) (ht : tabOf i = []) (w : World) :
    Calls Tryd.prog 132 #[.int .i64 i, .int .u8 c] w fun e w' => e = .returned (.int .i64 (if i = 13 then 788 else 600)) ∧ w = w' := by
  have H : ∀ w, Calls Tryd.prog 145 #[.int .i64 i] w fun e w' => e = .returned (.string ⟨#[]⟩) ∧ w = w' := fun w => by
    have := table_any i w; rw [ht] at this; exact this
  have HH := Lib.hid H; clear H ht
  by_cases h5 : i = 13
  · subst h5
    go_enter Tryd.func132, Tryd.ntmps132
    go_wp2_with (go_at_call 145; refine (HH.out _).mono ?_; rintro e w' ⟨rfl, rfl⟩)
    go_ret; exact ⟨rfl, rfl⟩
  · go_enter Tryd.func132, Tryd.ntmps132
    go_wp2_with (go_at_call 145; refine (HH.out _).mono ?_; rintro e w' ⟨rfl, rfl⟩)
    go_ret; exact ⟨by simp, rfl⟩

/-- What is read after j digits of a number of four. -/
def upto (n j : Nat) : Nat := if j = 0 then 0 else if j = 1 then n / 1000 else if j = 2 then n / 100 else if j = 3 then n / 10 else n
def dig (n j : Nat) : Nat := if j = 0 then n / 1000 else if j = 1 then n / 100 % 10 else if j = 2 then n / 10 % 10 else n % 10
theorem upto_succ (n j : Nat) (hj : j < 4) : upto n (j + 1) = 10 * upto n j + dig n j := by
  have : j = 0 ∨ j = 1 ∨ j = 2 ∨ j = 3 := by omega
  rcases this with rfl | rfl | rfl | rfl <;> simp [upto, dig] <;> omega
theorem upto_le (n j : Nat) (hn : n ≤ 9999) : upto n j ≤ 9999 := by unfold upto; (repeat' split) <;> omega
theorem dig_le (n j : Nat) (hn : n ≤ 9999) : dig n j ≤ 9 := by unfold dig; (repeat' split) <;> omega
theorem str_len (s : ByteArray) : s.toList.length = s.size := by rw [Go.ByteArray.toList_eq, Array.length_toList]; rfl
theorem width_tab (i c : Int) (h1 : 0 ≤ i) (h2 : i < 14) (h3 : 32 ≤ c) (h4 : c ≤ 126) (s : ByteArray) (hs : s.size = 380) (ht : enc4 (tabOf i) = s)
    (n : Nat) (hn : n ≤ 9999) (hd : ∀ j, j < 4 → ((s.extract (4 * (c - 32)).toNat (4 * (c - 32) + 4).toNat).data.toList.getD j 0).toNat = 48 + dig n j) (w : World) :
    Calls Tryd.prog 132 #[.int .i64 i, .int .u8 c] w fun e w' => e = .returned (.int .i64 n) ∧ Below w.heap.size w w' := by
  have H : ∀ w, Calls Tryd.prog 145 #[.int .i64 i] w fun e w' => e = .returned (.string s) ∧ w = w' := fun w => by
    have := table_any i w; rw [ht] at this; exact this
  have HH := Lib.hid H; clear H ht
  have hne : s.toList ≠ [] := by
    intro e
    have := congrArg List.length e
    rw [str_len, hs] at this
    simp at this
  have e1 : s.toList.isEmpty = false := by simpa using hne
  have e2 : (!s.toList.isEmpty) = true := by simp [e1]
  have hs' : 380 ≤ s.size := by omega
  have b1 : 0 ≤ 4 * (c - 32) := by omega
  have b2 : 4 * (c - 32) ≤ 4 * (c - 32) + 4 := by omega
  have b3 : 4 * (c - 32) + 4 ≤ (s.size : Int) := by omega
  have el : (4 * (c - 32) + 4).toNat - (4 * (c - 32)).toNat = 4 := by omega
  have EL := Lib.hid el
  have HD := Lib.hid hd
  have hsz : (s.extract (4 * (c - 32)).toNat (4 * (c - 32) + 4).toNat).size = 4 := by rw [ByteArray.size_extract]; omega
  have HZ := Lib.hid hsz
  clear hs el hd hsz
  have kb := fun W s => Lib.run_convert_string_bytes (P := Tryd.prog) W 9 34 5 s Tryd.underlying9 Tryd.underlying34 Tryd.underlying5
  go_enter Tryd.func132, Tryd.ntmps132
  go_wp2_with (go_at_call 145; refine (HH.out _).mono ?_; rintro e w' ⟨rfl, rfl⟩)
  rw [EL.out]
  have hB : Below w.heap.size w (Lib.bytesWorld w 5 (s.extract (4 * (c - 32)).toNat (4 * (c - 32) + 4).toNat)) :=
    ⟨rfl, rfl, rfl, by rw [Lib.bytesWorld_size]; omega, fun j hj => Lib.bytesWorld_at_old w 5 _ j hj⟩
  have hC : ∀ j, j < 4 → (Lib.bytesWorld w 5 (s.extract (4 * (c - 32)).toNat (4 * (c - 32) + 4).toNat)).cell? ⟨w.heap.size, j, none⟩ = some (.int .u8 (48 + dig n j : Nat)) := fun j hj => by
    rw [Lib.bytesWorld_cell _ _ _ _ (by rw [HZ.out]; exact hj), HD.out j hj]
  have HB := Lib.hid hB
  have HC := Lib.hid hC
  clear hB hC kb HD HZ EL
  generalize Lib.bytesWorld w 5 (s.extract (4 * (c - 32)).toNat (4 * (c - 32) + 4).toNat) = wb at *
  go_loop [6, 41] (fun t q => ∃ j : Nat, j ≤ 4 ∧ q = .int .i64 j ∧ t = .int .i64 (upto n j)) (fun _ q => 4 - (intOf q).toNat)
  case atStart => exact ⟨0, by omega, rfl, rfl⟩
  case round =>
    obtain ⟨j, hj, rfl, rfl⟩ := hrel
    by_cases hlt : j < 4
    · have hc := HC.out j hlt
      have u1 := upto_le n j hn
      have u2 := dig_le n j hn
      have HU := Lib.hid (upto_succ n j hlt)
      go_wp2
      go_round
      case rel => exact ⟨j + 1, by omega, by go_num, by rw [HU.out]; congr 1; push_cast; omega⟩
      case measure => simp [intOf]; omega
    · have hge : 4 ≤ j := by omega
      go_wp2
      go_ret
      exact ⟨by rw [show j = 4 by omega]; rfl, HB.out⟩

/-- The texts of the tables: their size, their digits. -/
theorem tab_len (i : Int) : tabOf i = [] ∨ (tabOf i).length = 95 := by
  unfold tabOf; (repeat' split) <;> first | (right; rfl) | (left; rfl)
theorem tab_small (i : Int) : (tabOf i).all (fun n => decide (n ≤ 9999) && decide (10 ≤ n)) = true := by
  unfold tabOf; (repeat' split) <;> decide +kernel
theorem flat_len (l : List Nat) : (l.flatMap d4).length = 4 * l.length := by
  induction l with
  | nil => rfl
  | cons a r ih => simp [List.flatMap_cons, ih, d4]; omega
theorem d4_at (n j : Nat) (hn : n ≤ 9999) (hj : j < 4) : ((d4 n).getD j 0).toNat = 48 + dig n j := by
  have : j = 0 ∨ j = 1 ∨ j = 2 ∨ j = 3 := by omega
  rcases this with rfl | rfl | rfl | rfl <;> simp [d4, dig] <;> omega
theorem flat_at (l : List Nat) : ∀ (k j : Nat), k < l.length → j < 4 → (l.flatMap d4).getD (4 * k + j) 0 = (d4 (l.getD k 0)).getD j 0 := by
  induction l with
  | nil => intro k j hk; simp at hk
  | cons a r ih =>
    intro k j hk hj
    rw [List.flatMap_cons]
    cases k with
    | zero =>
      simp only [List.getD_eq_getElem?_getD]
      rw [List.getElem?_append_left (by simp [d4]; omega)]
      simp
    | succ k =>
      have := ih k j (by simpa using hk) hj
      simp only [List.getD_eq_getElem?_getD] at this ⊢
      rw [List.getElem?_append_right (by simp [d4]; omega), List.getElem?_cons_succ, ← this]
      congr 2
      simp [d4]; omega
theorem width_any (i c : Int) (w : World) : Calls Tryd.prog 132 #[.int .i64 i, .int .u8 c] w fun e w' => e = .returned (.int .i64 (widF i c)) ∧ Below w.heap.size w w' := by
  by_cases h : i < 0 ∨ 14 ≤ i ∨ c < 32 ∨ 126 < c
  · have hw : widF i c = 0 := by simp [widF, h]
    rw [hw]
    exact (width_out i c h w).mono fun e w' ⟨h1, h2⟩ => ⟨h1, h2 ▸ Below.refl _ _⟩
  · by_cases ht : tabOf i = []
    · have hw : widF i c = if i = 13 then 788 else 600 := by simp [widF, h, ht]
      rw [hw]
      exact (width_none i c (by omega) (by omega) (by omega) (by omega) ht w).mono fun e w' ⟨h1, h2⟩ => ⟨h1, h2 ▸ Below.refl _ _⟩
    · have hw : widF i c = ((tabOf i).getD (c - 32).toNat 0 : Nat) := by simp [widF, h, ht]
      rw [hw]
      have hl : (tabOf i).length = 95 := (tab_len i).resolve_left ht
      have hk : (c - 32).toNat < 95 := by omega
      have hn : (tabOf i).getD (c - 32).toNat 0 ≤ 9999 := by
        have := List.all_eq_true.1 (tab_small i) _ (List.getElem_mem (l := tabOf i) (n := (c - 32).toNat) (by omega))
        simp at this
        rw [List.getD_eq_getElem?_getD, List.getElem?_eq_getElem (by omega)]
        exact this.1
      refine width_tab i c (by omega) (by omega) (by omega) (by omega) (enc4 (tabOf i)) ?_ rfl _ hn ?_ w
      · show (List.toArray _).size = 380
        rw [List.size_toArray, flat_len, hl]
      · intro j hj
        rw [enc4, ByteArray.extract_mk]
        show (((((tabOf i).flatMap d4).drop _).take _).getD j 0).toNat = _
        rw [← d4_at _ j hn hj, ← flat_at (tabOf i) (c - 32).toNat j (by omega) hj]
        simp only [List.getD_eq_getElem?_getD]
        rw [List.getElem?_take, if_pos (by omega), List.getElem?_drop]
        congr 4
        omega
end Go.Proofs.YtkkejjfmidgciaaDoor
/- The walk of mezzotintref12.Width. -/
namespace Go.Proofs.YtkkejjfmidgciaaDoor
open Go.RowKit
set_option linter.unusedVariables false
set_option linter.unusedSimpArgs false
theorem rwidth_out (i c : Int) (h : i < 0 ∨ 14 ≤ i ∨ c < 32 ∨ 126 < c) (w : World) : Calls Tryd.prog 111 #[.int .i64 i, .int .u8 c] w fun e w' => e = .returned (.int .i64 0) ∧ w = w' := by
  by_cases h1 : i < 0
  · go_enter Tryd.func111, Tryd.ntmps111; go_wp2; go_ret; exact ⟨rfl, rfl⟩
  by_cases h2 : 13 < i
  · go_enter Tryd.func111, Tryd.ntmps111; go_wp2; go_ret; exact ⟨rfl, rfl⟩
  by_cases h3 : c < 32
  · go_enter Tryd.func111, Tryd.ntmps111; go_wp2; go_ret; exact ⟨rfl, rfl⟩
  have h4 : 126 < c := by omega
  go_enter Tryd.func111, Tryd.ntmps111; go_wp2; go_ret; exact ⟨rfl, rfl⟩

theorem rwidth_none (i c : Int) (h1 : 0 ≤ i) (h2 : i < 14) (h3 : 32 ≤ c) (h4 : c ≤ 126) (ht : tabOf i = []) (w : World) :
    Calls Tryd.prog 111 #[.int .i64 i, .int .u8 c] w fun e w' => e = .returned (.int .i64 (if i = 13 then 788 else 600)) ∧ w = w' := by
  have H : ∀ w, Calls Tryd.prog 135 #[.int .i64 i] w fun e w' => e = .returned (.string ⟨#[]⟩) ∧ w = w' := fun w => by
    have := rtable_any i w; rw [ht] at this; exact this
  have HH := Lib.hid H; clear H ht
  by_cases h5 : i = 13
  · subst h5
    go_enter Tryd.func111, Tryd.ntmps111
    go_wp2_with (go_at_call 135; refine (HH.out _).mono ?_; rintro e w' ⟨rfl, rfl⟩)
    go_ret; exact ⟨rfl, rfl⟩
  · go_enter Tryd.func111, Tryd.ntmps111
    go_wp2_with (go_at_call 135; refine (HH.out _).mono ?_; rintro e w' ⟨rfl, rfl⟩)
    go_ret; exact ⟨by simp, rfl⟩

/-- What the reference's loop comes to. -/
def scan : List UInt8 → Int → Int → Int
  | [], _, n => n
  | b :: r, k, n => if b.toNat = 32 then (if k = 0 then n else scan r (wrap64 (k - 1)) 0) else scan r k (wrap64 (wrap64 (n * 10) + (((b.toNat : Int) - 48) % 256)))

theorem drop_at (s : ByteArray) (j : Nat) (h : j < s.size) : s.data.toList.drop j = s[j] :: s.data.toList.drop (j + 1) := by
  rw [List.drop_eq_getElem_cons (by rw [Array.length_toList]; exact h)]
  rfl
set_option maxHeartbeats 400000 in
theorem rwidth_tab (i c : Int) (h1 : 0 ≤ i) (h2 : i < 14) (h3 : 32 ≤ c) (h4 : c ≤ 126) (s : ByteArray) (hs : 1 ≤ s.size) (hs2 : s.size ≤ 1000) (ht : encSp (tabOf i) = s)
    (w : World) :
    Calls Tryd.prog 111 #[.int .i64 i, .int .u8 c] w fun e w' => e = .returned (.int .i64 (scan s.data.toList (c - 32) 0)) ∧ w = w' := by
  have H : ∀ w, Calls Tryd.prog 135 #[.int .i64 i] w fun e w' => e = .returned (.string s) ∧ w = w' := fun w => by
    have := rtable_any i w; rw [ht] at this; exact this
  have HH := Lib.hid H; clear H ht
  have hne : s.toList ≠ [] := by
    intro e
    have := congrArg List.length e
    rw [str_len, List.length_nil] at this
    omega
  have e1 : s.toList.isEmpty = false := by simpa using hne
  have e2 : (!s.toList.isEmpty) = true := by simp [e1]
  clear hne
  go_enter Tryd.func111, Tryd.ntmps111
  go_wp2_with (go_at_call 135; refine (HH.out _).mono ?_; rintro e w' ⟨rfl, rfl⟩)
  go_loop [6, 7, 8] (fun kv nv jv => ∃ (j : Nat) (k n : Int), j ≤ s.size ∧ jv = .int .i64 j ∧ kv = .int .i64 k ∧ nv = .int .i64 n ∧ Hid (scan (s.data.toList.drop j) k n = scan s.data.toList (c - 32) 0)) (fun _ _ q => s.size - (intOf q).toNat)
  case atStart => exact ⟨0, _, 0, by omega, rfl, rfl, rfl, rfl⟩
  case round =>
    obtain ⟨j, k, n, hj, rfl, rfl, rfl, HS⟩ := hrel
    by_cases hlt : j < s.size
    · have HD := Lib.hid (drop_at s j hlt)
      by_cases h32 : s[j].toNat = 32
      · by_cases hk : k = 0
        · have HF : Hid (n = scan s.data.toList (c - 32) 0) := by
            have h := HS.out; rw [HD.out, scan, if_pos h32, if_pos hk] at h; exact h
          clear HS HD
          go_wp2
          go_ret
          exact ⟨by rw [← HF.out]; rfl, rfl⟩
        · have HF : Hid (scan (s.data.toList.drop (j + 1)) (wrap64 (k - 1)) 0 = scan s.data.toList (c - 32) 0) := by
            have h := HS.out; rw [HD.out, scan, if_pos h32, if_neg hk] at h; exact h
          clear HS HD
          go_wp2
          go_round
          case rel => exact ⟨j + 1, _, 0, by omega, by go_num, rfl, rfl, HF⟩
          case measure => simp [intOf]; omega
      · have HF : Hid (scan (s.data.toList.drop (j + 1)) k (wrap64 (wrap64 (n * 10) + (((s[j].toNat : Int) - 48) % 256))) = scan s.data.toList (c - 32) 0) := by
          have h := HS.out; rw [HD.out, scan, if_neg h32] at h; exact h
        clear HS HD
        go_wp2
        go_round
        case rel => exact ⟨j + 1, k, _, by omega, by go_num, rfl, rfl, HF⟩
        case measure => simp [intOf]; omega
    · have hge : s.size ≤ j := by omega
      have HF : Hid (n = scan s.data.toList (c - 32) 0) := by
        have h := HS.out; rw [List.drop_eq_nil_of_le (by rw [Array.length_toList]; exact hge), scan] at h; exact h
      clear HS
      go_wp2
      go_ret
      exact ⟨by rw [← HF.out]; rfl, rfl⟩

def scanOk (l : List Nat) : Bool := (List.range 95).all fun k => scan (joinSp l) k 0 == (l.getD k 0 : Nat)
theorem scan_ok (i : Int) (ht : tabOf i ≠ []) : scanOk (tabOf i) = true := by
  unfold tabOf at ht ⊢
  (repeat' split) <;> first | decide +kernel | (simp_all; done)
theorem join_len (i : Int) (ht : tabOf i ≠ []) : 1 ≤ (joinSp (tabOf i)).length ∧ (joinSp (tabOf i)).length ≤ 1000 := by
  unfold tabOf at ht ⊢
  (repeat' split) <;> first | decide +kernel | (simp_all; done)
theorem rwidth_any (i c : Int) (w : World) : Calls Tryd.prog 111 #[.int .i64 i, .int .u8 c] w fun e w' => e = .returned (.int .i64 (widF i c)) ∧ w = w' := by
  by_cases h : i < 0 ∨ 14 ≤ i ∨ c < 32 ∨ 126 < c
  · have hw : widF i c = 0 := by simp [widF, h]
    rw [hw]
    exact rwidth_out i c h w
  · by_cases ht : tabOf i = []
    · have hw : widF i c = if i = 13 then 788 else 600 := by simp [widF, h, ht]
      rw [hw]
      exact rwidth_none i c (by omega) (by omega) (by omega) (by omega) ht w
    · have hw : widF i c = scan (encSp (tabOf i)).data.toList (c - 32) 0 := by
        have hs := List.all_eq_true.1 (scan_ok i ht) (c - 32).toNat (by simp; omega)
        have hc : ((c - 32).toNat : Int) = c - 32 := Int.toNat_of_nonneg (by omega)
        rw [hc] at hs
        rw [widF, if_neg h, if_neg ht]
        exact (eq_of_beq hs).symm
      rw [hw]
      have hl := join_len i ht
      exact rwidth_tab i c (by omega) (by omega) (by omega) (by omega) _ (by rw [encSp]; exact hl.1) (by rw [encSp]; exact hl.2) rfl w
end Go.Proofs.YtkkejjfmidgciaaDoor
/- The walks of font.Sum, of the reference's Sum, of the law FontSums. -/
namespace Go.Proofs.YtkkejjfmidgciaaDoor
open Go.RowKit
set_option linter.unusedVariables false
set_option linter.unusedSimpArgs false
/-- The cells of bytes. -/
def bytesV (l : List Int) : List Value := l.map fun z => .int .u8 z
def sumF (i : Int) (l : List Int) : Int := (l.map (widF i)).sum
theorem wid_bound (i c : Int) : 0 ≤ widF i c ∧ widF i c ≤ 9999 := by
  unfold widF
  split
  · omega
  split
  · split <;> omega
  · rename_i h1 h2
    have hs := tab_small i
    rcases Nat.lt_or_ge (c - 32).toNat (tabOf i).length with hl | hl
    · have := List.all_eq_true.1 hs _ (List.getElem_mem hl)
      simp at this
      rw [List.getD_eq_getElem?_getD, List.getElem?_eq_getElem hl]
      simp; omega
    · rw [List.getD_eq_getElem?_getD, List.getElem?_eq_none hl]
      simp
theorem sum_nil (i : Int) : sumF i [] = 0 := rfl
theorem sum_append (i : Int) (a b : List Int) : sumF i (a ++ b) = sumF i a + sumF i b := by simp [sumF]
theorem sum_bound (i : Int) (l : List Int) : 0 ≤ sumF i l ∧ sumF i l ≤ 9999 * l.length := by
  induction l with
  | nil => simp [sumF]
  | cons a r ih =>
    have h1 := wid_bound i a
    have h2 : sumF i (a :: r) = widF i a + sumF i r := by simp [sumF]
    rw [h2, List.length_cons]
    omega
theorem sum_more (i : Int) (l : List Int) (k : Nat) (hk : k < l.length) : sumF i (l.take (k + 1)) = sumF i (l.take k) + widF i l[k] := by
  rw [List.take_succ_eq_append_getElem hk, sum_append]; simp [sumF]
theorem bytes_at (l : List Int) (k : Nat) (hk : k < l.length) : (bytesV l)[k]? = some (.int .u8 l[k]) := by simp [bytesV, hk]
theorem RowIn.byte {w : World} {S : Nat → Prop} {v : Value} {l : List Int} (h : RowIn w S 1 v l.length (bytesV l)) (hn : 0 < l.length) :
    ∃ b off cap, v = .slice (some ⟨b, off, none⟩) l.length cap ∧ l.length ≤ cap ∧ cap ≤ 9223372036854775807 ∧ S b ∧ ∀ k (hk : k < l.length), w.cell? ⟨b, off + k, none⟩ = some (.int .u8 l[k]) := by
  obtain ⟨b, off, cap, hv, h1, h2, hS, hc⟩ := h.pos (by simpa [bytesV] using hn)
  exact ⟨b, off, cap, hv, h1, h2, hS, fun k hk => hc _ _ (bytes_at l k hk)⟩

theorem sum_any (i : Int) (l : List Int) (v : Value) (S : Nat → Prop) (w : World) (h : RowIn w S 1 v l.length (bytesV l)) (hl : l.length ≤ 6000) :
    Calls Tryd.prog 108 #[.int .i64 i, v] w fun e w' => e = .returned (.int .i64 (sumF i l)) ∧ Fr Nob w w' := by
  by_cases h0 : l.length = 0
  · obtain rfl : l = [] := List.length_eq_zero_iff.1 h0
    obtain ⟨_, A, c, rfl, _⟩ := h
    rw [sum_nil]
    go_enter Tryd.func108, Tryd.ntmps108
    go_wp2
    go_loopw [5, 10] (fun s q wr => s = .int .i64 0 ∧ q = .int .i64 0 ∧ wr = w) (fun _ _ _ => 0)
    case atStart => exact ⟨rfl, rfl, rfl⟩
    case round =>
      obtain ⟨rfl, rfl, rfl⟩ := hrel
      go_wp2
      go_ret
      exact ⟨rfl, Fr.refl _ _⟩
  · obtain ⟨b, off, cap, rfl, h1, h2, _, hA⟩ := h.byte (by omega)
    have HA := Lib.hid hA
    clear h hA
    go_enter Tryd.func108, Tryd.ntmps108
    go_wp2
    go_loopw [5, 10] (fun s q wr => ∃ k : Nat, k ≤ l.length ∧ q = .int .i64 k ∧ s = .int .i64 (sumF i (l.take k)) ∧ Hid (Fr Nob w wr)) (fun _ q _ => l.length - (intOf q).toNat)
    case atStart => exact ⟨0, by omega, rfl, rfl, Fr.refl _ _⟩
    case round =>
      obtain ⟨k, hk, rfl, rfl, hf⟩ := hrel
      have hb := sum_bound i (l.take k)
      have hb1 := hb.1
      have hb2 : sumF i (l.take k) ≤ 9999 * 6000 := by have := hb.2; rw [List.length_take] at this; omega
      clear hb
      by_cases hlt : k < l.length
      · have hc := cell_nob (HA.out k hlt) hf.out
        have hm := Lib.hid (sum_more i l k hlt)
        have hw := wid_bound i l[k]
        have hw1 := hw.1
        have hw2 := hw.2
        clear hw
        have i1 : (k : Int) < l.length := by omega
        go_wp2_with fail
        refine (width_any i l[k] _).mono ?_
        rintro e w' ⟨rfl, hbl⟩
        have hf2 := Lib.hid (hf.out.trans0 (Fr.of_below Nob hbl))
        clear hbl
        go_wp2_with fail
        go_roundw
        case rel => exact ⟨k + 1, by omega, by go_num, by rw [hm.out], hf2⟩
        case measure => simp [intOf]; omega
      · have hlen : l.take k = l := by rw [List.take_of_length_le (by omega)]
        rw [hlen] at *
        have hge : l.length ≤ k := by omega
        go_wp2
        go_ret
        exact ⟨rfl, hf.out⟩

theorem rsum_any (i : Int) (l : List Int) (v : Value) (S : Nat → Prop) (w : World) (h : RowIn w S 1 v l.length (bytesV l)) (hl : l.length ≤ 6000) :
    Calls Tryd.prog 68 #[.int .i64 i, v] w fun e w' => e = .returned (.int .i64 (sumF i l)) ∧ Fr Nob w w' := by
  by_cases h0 : l.length = 0
  · obtain rfl : l = [] := List.length_eq_zero_iff.1 h0
    obtain ⟨_, A, c, rfl, _⟩ := h
    rw [sum_nil]
    go_enter Tryd.func68, Tryd.ntmps68
    go_wp2
    go_loopw [5, 6] (fun s q wr => s = .int .i64 0 ∧ q = .int .i64 0 ∧ wr = w) (fun _ _ _ => 0)
    case atStart => exact ⟨rfl, rfl, rfl⟩
    case round =>
      obtain ⟨rfl, rfl, rfl⟩ := hrel
      go_wp2
      go_ret
      exact ⟨rfl, Fr.refl _ _⟩
  · obtain ⟨b, off, cap, rfl, h1, h2, _, hA⟩ := h.byte (by omega)
    have HA := Lib.hid hA
    clear h hA
    go_enter Tryd.func68, Tryd.ntmps68
    go_wp2
    go_loopw [5, 6] (fun s q wr => ∃ k : Nat, k ≤ l.length ∧ q = .int .i64 k ∧ s = .int .i64 (sumF i (l.take k)) ∧ Hid (Fr Nob w wr)) (fun _ q _ => l.length - (intOf q).toNat)
    case atStart => exact ⟨0, by omega, rfl, rfl, Fr.refl _ _⟩
    case round =>
      obtain ⟨k, hk, rfl, rfl, hf⟩ := hrel
      have hb := sum_bound i (l.take k)
      have hb1 := hb.1
      have hb2 : sumF i (l.take k) ≤ 9999 * 6000 := by have := hb.2; rw [List.length_take] at this; omega
      clear hb
      by_cases hlt : k < l.length
      · have hc := cell_nob (HA.out k hlt) hf.out
        have hm := Lib.hid (sum_more i l k hlt)
        have hw := wid_bound i l[k]
        have hw1 := hw.1
        have hw2 := hw.2
        clear hw
        have i1 : (k : Int) < l.length := by omega
        go_wp2_with fail
        refine (rwidth_any i l[k] _).mono ?_
        rintro e w' ⟨rfl, rfl⟩
        go_wp2_with fail
        go_roundw
        case rel => exact ⟨k + 1, by omega, by go_num, by rw [hm.out], hf⟩
        case measure => simp [intOf]; omega
      · have hlen : l.take k = l := by rw [List.take_of_length_le (by omega)]
        rw [hlen] at *
        have hge : l.length ≤ k := by omega
        go_wp2
        go_ret
        exact ⟨rfl, hf.out⟩
theorem info5 : (Tryd.prog.info? 5).map (fun i => (i.zero, i.size, i.bytes)) = some (some (.int .u8 0), 1, 1) := by kernel_rfl
theorem bytes_one (l : List Int) : ∀ u ∈ bytesV l, u.oneCell' = true := by
  intro u hu; simp [bytesV] at hu; obtain ⟨z, _, rfl⟩ := hu; rfl
theorem bytes_append (a b : List Int) : bytesV (a ++ b) = bytesV a ++ bytesV b := by simp [bytesV]
theorem read_bytes {H : Type} {enc' : TypeId × Value → H} {w : World} {base : Nat} {spare : Nat → Bool} {held : Bool} {fuel : Nat} {v : Value} {x : DataW H × List MemPlace}
    (h : DataW.trod enc' Tryd.prog w base spare held fuel 34 [v] = some x) : ∃ l : List Int, RowIn w (Lt w) 1 v l.length (bytesV l) := by
  obtain ⟨xs, h1, h2⟩ := read_slice Tryd.underlying34 1 (by kernel_rfl) (by omega) (fun (z : Int) cs => cs = [.int .u8 z]) (fun n cs y h => by
    obtain ⟨z, hz, _⟩ := DataW.trod_int Tryd.underlying5 h
    exact ⟨z, hz⟩) h
  have e : xs.flatMap (·.2) = bytesV (xs.map (·.1)) := by
    clear h1
    induction xs with
    | nil => rfl
    | cons a r ih =>
      rw [List.flatMap_cons, (h2 a (by simp)).1, ih fun y hy => h2 y (by simp [hy])]
      simp [bytesV]
  rw [e] at h1
  exact ⟨xs.map (·.1), by simpa using h1⟩
end Go.Proofs.YtkkejjfmidgciaaDoor
