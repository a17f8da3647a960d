/-
  Texts joined in build order: The walks of two, point, Delta, Apply of package mat. The walk of mat.Concat, of the states' Concat. The walk of the states' Concat. The walk of Clip. The walks of Init, RestoreAll. The walk of Init.
-/
import Derived.Test.YtkkejjfmidgciaaDoorJBal4
/- The walks of two, point, Delta, Apply of package mat. -/
namespace Go.Proofs.YtkkejjfmidgciaaDoor
open Go.RowKit
set_option linter.unusedVariables false
set_option linter.unusedSimpArgs false
def twoZ (e a x c y : Int) (more : List Int) : Int × Int := ((sumZ ((mulZ a x).1 :: (mulZ c y).1 :: more)).1, eN (eN (eN e (mulZ a x).2) (mulZ c y).2) (sumZ ((mulZ a x).1 :: (mulZ c y).1 :: more)).2)
theorem Fr.of0 {S : Nat → Prop} {w w' : World} (h : Fr Nob w w') : Fr S w w' := h.mono fun _ hh => hh.elim
theorem Fr.again {S : Nat → Prop} {a b c : World} (h : Fr S a b) (k : Fr S b c) : Fr S a c := h.trans k fun _ hk => .inl hk
theorem OwnS.two (w : World) (m n : Int) : OwnS (w.alloc (.cells #[.int .i64 m, .int .i64 n] 3)) 3 1 (.slice (some ⟨w.heap.size, 0, none⟩) 2 2) 2 (ints [m, n]) :=
  ⟨by simp [ints], .inr ⟨w.heap.size, 2, _, rfl, Blk.new _ _ _, Nat.le_refl _, by decide, by simp, by simp [ints]⟩⟩
theorem mtwo_any (b : Nat) (e a x c y : Int) (v : Value) (more : List Int) (S : Nat → Prop) (w : World) (h : Blk w b #[.int .i64 e] 169) (hr : RowIn w S 1 v more.length (ints more)) (hS : ∀ k, S k → ¬ k = b) (hm : more.length ≤ 1000) :
    Calls Tryd.prog 133 #[.pointer (some ⟨b, 0, none⟩), .int .i64 a, .int .i64 x, .int .i64 c, .int .i64 y, v] w fun r w' => r = .returned (.int .i64 (twoZ e a x c y more).1) ∧ Blk w' b #[.int .i64 (twoZ e a x c y more).2] 169 ∧ Fr (fun k => k = b) w w' := by
  obtain ⟨i0, hi, hz0, hz1, hz2⟩ := info_parts infoInt
  unfold twoZ
  dsimp only
  have HB := Lib.hid h
  have HR := Lib.hid hr
  have HS := Lib.hid hS
  have HLT := Lib.hid h.lt
  obtain ⟨A, cap, rfl, _⟩ := hr.form
  have HM1 := Lib.hid (fun w h => mmul_any b e a x w h)
  have HM2 := Lib.hid (fun e w h => mmul_any b e c y w h)
  generalize mulZ a x = p at *
  generalize mulZ c y = q at *
  have HM3 := Lib.hid (fun e v S w h hr => msum_any b e v (p.1 :: q.1 :: more) S w h hr)
  generalize sumZ (p.1 :: q.1 :: more) = s at *
  clear h hr hS
  go_enter Tryd.func133, Tryd.ntmps133
  go_wp2_with fail
  refine (HM1.out _ HB.out).mono ?_
  rintro _ w1 ⟨rfl, h1, f1⟩
  have H1 := Lib.hid h1
  have F1 := Lib.hid f1
  clear h1 f1
  go_wp2_with fail
  refine (HM2.out _ _ H1.out).mono ?_
  rintro _ w2 ⟨rfl, h2, f2⟩
  have H2 := Lib.hid h2
  have F2 := Lib.hid (F1.out.again f2)
  have HO := Lib.hid (OwnS.two w2 p.1 q.1)
  have HR2 := Lib.hid ((HR.out.fr F2.out fun k hk e => HS.out k hk e).nob ((Fr.refl Nob w2).alloc (.cells #[.int .i64 p.1, .int .i64 q.1] 3)))
  have HA2 := Lib.hid ((Fr.refl Nob w2).alloc (.cells #[.int .i64 p.1, .int .i64 q.1] 3))
  clear h2 f2
  go_wp2_with (at_builtin; refine wpList_app _ rfl (.tmp 24) (.tmp 25) 30 rfl 3 i0 _ 1 8 Tryd.underlying30 hi hz0 hz1 hz2 rfl (by decide) _ 2 (ints [p.1, q.1]) (by rfl) HO.out S _ more.length (ints more) (by rfl) HR2.out (ints_one more) (by unfold maxLen; omega) (by omega) ?_)
  intro v' w3 hown hfr hat
  have HF3 := Lib.hid (HA2.out.trans hfr fun k hk => .inr (by simp [inB, Value.ownBlock] at hk; omega))
  have HRN := Lib.hid (show RowIn w3 (inB v') 1 v' (p.1 :: q.1 :: more).length (ints (p.1 :: q.1 :: more)) from (show 2 + more.length = (p.1 :: q.1 :: more).length by simp; omega) ▸ hown.row)
  obtain ⟨A3, c3, rfl, _⟩ := hown.form
  clear hown hfr hat
  go_wp2_with fail
  refine (HM3.out _ _ _ _ (H2.out.nob HF3.out) HRN.out).mono ?_
  rintro _ w4 ⟨rfl, h4, f4⟩
  have H4 := Lib.hid h4
  have F4 := Lib.hid ((F2.out.trans0 HF3.out).again f4)
  clear h4 f4
  go_wp2_with fail
  go_ret
  exact ⟨rfl, H4.out, F4.out⟩
def pointZ (x y e : Int) : Pt × Int := if e = 0 then (⟨x, y⟩, 0) else (oo, e)
def pairV (r : Pt × Int) : Value := .tuple #[ptV r.1, .int .i64 r.2]
theorem mpoint_any (b : Nat) (e x y : Int) (w : World) (h : Blk w b #[.int .i64 e] 169) :
    Calls Tryd.prog 134 #[.pointer (some ⟨b, 0, none⟩), .int .i64 x, .int .i64 y] w fun r w' => r = .returned (pairV (pointZ x y e)) ∧ Fr Nob w w' := by
  have hf := (Fr.refl Nob w).alloc (.cells #[.int .i64 0, .int .i64 0] 56)
  have hb := h.nob hf
  have c0 := hb.cell 0
  simp only [List.getElem?_toArray, List.getElem?_cons_zero] at c0
  have hbw : b ≠ w.heap.size := by have := h.lt; omega
  have HZ := Lib.hid (Blk.new w #[.int .i64 0, .int .i64 0] 56)
  have HF := Lib.hid hf
  clear h hb hf
  unfold pairV pointZ ptV
  by_cases h0 : e = 0
  · rw [if_pos h0]
    subst h0
    go_enter Tryd.func134, Tryd.ntmps134
    go_wp2
    exact bodyPost_ret (results_ct rfl _ _ _ 56 _ _ rfl (Blk.new w #[.int .i64 x, .int .i64 y] 56) Tryd.underlying56 rfl (by kernel_rfl)) rfl ⟨rfl, (Fr.refl Nob w).alloc _⟩
  · rw [if_neg h0]
    have hne : (e == 0) = false := by simpa using h0
    have hne2 : (e != 0) = true := by simpa using h0
    clear h0
    go_enter Tryd.func134, Tryd.ntmps134
    go_wp2
    go_region
    go_wp2
    exact bodyPost_ret (results_ct rfl _ _ _ 56 _ _ rfl HZ.out.drew Tryd.underlying56 rfl (by kernel_rfl)) rfl ⟨rfl, HF.out.drew⟩
def deltaZ (m : M6) (p : Pt) : Pt × Int := pointZ (twoZ 0 m.a p.x m.c p.y []).1 (twoZ (twoZ 0 m.a p.x m.c p.y []).2 m.b p.x m.d p.y []).1 (twoZ (twoZ 0 m.a p.x m.c p.y []).2 m.b p.x m.d p.y []).2
def applyZ (m : M6) (p : Pt) : Pt × Int := pointZ (twoZ 0 m.a p.x m.c p.y [m.e]).1 (twoZ (twoZ 0 m.a p.x m.c p.y [m.e]).2 m.b p.x m.d p.y [m.f]).1 (twoZ (twoZ 0 m.a p.x m.c p.y [m.e]).2 m.b p.x m.d p.y [m.f]).2
theorem Blk.new3 (w : World) (o o' o'' : Obj) (cs : Array Value) (t : TypeId) : Blk ((((w.alloc o).alloc o').alloc o'').alloc (.cells cs t)) (w.heap.size + 3) cs t := by
  have := Blk.new (((w.alloc o).alloc o').alloc o'') cs t
  simpa using this
set_option maxRecDepth 8000 in
theorem mdelta_any (m : M6) (p : Pt) (w : World) : Calls Tryd.prog 110 #[mV m, ptV p] w fun r w' => r = .returned (pairV (deltaZ m p)) ∧ Fr Nob w w' := by
  unfold deltaZ
  have HT1 := Lib.hid (fun b v S w h hr hS => mtwo_any b 0 m.a p.x m.c p.y v [] S w h hr hS (by simp))
  generalize twoZ 0 m.a p.x m.c p.y [] = r1 at *
  have HT2 := Lib.hid (fun b v S w h hr hS => mtwo_any b r1.2 m.b p.x m.d p.y v [] S w h hr hS (by simp))
  generalize twoZ r1.2 m.b p.x m.d p.y [] = r2 at *
  have HPT := Lib.hid (fun b w h => mpoint_any b r2.2 r1.1 r2.1 w h)
  generalize pointZ r1.1 r2.1 r2.2 = r3 at *
  have HM := Lib.hid (show Blk ((((w.alloc (.cells #[.int .i64 m.a, .int .i64 m.b, .int .i64 m.c, .int .i64 m.d, .int .i64 m.e, .int .i64 m.f] 33)).alloc (.cells #[.int .i64 p.x, .int .i64 p.y] 56)).alloc (.cells #[.int .i64 0, .int .i64 0] 56)).alloc (.cells #[.int .i64 0] 169)) w.heap.size #[.int .i64 m.a, .int .i64 m.b, .int .i64 m.c, .int .i64 m.d, .int .i64 m.e, .int .i64 m.f] 33 from (((Blk.new w _ _).alloc _).alloc _).alloc _)
  have HP := Lib.hid (show Blk ((((w.alloc (.cells #[.int .i64 m.a, .int .i64 m.b, .int .i64 m.c, .int .i64 m.d, .int .i64 m.e, .int .i64 m.f] 33)).alloc (.cells #[.int .i64 p.x, .int .i64 p.y] 56)).alloc (.cells #[.int .i64 0, .int .i64 0] 56)).alloc (.cells #[.int .i64 0] 169)) (w.heap.size + 1) #[.int .i64 p.x, .int .i64 p.y] 56 from ((Blk.new1 w _ _ _).alloc _).alloc _)
  have HZ := Lib.hid (show Blk ((((w.alloc (.cells #[.int .i64 m.a, .int .i64 m.b, .int .i64 m.c, .int .i64 m.d, .int .i64 m.e, .int .i64 m.f] 33)).alloc (.cells #[.int .i64 p.x, .int .i64 p.y] 56)).alloc (.cells #[.int .i64 0, .int .i64 0] 56)).alloc (.cells #[.int .i64 0] 169)) (w.heap.size + 2) #[.int .i64 0, .int .i64 0] 56 from (Blk.new2 w _ _ _ _).alloc _)
  have HST := Lib.hid (show Blk ((((w.alloc (.cells #[.int .i64 m.a, .int .i64 m.b, .int .i64 m.c, .int .i64 m.d, .int .i64 m.e, .int .i64 m.f] 33)).alloc (.cells #[.int .i64 p.x, .int .i64 p.y] 56)).alloc (.cells #[.int .i64 0, .int .i64 0] 56)).alloc (.cells #[.int .i64 0] 169)) (w.heap.size + 3) #[.int .i64 0] 169 from Blk.new3 w _ _ _ _ _)
  have HF := Lib.hid (show Fr Nob w ((((w.alloc (.cells #[.int .i64 m.a, .int .i64 m.b, .int .i64 m.c, .int .i64 m.d, .int .i64 m.e, .int .i64 m.f] 33)).alloc (.cells #[.int .i64 p.x, .int .i64 p.y] 56)).alloc (.cells #[.int .i64 0, .int .i64 0] 56)).alloc (.cells #[.int .i64 0] 169)) from ((((Fr.refl Nob w).alloc _).alloc _).alloc _).alloc _)
  unfold mV ptV
  go_enter Tryd.func110, Tryd.ntmps110
  go_upto_region 2 with (fail)
  generalize (((w.alloc (.cells #[.int .i64 m.a, .int .i64 m.b, .int .i64 m.c, .int .i64 m.d, .int .i64 m.e, .int .i64 m.f] 33)).alloc (.cells #[.int .i64 p.x, .int .i64 p.y] 56)).alloc (.cells #[.int .i64 0, .int .i64 0] 56)).alloc (.cells #[.int .i64 0] 169) = wa at *
  have a0 : wa.cell? ⟨w.heap.size, 0, none⟩ = some (.int .i64 m.a) := HM.out.cell 0
  have a2 : wa.cell? ⟨w.heap.size, 2, none⟩ = some (.int .i64 m.c) := HM.out.cell 2
  have a4 : wa.cell? ⟨w.heap.size, 4, none⟩ = some (.int .i64 m.e) := HM.out.cell 4
  have b0 : wa.cell? ⟨w.heap.size + 1, 0, none⟩ = some (.int .i64 p.x) := HP.out.cell 0
  have b1 : wa.cell? ⟨w.heap.size + 1, 1, none⟩ = some (.int .i64 p.y) := HP.out.cell 1
  have n0 : w.heap.size ≠ w.heap.size + 3 := by omega
  have n1 : w.heap.size + 1 ≠ w.heap.size + 3 := by omega
  have n2 : w.heap.size + 2 ≠ w.heap.size + 3 := by omega
  go_wp2_with fail
  refine (HT1.out _ _ Nob _ HST.out (RowIn.nil _ _ _) (fun k hk => hk.elim)).mono ?_
  rintro _ w1 ⟨rfl, h1, f1⟩
  have F1 := Lib.hid f1
  have H1 := Lib.hid h1
  have HM1 := Lib.hid (HM.out.fr F1.out n0)
  have HP1 := Lib.hid (HP.out.fr F1.out n1)
  have HZ1 := Lib.hid (HZ.out.fr F1.out n2)
  clear h1 f1 a0 a2 a4 b0 b1
  have a1 : w1.cell? ⟨w.heap.size, 1, none⟩ = some (.int .i64 m.b) := HM1.out.cell 1
  have a3 : w1.cell? ⟨w.heap.size, 3, none⟩ = some (.int .i64 m.d) := HM1.out.cell 3
  have a5 : w1.cell? ⟨w.heap.size, 5, none⟩ = some (.int .i64 m.f) := HM1.out.cell 5
  have b0 : w1.cell? ⟨w.heap.size + 1, 0, none⟩ = some (.int .i64 p.x) := HP1.out.cell 0
  have b1 : w1.cell? ⟨w.heap.size + 1, 1, none⟩ = some (.int .i64 p.y) := HP1.out.cell 1
  go_wp2_with fail
  refine (HT2.out _ _ Nob _ H1.out (RowIn.nil _ _ _) (fun k hk => hk.elim)).mono ?_
  rintro _ w2 ⟨rfl, h2, f2⟩
  have F2 := Lib.hid (F1.out.again f2)
  have HZ2 := Lib.hid (HZ1.out.fr f2 n2)
  have H2 := Lib.hid h2
  clear h2 f2 a1 a3 a5 b0 b1
  go_wp2_with fail
  refine (HPT.out _ _ H2.out).mono ?_
  unfold pairV ptV
  rintro _ w3 ⟨rfl, h3⟩
  have HZ3 := Lib.hid (HZ2.out.nob h3)
  have F3 := Lib.hid (F2.out.trans0 h3)
  have z0 := (HZ2.out.nob h3).cell 0
  have z1 := (HZ2.out.nob h3).cell 1
  have y0 := (HZ2.out.nob h3).free 0
  have y1 := (HZ2.out.nob h3).free 1
  simp only [List.getElem?_toArray, List.getElem?_cons_succ, List.getElem?_cons_zero] at z0 z1
  clear h3
  go_wp2_with fail
  exact bodyPost_ret (results_ct rfl _ _ _ 56 _ _ rfl ((HZ3.out.set 0 _).set 1 _) Tryd.underlying56 rfl (by kernel_rfl)) rfl ⟨rfl, ((HF.out.trans F3.out fun k hk => .inr (by omega)).setCell (p := ⟨w.heap.size + 2, 0, none⟩) (.inr (by show w.heap.size ≤ w.heap.size + 2; omega)) _).setCell (p := ⟨w.heap.size + 2, 1, none⟩) (.inr (by show w.heap.size ≤ w.heap.size + 2; omega)) _⟩
set_option maxRecDepth 8000 in
theorem mapply_any (m : M6) (p : Pt) (w : World) : Calls Tryd.prog 139 #[mV m, ptV p] w fun r w' => r = .returned (pairV (applyZ m p)) ∧ Fr Nob w w' := by
  unfold applyZ
  have HT1 := Lib.hid (fun b v S w h hr hS => mtwo_any b 0 m.a p.x m.c p.y v [m.e] S w h hr hS (by simp))
  generalize twoZ 0 m.a p.x m.c p.y [m.e] = r1 at *
  have HT2 := Lib.hid (fun b v S w h hr hS => mtwo_any b r1.2 m.b p.x m.d p.y v [m.f] S w h hr hS (by simp))
  generalize twoZ r1.2 m.b p.x m.d p.y [m.f] = r2 at *
  have HPT := Lib.hid (fun b w h => mpoint_any b r2.2 r1.1 r2.1 w h)
  generalize pointZ r1.1 r2.1 r2.2 = r3 at *
  have HM := Lib.hid (show Blk ((((w.alloc (.cells #[.int .i64 m.a, .int .i64 m.b, .int .i64 m.c, .int .i64 m.d, .int .i64 m.e, .int .i64 m.f] 33)).alloc (.cells #[.int .i64 p.x, .int .i64 p.y] 56)).alloc (.cells #[.int .i64 0, .int .i64 0] 56)).alloc (.cells #[.int .i64 0] 169)) w.heap.size #[.int .i64 m.a, .int .i64 m.b, .int .i64 m.c, .int .i64 m.d, .int .i64 m.e, .int .i64 m.f] 33 from (((Blk.new w _ _).alloc _).alloc _).alloc _)
  have HP := Lib.hid (show Blk ((((w.alloc (.cells #[.int .i64 m.a, .int .i64 m.b, .int .i64 m.c, .int .i64 m.d, .int .i64 m.e, .int .i64 m.f] 33)).alloc (.cells #[.int .i64 p.x, .int .i64 p.y] 56)).alloc (.cells #[.int .i64 0, .int .i64 0] 56)).alloc (.cells #[.int .i64 0] 169)) (w.heap.size + 1) #[.int .i64 p.x, .int .i64 p.y] 56 from ((Blk.new1 w _ _ _).alloc _).alloc _)
  have HZ := Lib.hid (show Blk ((((w.alloc (.cells #[.int .i64 m.a, .int .i64 m.b, .int .i64 m.c, .int .i64 m.d, .int .i64 m.e, .int .i64 m.f] 33)).alloc (.cells #[.int .i64 p.x, .int .i64 p.y] 56)).alloc (.cells #[.int .i64 0, .int .i64 0] 56)).alloc (.cells #[.int .i64 0] 169)) (w.heap.size + 2) #[.int .i64 0, .int .i64 0] 56 from (Blk.new2 w _ _ _ _).alloc _)
  have HST := Lib.hid (show Blk ((((w.alloc (.cells #[.int .i64 m.a, .int .i64 m.b, .int .i64 m.c, .int .i64 m.d, .int .i64 m.e, .int .i64 m.f] 33)).alloc (.cells #[.int .i64 p.x, .int .i64 p.y] 56)).alloc (.cells #[.int .i64 0, .int .i64 0] 56)).alloc (.cells #[.int .i64 0] 169)) (w.heap.size + 3) #[.int .i64 0] 169 from Blk.new3 w _ _ _ _ _)
  have HF := Lib.hid (show Fr Nob w ((((w.alloc (.cells #[.int .i64 m.a, .int .i64 m.b, .int .i64 m.c, .int .i64 m.d, .int .i64 m.e, .int .i64 m.f] 33)).alloc (.cells #[.int .i64 p.x, .int .i64 p.y] 56)).alloc (.cells #[.int .i64 0, .int .i64 0] 56)).alloc (.cells #[.int .i64 0] 169)) from ((((Fr.refl Nob w).alloc _).alloc _).alloc _).alloc _)
  unfold mV ptV
  go_enter Tryd.func139, Tryd.ntmps139
  go_upto_region 2 with (fail)
  generalize (((w.alloc (.cells #[.int .i64 m.a, .int .i64 m.b, .int .i64 m.c, .int .i64 m.d, .int .i64 m.e, .int .i64 m.f] 33)).alloc (.cells #[.int .i64 p.x, .int .i64 p.y] 56)).alloc (.cells #[.int .i64 0, .int .i64 0] 56)).alloc (.cells #[.int .i64 0] 169) = wa at *
  have a0 : wa.cell? ⟨w.heap.size, 0, none⟩ = some (.int .i64 m.a) := HM.out.cell 0
  have a2 : wa.cell? ⟨w.heap.size, 2, none⟩ = some (.int .i64 m.c) := HM.out.cell 2
  have a4 : wa.cell? ⟨w.heap.size, 4, none⟩ = some (.int .i64 m.e) := HM.out.cell 4
  have b0 : wa.cell? ⟨w.heap.size + 1, 0, none⟩ = some (.int .i64 p.x) := HP.out.cell 0
  have b1 : wa.cell? ⟨w.heap.size + 1, 1, none⟩ = some (.int .i64 p.y) := HP.out.cell 1
  have n0 : w.heap.size ≠ w.heap.size + 3 := by omega
  have n1 : w.heap.size + 1 ≠ w.heap.size + 3 := by omega
  have n2 : w.heap.size + 2 ≠ w.heap.size + 3 := by omega
  have G1 := Lib.hid ((show Blk (wa.alloc (.cells #[.int .i64 m.e] 3)) wa.heap.size (ints [m.e]).toArray 3 from Blk.new _ _ _).ints (by simp [maxLen]))
  have HL := Lib.hid HST.out.lt
  go_wp2_with fail
  refine (HT1.out _ _ _ _ (HST.out.alloc _) G1.out (fun k hk e => by have := HL.out; omega)).mono ?_
  rintro _ w1 ⟨rfl, h1, f1⟩
  have F1 := Lib.hid (((Fr.refl Nob wa).alloc (.cells #[.int .i64 m.e] 3)).of0.again f1)
  have H1 := Lib.hid h1
  have HM1 := Lib.hid (HM.out.fr F1.out n0)
  have HP1 := Lib.hid (HP.out.fr F1.out n1)
  have HZ1 := Lib.hid (HZ.out.fr F1.out n2)
  clear h1 f1 a0 a2 a4 b0 b1
  have a1 : w1.cell? ⟨w.heap.size, 1, none⟩ = some (.int .i64 m.b) := HM1.out.cell 1
  have a3 : w1.cell? ⟨w.heap.size, 3, none⟩ = some (.int .i64 m.d) := HM1.out.cell 3
  have a5 : w1.cell? ⟨w.heap.size, 5, none⟩ = some (.int .i64 m.f) := HM1.out.cell 5
  have b0 : w1.cell? ⟨w.heap.size + 1, 0, none⟩ = some (.int .i64 p.x) := HP1.out.cell 0
  have b1 : w1.cell? ⟨w.heap.size + 1, 1, none⟩ = some (.int .i64 p.y) := HP1.out.cell 1
  have G2 := Lib.hid ((show Blk (w1.alloc (.cells #[.int .i64 m.f] 3)) w1.heap.size (ints [m.f]).toArray 3 from Blk.new _ _ _).ints (by simp [maxLen]))
  have HL1 := Lib.hid H1.out.lt
  go_wp2_with fail
  refine (HT2.out _ _ _ _ (H1.out.alloc _) G2.out (fun k hk e => by have := HL1.out; omega)).mono ?_
  rintro _ w2 ⟨rfl, h2, f2⟩
  have F2 := Lib.hid (F1.out.again (((Fr.refl Nob w1).alloc (.cells #[.int .i64 m.f] 3)).of0.again f2))
  have HZ2 := Lib.hid ((HZ1.out.alloc (.cells #[.int .i64 m.f] 3)).fr f2 n2)
  have H2 := Lib.hid h2
  clear h2 f2 a1 a3 a5 b0 b1
  go_wp2_with fail
  refine (HPT.out _ _ H2.out).mono ?_
  unfold pairV ptV
  rintro _ w3 ⟨rfl, h3⟩
  have HZ3 := Lib.hid (HZ2.out.nob h3)
  have F3 := Lib.hid (F2.out.trans0 h3)
  have z0 := (HZ2.out.nob h3).cell 0
  have z1 := (HZ2.out.nob h3).cell 1
  have y0 := (HZ2.out.nob h3).free 0
  have y1 := (HZ2.out.nob h3).free 1
  simp only [List.getElem?_toArray, List.getElem?_cons_succ, List.getElem?_cons_zero] at z0 z1
  clear h3
  go_wp2_with fail
  exact bodyPost_ret (results_ct rfl _ _ _ 56 _ _ rfl ((HZ3.out.set 0 _).set 1 _) Tryd.underlying56 rfl (by kernel_rfl)) rfl ⟨rfl, ((HF.out.trans F3.out fun k hk => .inr (by omega)).setCell (p := ⟨w.heap.size + 2, 0, none⟩) (.inr (by show w.heap.size ≤ w.heap.size + 2; omega)) _).setCell (p := ⟨w.heap.size + 2, 1, none⟩) (.inr (by show w.heap.size ≤ w.heap.size + 2; omega)) _⟩
end Go.Proofs.YtkkejjfmidgciaaDoor
/- The walk of mat.Concat, of the states' Concat. -/
namespace Go.Proofs.YtkkejjfmidgciaaDoor
open Go.RowKit
set_option linter.unusedVariables false
set_option linter.unusedSimpArgs false
def m0 : M6 := ⟨0, 0, 0, 0, 0, 0⟩
def concatZ (a b : M6) : M6 × Int :=
  if ¬ (deltaZ b ⟨a.a, a.b⟩).2 = 0 then (m0, (deltaZ b ⟨a.a, a.b⟩).2)
  else if ¬ (deltaZ b ⟨a.c, a.d⟩).2 = 0 then (m0, (deltaZ b ⟨a.c, a.d⟩).2)
  else if ¬ (applyZ b ⟨a.e, a.f⟩).2 = 0 then (m0, (applyZ b ⟨a.e, a.f⟩).2)
  else (⟨(deltaZ b ⟨a.a, a.b⟩).1.x, (deltaZ b ⟨a.a, a.b⟩).1.y, (deltaZ b ⟨a.c, a.d⟩).1.x, (deltaZ b ⟨a.c, a.d⟩).1.y, (applyZ b ⟨a.e, a.f⟩).1.x, (applyZ b ⟨a.e, a.f⟩).1.y⟩, 0)
def pairM (r : M6 × Int) : Value := .tuple #[mV r.1, .int .i64 r.2]
set_option maxRecDepth 8000 in
set_option maxHeartbeats 1600000 in
theorem mconcat_1 (a b : M6) (w : World) (hu : ¬ (deltaZ b ⟨a.a, a.b⟩).2 = 0) : Calls Tryd.prog 114 #[mV a, mV b] w fun r w' => r = .returned (pairM (m0, (deltaZ b ⟨a.a, a.b⟩).2)) ∧ Fr Nob w w' := by
  have HC1 := Lib.hid (fun w => mdelta_any b ⟨a.a, a.b⟩ w)
  have HC2 := Lib.hid (fun w => mdelta_any b ⟨a.c, a.d⟩ w)
  have HC3 := Lib.hid (fun w => mapply_any b ⟨a.e, a.f⟩ w)
  generalize deltaZ b ⟨a.a, a.b⟩ = u at *
  generalize deltaZ b ⟨a.c, a.d⟩ = v at *
  generalize applyZ b ⟨a.e, a.f⟩ = t at *
  have hu1 : (u.2 == 0) = false := by simpa using hu
  have hu2 : (u.2 != 0) = true := by simpa using hu
  clear hu
  have HA0 := Lib.hid (show Blk (((w.alloc (.cells #[.int .i64 a.a, .int .i64 a.b, .int .i64 a.c, .int .i64 a.d, .int .i64 a.e, .int .i64 a.f] 33)).alloc (.cells #[.int .i64 b.a, .int .i64 b.b, .int .i64 b.c, .int .i64 b.d, .int .i64 b.e, .int .i64 b.f] 33)).alloc (.cells #[.int .i64 0, .int .i64 0, .int .i64 0, .int .i64 0, .int .i64 0, .int .i64 0] 33)) w.heap.size (encM a).toArray 33 from ((Blk.new w _ _).alloc _).alloc _)
  have HB0 := Lib.hid (show Blk (((w.alloc (.cells #[.int .i64 a.a, .int .i64 a.b, .int .i64 a.c, .int .i64 a.d, .int .i64 a.e, .int .i64 a.f] 33)).alloc (.cells #[.int .i64 b.a, .int .i64 b.b, .int .i64 b.c, .int .i64 b.d, .int .i64 b.e, .int .i64 b.f] 33)).alloc (.cells #[.int .i64 0, .int .i64 0, .int .i64 0, .int .i64 0, .int .i64 0, .int .i64 0] 33)) (w.heap.size + 1) (encM b).toArray 33 from (Blk.new1 w _ _ _).alloc _)
  have HZ0 := Lib.hid (show Blk (((w.alloc (.cells #[.int .i64 a.a, .int .i64 a.b, .int .i64 a.c, .int .i64 a.d, .int .i64 a.e, .int .i64 a.f] 33)).alloc (.cells #[.int .i64 b.a, .int .i64 b.b, .int .i64 b.c, .int .i64 b.d, .int .i64 b.e, .int .i64 b.f] 33)).alloc (.cells #[.int .i64 0, .int .i64 0, .int .i64 0, .int .i64 0, .int .i64 0, .int .i64 0] 33)) (w.heap.size + 2) (encM m0).toArray 33 from Blk.new2 w _ _ _ _)
  have F0 := Lib.hid (show Fr Nob w (((w.alloc (.cells #[.int .i64 a.a, .int .i64 a.b, .int .i64 a.c, .int .i64 a.d, .int .i64 a.e, .int .i64 a.f] 33)).alloc (.cells #[.int .i64 b.a, .int .i64 b.b, .int .i64 b.c, .int .i64 b.d, .int .i64 b.e, .int .i64 b.f] 33)).alloc (.cells #[.int .i64 0, .int .i64 0, .int .i64 0, .int .i64 0, .int .i64 0, .int .i64 0] 33)) from (((Fr.refl Nob w).alloc _).alloc _).alloc _)
  unfold pairM mV
  go_enter Tryd.func114, Tryd.ntmps114
  go_upto_region 1 with (fail)
  generalize ((w.alloc (.cells #[.int .i64 a.a, .int .i64 a.b, .int .i64 a.c, .int .i64 a.d, .int .i64 a.e, .int .i64 a.f] 33)).alloc (.cells #[.int .i64 b.a, .int .i64 b.b, .int .i64 b.c, .int .i64 b.d, .int .i64 b.e, .int .i64 b.f] 33)).alloc (.cells #[.int .i64 0, .int .i64 0, .int .i64 0, .int .i64 0, .int .i64 0, .int .i64 0] 33) = wa at *
  have a0 : wa.cell? ⟨w.heap.size, 0, none⟩ = some (.int .i64 a.a) := HA0.out.cell 0
  have a1 : wa.cell? ⟨w.heap.size, 1, none⟩ = some (.int .i64 a.b) := HA0.out.cell 1
  go_wp2_with (refine wpList_getAt rfl 33 (.tmp 3) rfl (w.heap.size + 1) 0 (by rfl) (encM b) _ (HB0.out.range 0 _ (by rfl)) Tryd.underlying33 rfl sizeM6 ?_)
  refine (HC1.out _).mono ?_
  unfold pairV ptV
  rintro _ w1 ⟨rfl, f1⟩
  have F1' := Lib.hid (F0.out.trans0 f1)
  have HA1' := Lib.hid (HA0.out.nob f1)
  have HB1' := Lib.hid (HB0.out.nob f1)
  have HZ1' := Lib.hid (HZ0.out.nob f1)
  clear f1 a0 a1
  have hx1 : Fr Nob w1 (w1.alloc (.cells #[.int .i64 u.1.x, .int .i64 u.1.y] 56)) := (Fr.refl Nob w1).alloc _
  have F1 := Lib.hid (F1'.out.trans0 hx1)
  have HA1 := Lib.hid (HA1'.out.nob hx1)
  have HB1 := Lib.hid (HB1'.out.nob hx1)
  have HZ1 := Lib.hid (HZ1'.out.nob hx1)
  have HU1 := Lib.hid (Blk.new w1 #[.int .i64 u.1.x, .int .i64 u.1.y] 56)
  clear hx1 F1' HA1' HB1' HZ1'
  go_upto_region 2 with (fail)
  generalize w1.alloc (.cells #[.int .i64 u.1.x, .int .i64 u.1.y] 56) = x1 at *
  go_wp2_with (refine wpList_putAt rfl 33 (.tmp 4) (.tmp 22) rfl (w.heap.size + 2) 0 (encM m0) (by rfl) (by rfl) 33 _ HZ1.out (Nat.le_refl 6) sizeM6 (encM_one _) ?_)
  intro w9 hb9 hf9
  rw [over_all (encM m0).toArray (encM m0) rfl] at hb9
  have HB9 := Lib.hid hb9
  have HF9 := Lib.hid (F1.out.trans hf9 fun k hk => .inr (by rw [hk]; omega))
  clear hb9 hf9
  go_wp2_with fail
  exact bodyPost_ret (results_ct rfl _ _ _ 33 _ _ rfl HB9.out Tryd.underlying33 rfl (by kernel_rfl)) rfl ⟨rfl, HF9.out⟩
set_option maxRecDepth 8000 in
set_option maxHeartbeats 1600000 in
theorem mconcat_2 (a b : M6) (w : World) (hu : (deltaZ b ⟨a.a, a.b⟩).2 = 0) (hv : ¬ (deltaZ b ⟨a.c, a.d⟩).2 = 0) : Calls Tryd.prog 114 #[mV a, mV b] w fun r w' => r = .returned (pairM (m0, (deltaZ b ⟨a.c, a.d⟩).2)) ∧ Fr Nob w w' := by
  have HC1 := Lib.hid (fun w => mdelta_any b ⟨a.a, a.b⟩ w)
  have HC2 := Lib.hid (fun w => mdelta_any b ⟨a.c, a.d⟩ w)
  have HC3 := Lib.hid (fun w => mapply_any b ⟨a.e, a.f⟩ w)
  generalize deltaZ b ⟨a.a, a.b⟩ = u at *
  generalize deltaZ b ⟨a.c, a.d⟩ = v at *
  generalize applyZ b ⟨a.e, a.f⟩ = t at *
  have hu1 : (u.2 == 0) = true := by simpa using hu
  have hu2 : (u.2 != 0) = false := by simpa using hu
  have hv1 : (v.2 == 0) = false := by simpa using hv
  have hv2 : (v.2 != 0) = true := by simpa using hv
  clear hu hv
  have HA0 := Lib.hid (show Blk (((w.alloc (.cells #[.int .i64 a.a, .int .i64 a.b, .int .i64 a.c, .int .i64 a.d, .int .i64 a.e, .int .i64 a.f] 33)).alloc (.cells #[.int .i64 b.a, .int .i64 b.b, .int .i64 b.c, .int .i64 b.d, .int .i64 b.e, .int .i64 b.f] 33)).alloc (.cells #[.int .i64 0, .int .i64 0, .int .i64 0, .int .i64 0, .int .i64 0, .int .i64 0] 33)) w.heap.size (encM a).toArray 33 from ((Blk.new w _ _).alloc _).alloc _)
  have HB0 := Lib.hid (show Blk (((w.alloc (.cells #[.int .i64 a.a, .int .i64 a.b, .int .i64 a.c, .int .i64 a.d, .int .i64 a.e, .int .i64 a.f] 33)).alloc (.cells #[.int .i64 b.a, .int .i64 b.b, .int .i64 b.c, .int .i64 b.d, .int .i64 b.e, .int .i64 b.f] 33)).alloc (.cells #[.int .i64 0, .int .i64 0, .int .i64 0, .int .i64 0, .int .i64 0, .int .i64 0] 33)) (w.heap.size + 1) (encM b).toArray 33 from (Blk.new1 w _ _ _).alloc _)
  have HZ0 := Lib.hid (show Blk (((w.alloc (.cells #[.int .i64 a.a, .int .i64 a.b, .int .i64 a.c, .int .i64 a.d, .int .i64 a.e, .int .i64 a.f] 33)).alloc (.cells #[.int .i64 b.a, .int .i64 b.b, .int .i64 b.c, .int .i64 b.d, .int .i64 b.e, .int .i64 b.f] 33)).alloc (.cells #[.int .i64 0, .int .i64 0, .int .i64 0, .int .i64 0, .int .i64 0, .int .i64 0] 33)) (w.heap.size + 2) (encM m0).toArray 33 from Blk.new2 w _ _ _ _)
  have F0 := Lib.hid (show Fr Nob w (((w.alloc (.cells #[.int .i64 a.a, .int .i64 a.b, .int .i64 a.c, .int .i64 a.d, .int .i64 a.e, .int .i64 a.f] 33)).alloc (.cells #[.int .i64 b.a, .int .i64 b.b, .int .i64 b.c, .int .i64 b.d, .int .i64 b.e, .int .i64 b.f] 33)).alloc (.cells #[.int .i64 0, .int .i64 0, .int .i64 0, .int .i64 0, .int .i64 0, .int .i64 0] 33)) from (((Fr.refl Nob w).alloc _).alloc _).alloc _)
  unfold pairM mV
  go_enter Tryd.func114, Tryd.ntmps114
  go_upto_region 1 with (fail)
  generalize ((w.alloc (.cells #[.int .i64 a.a, .int .i64 a.b, .int .i64 a.c, .int .i64 a.d, .int .i64 a.e, .int .i64 a.f] 33)).alloc (.cells #[.int .i64 b.a, .int .i64 b.b, .int .i64 b.c, .int .i64 b.d, .int .i64 b.e, .int .i64 b.f] 33)).alloc (.cells #[.int .i64 0, .int .i64 0, .int .i64 0, .int .i64 0, .int .i64 0, .int .i64 0] 33) = wa at *
  have a0 : wa.cell? ⟨w.heap.size, 0, none⟩ = some (.int .i64 a.a) := HA0.out.cell 0
  have a1 : wa.cell? ⟨w.heap.size, 1, none⟩ = some (.int .i64 a.b) := HA0.out.cell 1
  go_wp2_with (refine wpList_getAt rfl 33 (.tmp 3) rfl (w.heap.size + 1) 0 (by rfl) (encM b) _ (HB0.out.range 0 _ (by rfl)) Tryd.underlying33 rfl sizeM6 ?_)
  refine (HC1.out _).mono ?_
  unfold pairV ptV
  rintro _ w1 ⟨rfl, f1⟩
  have F1' := Lib.hid (F0.out.trans0 f1)
  have HA1' := Lib.hid (HA0.out.nob f1)
  have HB1' := Lib.hid (HB0.out.nob f1)
  have HZ1' := Lib.hid (HZ0.out.nob f1)
  clear f1 a0 a1
  have hx1 : Fr Nob w1 (w1.alloc (.cells #[.int .i64 u.1.x, .int .i64 u.1.y] 56)) := (Fr.refl Nob w1).alloc _
  have F1 := Lib.hid (F1'.out.trans0 hx1)
  have HA1 := Lib.hid (HA1'.out.nob hx1)
  have HB1 := Lib.hid (HB1'.out.nob hx1)
  have HZ1 := Lib.hid (HZ1'.out.nob hx1)
  have HU1 := Lib.hid (Blk.new w1 #[.int .i64 u.1.x, .int .i64 u.1.y] 56)
  clear hx1 F1' HA1' HB1' HZ1'
  go_upto_region 2 with (fail)
  generalize w1.alloc (.cells #[.int .i64 u.1.x, .int .i64 u.1.y] 56) = x1 at *
  have a2 : x1.cell? ⟨w.heap.size, 2, none⟩ = some (.int .i64 a.c) := HA1.out.cell 2
  have a3 : x1.cell? ⟨w.heap.size, 3, none⟩ = some (.int .i64 a.d) := HA1.out.cell 3
  go_wp2_with (refine wpList_getAt rfl 33 (.tmp 3) rfl (w.heap.size + 1) 0 (by rfl) (encM b) _ (HB1.out.range 0 _ (by rfl)) Tryd.underlying33 rfl sizeM6 ?_)
  refine (HC2.out _).mono ?_
  unfold pairV ptV
  rintro _ w2 ⟨rfl, f2⟩
  have F2' := Lib.hid (F1.out.trans0 f2)
  have HA2' := Lib.hid (HA1.out.nob f2)
  have HB2' := Lib.hid (HB1.out.nob f2)
  have HZ2' := Lib.hid (HZ1.out.nob f2)
  have HU2' := Lib.hid (HU1.out.nob f2)
  clear f2 a2 a3
  have hx2 : Fr Nob w2 (w2.alloc (.cells #[.int .i64 v.1.x, .int .i64 v.1.y] 56)) := (Fr.refl Nob w2).alloc _
  have F2 := Lib.hid (F2'.out.trans0 hx2)
  have HA2 := Lib.hid (HA2'.out.nob hx2)
  have HB2 := Lib.hid (HB2'.out.nob hx2)
  have HZ2 := Lib.hid (HZ2'.out.nob hx2)
  have HU2 := Lib.hid (HU2'.out.nob hx2)
  have HV2 := Lib.hid (Blk.new w2 #[.int .i64 v.1.x, .int .i64 v.1.y] 56)
  clear hx2 F2' HA2' HB2' HZ2'
  go_upto_region 5 with (fail)
  generalize w2.alloc (.cells #[.int .i64 v.1.x, .int .i64 v.1.y] 56) = x2 at *
  go_wp2_with (refine wpList_putAt rfl 33 (.tmp 4) (.tmp 36) rfl (w.heap.size + 2) 0 (encM m0) (by rfl) (by rfl) 33 _ HZ2.out (Nat.le_refl 6) sizeM6 (encM_one _) ?_)
  intro w9 hb9 hf9
  rw [over_all (encM m0).toArray (encM m0) rfl] at hb9
  have HB9 := Lib.hid hb9
  have HF9 := Lib.hid (F2.out.trans hf9 fun k hk => .inr (by rw [hk]; omega))
  clear hb9 hf9
  go_wp2_with fail
  exact bodyPost_ret (results_ct rfl _ _ _ 33 _ _ rfl HB9.out Tryd.underlying33 rfl (by kernel_rfl)) rfl ⟨rfl, HF9.out⟩
set_option maxRecDepth 8000 in
set_option maxHeartbeats 1600000 in
theorem mconcat_3 (a b : M6) (w : World) (hu : (deltaZ b ⟨a.a, a.b⟩).2 = 0) (hv : (deltaZ b ⟨a.c, a.d⟩).2 = 0) (ht : ¬ (applyZ b ⟨a.e, a.f⟩).2 = 0) : Calls Tryd.prog 114 #[mV a, mV b] w fun r w' => r = .returned (pairM (m0, (applyZ b ⟨a.e, a.f⟩).2)) ∧ Fr Nob w w' := by
  have HC1 := Lib.hid (fun w => mdelta_any b ⟨a.a, a.b⟩ w)
  have HC2 := Lib.hid (fun w => mdelta_any b ⟨a.c, a.d⟩ w)
  have HC3 := Lib.hid (fun w => mapply_any b ⟨a.e, a.f⟩ w)
  generalize deltaZ b ⟨a.a, a.b⟩ = u at *
  generalize deltaZ b ⟨a.c, a.d⟩ = v at *
  generalize applyZ b ⟨a.e, a.f⟩ = t at *
  have hu1 : (u.2 == 0) = true := by simpa using hu
  have hu2 : (u.2 != 0) = false := by simpa using hu
  have hv1 : (v.2 == 0) = true := by simpa using hv
  have hv2 : (v.2 != 0) = false := by simpa using hv
  have ht1 : (t.2 == 0) = false := by simpa using ht
  have ht2 : (t.2 != 0) = true := by simpa using ht
  clear hu hv ht
  have HA0 := Lib.hid (show Blk (((w.alloc (.cells #[.int .i64 a.a, .int .i64 a.b, .int .i64 a.c, .int .i64 a.d, .int .i64 a.e, .int .i64 a.f] 33)).alloc (.cells #[.int .i64 b.a, .int .i64 b.b, .int .i64 b.c, .int .i64 b.d, .int .i64 b.e, .int .i64 b.f] 33)).alloc (.cells #[.int .i64 0, .int .i64 0, .int .i64 0, .int .i64 0, .int .i64 0, .int .i64 0] 33)) w.heap.size (encM a).toArray 33 from ((Blk.new w _ _).alloc _).alloc _)
  have HB0 := Lib.hid (show Blk (((w.alloc (.cells #[.int .i64 a.a, .int .i64 a.b, .int .i64 a.c, .int .i64 a.d, .int .i64 a.e, .int .i64 a.f] 33)).alloc (.cells #[.int .i64 b.a, .int .i64 b.b, .int .i64 b.c, .int .i64 b.d, .int .i64 b.e, .int .i64 b.f] 33)).alloc (.cells #[.int .i64 0, .int .i64 0, .int .i64 0, .int .i64 0, .int .i64 0, .int .i64 0] 33)) (w.heap.size + 1) (encM b).toArray 33 from (Blk.new1 w _ _ _).alloc _)
  have HZ0 := Lib.hid (show Blk (((w.alloc (.cells #[.int .i64 a.a, .int .i64 a.b, .int .i64 a.c, .int .i64 a.d, .int .i64 a.e, .int .i64 a.f] 33)).alloc (.cells #[.int .i64 b.a, .int .i64 b.b, .int .i64 b.c, .int .i64 b.d, .int .i64 b.e, .int .i64 b.f] 33)).alloc (.cells #[.int .i64 0, .int .i64 0, .int .i64 0, .int .i64 0, .int .i64 0, .int .i64 0] 33)) (w.heap.size + 2) (encM m0).toArray 33 from Blk.new2 w _ _ _ _)
  have F0 := Lib.hid (show Fr Nob w (((w.alloc (.cells #[.int .i64 a.a, .int .i64 a.b, .int .i64 a.c, .int .i64 a.d, .int .i64 a.e, .int .i64 a.f] 33)).alloc (.cells #[.int .i64 b.a, .int .i64 b.b, .int .i64 b.c, .int .i64 b.d, .int .i64 b.e, .int .i64 b.f] 33)).alloc (.cells #[.int .i64 0, .int .i64 0, .int .i64 0, .int .i64 0, .int .i64 0, .int .i64 0] 33)) from (((Fr.refl Nob w).alloc _).alloc _).alloc _)
  unfold pairM mV
  go_enter Tryd.func114, Tryd.ntmps114
  go_upto_region 1 with (fail)
  generalize ((w.alloc (.cells #[.int .i64 a.a, .int .i64 a.b, .int .i64 a.c, .int .i64 a.d, .int .i64 a.e, .int .i64 a.f] 33)).alloc (.cells #[.int .i64 b.a, .int .i64 b.b, .int .i64 b.c, .int .i64 b.d, .int .i64 b.e, .int .i64 b.f] 33)).alloc (.cells #[.int .i64 0, .int .i64 0, .int .i64 0, .int .i64 0, .int .i64 0, .int .i64 0] 33) = wa at *
  have a0 : wa.cell? ⟨w.heap.size, 0, none⟩ = some (.int .i64 a.a) := HA0.out.cell 0
  have a1 : wa.cell? ⟨w.heap.size, 1, none⟩ = some (.int .i64 a.b) := HA0.out.cell 1
  go_wp2_with (refine wpList_getAt rfl 33 (.tmp 3) rfl (w.heap.size + 1) 0 (by rfl) (encM b) _ (HB0.out.range 0 _ (by rfl)) Tryd.underlying33 rfl sizeM6 ?_)
  refine (HC1.out _).mono ?_
  unfold pairV ptV
  rintro _ w1 ⟨rfl, f1⟩
  have F1' := Lib.hid (F0.out.trans0 f1)
  have HA1' := Lib.hid (HA0.out.nob f1)
  have HB1' := Lib.hid (HB0.out.nob f1)
  have HZ1' := Lib.hid (HZ0.out.nob f1)
  clear f1 a0 a1
  have hx1 : Fr Nob w1 (w1.alloc (.cells #[.int .i64 u.1.x, .int .i64 u.1.y] 56)) := (Fr.refl Nob w1).alloc _
  have F1 := Lib.hid (F1'.out.trans0 hx1)
  have HA1 := Lib.hid (HA1'.out.nob hx1)
  have HB1 := Lib.hid (HB1'.out.nob hx1)
  have HZ1 := Lib.hid (HZ1'.out.nob hx1)
  have HU1 := Lib.hid (Blk.new w1 #[.int .i64 u.1.x, .int .i64 u.1.y] 56)
  clear hx1 F1' HA1' HB1' HZ1'
  go_upto_region 2 with (fail)
  generalize w1.alloc (.cells #[.int .i64 u.1.x, .int .i64 u.1.y] 56) = x1 at *
  have a2 : x1.cell? ⟨w.heap.size, 2, none⟩ = some (.int .i64 a.c) := HA1.out.cell 2
  have a3 : x1.cell? ⟨w.heap.size, 3, none⟩ = some (.int .i64 a.d) := HA1.out.cell 3
  go_wp2_with (refine wpList_getAt rfl 33 (.tmp 3) rfl (w.heap.size + 1) 0 (by rfl) (encM b) _ (HB1.out.range 0 _ (by rfl)) Tryd.underlying33 rfl sizeM6 ?_)
  refine (HC2.out _).mono ?_
  unfold pairV ptV
  rintro _ w2 ⟨rfl, f2⟩
  have F2' := Lib.hid (F1.out.trans0 f2)
  have HA2' := Lib.hid (HA1.out.nob f2)
  have HB2' := Lib.hid (HB1.out.nob f2)
  have HZ2' := Lib.hid (HZ1.out.nob f2)
  have HU2' := Lib.hid (HU1.out.nob f2)
  clear f2 a2 a3
  have hx2 : Fr Nob w2 (w2.alloc (.cells #[.int .i64 v.1.x, .int .i64 v.1.y] 56)) := (Fr.refl Nob w2).alloc _
  have F2 := Lib.hid (F2'.out.trans0 hx2)
  have HA2 := Lib.hid (HA2'.out.nob hx2)
  have HB2 := Lib.hid (HB2'.out.nob hx2)
  have HZ2 := Lib.hid (HZ2'.out.nob hx2)
  have HU2 := Lib.hid (HU2'.out.nob hx2)
  have HV2 := Lib.hid (Blk.new w2 #[.int .i64 v.1.x, .int .i64 v.1.y] 56)
  clear hx2 F2' HA2' HB2' HZ2'
  go_upto_region 5 with (fail)
  generalize w2.alloc (.cells #[.int .i64 v.1.x, .int .i64 v.1.y] 56) = x2 at *
  have a4 : x2.cell? ⟨w.heap.size, 4, none⟩ = some (.int .i64 a.e) := HA2.out.cell 4
  have a5 : x2.cell? ⟨w.heap.size, 5, none⟩ = some (.int .i64 a.f) := HA2.out.cell 5
  go_wp2_with (refine wpList_getAt rfl 33 (.tmp 3) rfl (w.heap.size + 1) 0 (by rfl) (encM b) _ (HB2.out.range 0 _ (by rfl)) Tryd.underlying33 rfl sizeM6 ?_)
  refine (HC3.out _).mono ?_
  unfold pairV ptV
  rintro _ w3 ⟨rfl, f3⟩
  have F3' := Lib.hid (F2.out.trans0 f3)
  have HA3' := Lib.hid (HA2.out.nob f3)
  have HB3' := Lib.hid (HB2.out.nob f3)
  have HZ3' := Lib.hid (HZ2.out.nob f3)
  have HU3' := Lib.hid (HU2.out.nob f3)
  have HV3' := Lib.hid (HV2.out.nob f3)
  clear f3 a4 a5
  have hx3 : Fr Nob w3 (w3.alloc (.cells #[.int .i64 t.1.x, .int .i64 t.1.y] 56)) := (Fr.refl Nob w3).alloc _
  have F3 := Lib.hid (F3'.out.trans0 hx3)
  have HA3 := Lib.hid (HA3'.out.nob hx3)
  have HB3 := Lib.hid (HB3'.out.nob hx3)
  have HZ3 := Lib.hid (HZ3'.out.nob hx3)
  have HU3 := Lib.hid (HU3'.out.nob hx3)
  have HV3 := Lib.hid (HV3'.out.nob hx3)
  have HT3 := Lib.hid (Blk.new w3 #[.int .i64 t.1.x, .int .i64 t.1.y] 56)
  clear hx3 F3' HA3' HB3' HZ3'
  go_upto_region 8 with (fail)
  generalize w3.alloc (.cells #[.int .i64 t.1.x, .int .i64 t.1.y] 56) = x3 at *
  go_wp2_with (refine wpList_putAt rfl 33 (.tmp 4) (.tmp 50) rfl (w.heap.size + 2) 0 (encM m0) (by rfl) (by rfl) 33 _ HZ3.out (Nat.le_refl 6) sizeM6 (encM_one _) ?_)
  intro w9 hb9 hf9
  rw [over_all (encM m0).toArray (encM m0) rfl] at hb9
  have HB9 := Lib.hid hb9
  have HF9 := Lib.hid (F3.out.trans hf9 fun k hk => .inr (by rw [hk]; omega))
  clear hb9 hf9
  go_wp2_with fail
  exact bodyPost_ret (results_ct rfl _ _ _ 33 _ _ rfl HB9.out Tryd.underlying33 rfl (by kernel_rfl)) rfl ⟨rfl, HF9.out⟩
set_option maxRecDepth 8000 in
set_option maxHeartbeats 1600000 in
theorem mconcat_4 (a b : M6) (w : World) (hu : (deltaZ b ⟨a.a, a.b⟩).2 = 0) (hv : (deltaZ b ⟨a.c, a.d⟩).2 = 0) (ht : (applyZ b ⟨a.e, a.f⟩).2 = 0) : Calls Tryd.prog 114 #[mV a, mV b] w fun r w' => r = .returned (pairM (⟨(deltaZ b ⟨a.a, a.b⟩).1.x, (deltaZ b ⟨a.a, a.b⟩).1.y, (deltaZ b ⟨a.c, a.d⟩).1.x, (deltaZ b ⟨a.c, a.d⟩).1.y, (applyZ b ⟨a.e, a.f⟩).1.x, (applyZ b ⟨a.e, a.f⟩).1.y⟩, 0)) ∧ Fr Nob w w' := by
  have HC1 := Lib.hid (fun w => mdelta_any b ⟨a.a, a.b⟩ w)
  have HC2 := Lib.hid (fun w => mdelta_any b ⟨a.c, a.d⟩ w)
  have HC3 := Lib.hid (fun w => mapply_any b ⟨a.e, a.f⟩ w)
  generalize deltaZ b ⟨a.a, a.b⟩ = u at *
  generalize deltaZ b ⟨a.c, a.d⟩ = v at *
  generalize applyZ b ⟨a.e, a.f⟩ = t at *
  have hu1 : (u.2 == 0) = true := by simpa using hu
  have hu2 : (u.2 != 0) = false := by simpa using hu
  have hv1 : (v.2 == 0) = true := by simpa using hv
  have hv2 : (v.2 != 0) = false := by simpa using hv
  have ht1 : (t.2 == 0) = true := by simpa using ht
  have ht2 : (t.2 != 0) = false := by simpa using ht
  clear hu hv ht
  have HA0 := Lib.hid (show Blk (((w.alloc (.cells #[.int .i64 a.a, .int .i64 a.b, .int .i64 a.c, .int .i64 a.d, .int .i64 a.e, .int .i64 a.f] 33)).alloc (.cells #[.int .i64 b.a, .int .i64 b.b, .int .i64 b.c, .int .i64 b.d, .int .i64 b.e, .int .i64 b.f] 33)).alloc (.cells #[.int .i64 0, .int .i64 0, .int .i64 0, .int .i64 0, .int .i64 0, .int .i64 0] 33)) w.heap.size (encM a).toArray 33 from ((Blk.new w _ _).alloc _).alloc _)
  have HB0 := Lib.hid (show Blk (((w.alloc (.cells #[.int .i64 a.a, .int .i64 a.b, .int .i64 a.c, .int .i64 a.d, .int .i64 a.e, .int .i64 a.f] 33)).alloc (.cells #[.int .i64 b.a, .int .i64 b.b, .int .i64 b.c, .int .i64 b.d, .int .i64 b.e, .int .i64 b.f] 33)).alloc (.cells #[.int .i64 0, .int .i64 0, .int .i64 0, .int .i64 0, .int .i64 0, .int .i64 0] 33)) (w.heap.size + 1) (encM b).toArray 33 from (Blk.new1 w _ _ _).alloc _)
  have HZ0 := Lib.hid (show Blk (((w.alloc (.cells #[.int .i64 a.a, .int .i64 a.b, .int .i64 a.c, .int .i64 a.d, .int .i64 a.e, .int .i64 a.f] 33)).alloc (.cells #[.int .i64 b.a, .int .i64 b.b, .int .i64 b.c, .int .i64 b.d, .int .i64 b.e, .int .i64 b.f] 33)).alloc (.cells #[.int .i64 0, .int .i64 0, .int .i64 0, .int .i64 0, .int .i64 0, .int .i64 0] 33)) (w.heap.size + 2) (encM m0).toArray 33 from Blk.new2 w _ _ _ _)
  have F0 := Lib.hid (show Fr Nob w (((w.alloc (.cells #[.int .i64 a.a, .int .i64 a.b, .int .i64 a.c, .int .i64 a.d, .int .i64 a.e, .int .i64 a.f] 33)).alloc (.cells #[.int .i64 b.a, .int .i64 b.b, .int .i64 b.c, .int .i64 b.d, .int .i64 b.e, .int .i64 b.f] 33)).alloc (.cells #[.int .i64 0, .int .i64 0, .int .i64 0, .int .i64 0, .int .i64 0, .int .i64 0] 33)) from (((Fr.refl Nob w).alloc _).alloc _).alloc _)
  unfold pairM mV
  go_enter Tryd.func114, Tryd.ntmps114
  go_upto_region 1 with (fail)
  generalize ((w.alloc (.cells #[.int .i64 a.a, .int .i64 a.b, .int .i64 a.c, .int .i64 a.d, .int .i64 a.e, .int .i64 a.f] 33)).alloc (.cells #[.int .i64 b.a, .int .i64 b.b, .int .i64 b.c, .int .i64 b.d, .int .i64 b.e, .int .i64 b.f] 33)).alloc (.cells #[.int .i64 0, .int .i64 0, .int .i64 0, .int .i64 0, .int .i64 0, .int .i64 0] 33) = wa at *
  have a0 : wa.cell? ⟨w.heap.size, 0, none⟩ = some (.int .i64 a.a) := HA0.out.cell 0
  have a1 : wa.cell? ⟨w.heap.size, 1, none⟩ = some (.int .i64 a.b) := HA0.out.cell 1
  go_wp2_with (refine wpList_getAt rfl 33 (.tmp 3) rfl (w.heap.size + 1) 0 (by rfl) (encM b) _ (HB0.out.range 0 _ (by rfl)) Tryd.underlying33 rfl sizeM6 ?_)
  refine (HC1.out _).mono ?_
  unfold pairV ptV
  rintro _ w1 ⟨rfl, f1⟩
  have F1' := Lib.hid (F0.out.trans0 f1)
  have HA1' := Lib.hid (HA0.out.nob f1)
  have HB1' := Lib.hid (HB0.out.nob f1)
  have HZ1' := Lib.hid (HZ0.out.nob f1)
  clear f1 a0 a1
  have hx1 : Fr Nob w1 (w1.alloc (.cells #[.int .i64 u.1.x, .int .i64 u.1.y] 56)) := (Fr.refl Nob w1).alloc _
  have F1 := Lib.hid (F1'.out.trans0 hx1)
  have HA1 := Lib.hid (HA1'.out.nob hx1)
  have HB1 := Lib.hid (HB1'.out.nob hx1)
  have HZ1 := Lib.hid (HZ1'.out.nob hx1)
  have HU1 := Lib.hid (Blk.new w1 #[.int .i64 u.1.x, .int .i64 u.1.y] 56)
  clear hx1 F1' HA1' HB1' HZ1'
  go_upto_region 2 with (fail)
  generalize w1.alloc (.cells #[.int .i64 u.1.x, .int .i64 u.1.y] 56) = x1 at *
  have a2 : x1.cell? ⟨w.heap.size, 2, none⟩ = some (.int .i64 a.c) := HA1.out.cell 2
  have a3 : x1.cell? ⟨w.heap.size, 3, none⟩ = some (.int .i64 a.d) := HA1.out.cell 3
  go_wp2_with (refine wpList_getAt rfl 33 (.tmp 3) rfl (w.heap.size + 1) 0 (by rfl) (encM b) _ (HB1.out.range 0 _ (by rfl)) Tryd.underlying33 rfl sizeM6 ?_)
  refine (HC2.out _).mono ?_
  unfold pairV ptV
  rintro _ w2 ⟨rfl, f2⟩
  have F2' := Lib.hid (F1.out.trans0 f2)
  have HA2' := Lib.hid (HA1.out.nob f2)
  have HB2' := Lib.hid (HB1.out.nob f2)
  have HZ2' := Lib.hid (HZ1.out.nob f2)
  have HU2' := Lib.hid (HU1.out.nob f2)
  clear f2 a2 a3
  have hx2 : Fr Nob w2 (w2.alloc (.cells #[.int .i64 v.1.x, .int .i64 v.1.y] 56)) := (Fr.refl Nob w2).alloc _
  have F2 := Lib.hid (F2'.out.trans0 hx2)
  have HA2 := Lib.hid (HA2'.out.nob hx2)
  have HB2 := Lib.hid (HB2'.out.nob hx2)
  have HZ2 := Lib.hid (HZ2'.out.nob hx2)
  have HU2 := Lib.hid (HU2'.out.nob hx2)
  have HV2 := Lib.hid (Blk.new w2 #[.int .i64 v.1.x, .int .i64 v.1.y] 56)
  clear hx2 F2' HA2' HB2' HZ2'
  go_upto_region 5 with (fail)
  generalize w2.alloc (.cells #[.int .i64 v.1.x, .int .i64 v.1.y] 56) = x2 at *
  have a4 : x2.cell? ⟨w.heap.size, 4, none⟩ = some (.int .i64 a.e) := HA2.out.cell 4
  have a5 : x2.cell? ⟨w.heap.size, 5, none⟩ = some (.int .i64 a.f) := HA2.out.cell 5
  go_wp2_with (refine wpList_getAt rfl 33 (.tmp 3) rfl (w.heap.size + 1) 0 (by rfl) (encM b) _ (HB2.out.range 0 _ (by rfl)) Tryd.underlying33 rfl sizeM6 ?_)
  refine (HC3.out _).mono ?_
  unfold pairV ptV
  rintro _ w3 ⟨rfl, f3⟩
  have F3' := Lib.hid (F2.out.trans0 f3)
  have HA3' := Lib.hid (HA2.out.nob f3)
  have HB3' := Lib.hid (HB2.out.nob f3)
  have HZ3' := Lib.hid (HZ2.out.nob f3)
  have HU3' := Lib.hid (HU2.out.nob f3)
  have HV3' := Lib.hid (HV2.out.nob f3)
  clear f3 a4 a5
  have hx3 : Fr Nob w3 (w3.alloc (.cells #[.int .i64 t.1.x, .int .i64 t.1.y] 56)) := (Fr.refl Nob w3).alloc _
  have F3 := Lib.hid (F3'.out.trans0 hx3)
  have HA3 := Lib.hid (HA3'.out.nob hx3)
  have HB3 := Lib.hid (HB3'.out.nob hx3)
  have HZ3 := Lib.hid (HZ3'.out.nob hx3)
  have HU3 := Lib.hid (HU3'.out.nob hx3)
  have HV3 := Lib.hid (HV3'.out.nob hx3)
  have HT3 := Lib.hid (Blk.new w3 #[.int .i64 t.1.x, .int .i64 t.1.y] 56)
  clear hx3 F3' HA3' HB3' HZ3'
  go_upto_region 8 with (fail)
  generalize w3.alloc (.cells #[.int .i64 t.1.x, .int .i64 t.1.y] 56) = x3 at *
  have u0 : x3.cell? ⟨w1.heap.size, 0, none⟩ = some (.int .i64 u.1.x) := HU3.out.cell 0
  have u1 : x3.cell? ⟨w1.heap.size, 1, none⟩ = some (.int .i64 u.1.y) := HU3.out.cell 1
  have v0 : x3.cell? ⟨w2.heap.size, 0, none⟩ = some (.int .i64 v.1.x) := HV3.out.cell 0
  have v1 : x3.cell? ⟨w2.heap.size, 1, none⟩ = some (.int .i64 v.1.y) := HV3.out.cell 1
  have t0 : x3.cell? ⟨w3.heap.size, 0, none⟩ = some (.int .i64 t.1.x) := HT3.out.cell 0
  have t1 : x3.cell? ⟨w3.heap.size, 1, none⟩ = some (.int .i64 t.1.y) := HT3.out.cell 1
  go_wp2_with (refine wpList_putAt rfl 33 (.tmp 4) (.tmp 64) rfl (w.heap.size + 2) 0 (encM ⟨u.1.x, u.1.y, v.1.x, v.1.y, t.1.x, t.1.y⟩) (by rfl) (by rfl) 33 _ HZ3.out (Nat.le_refl 6) sizeM6 (encM_one _) ?_)
  intro w9 hb9 hf9
  rw [over_all (encM m0).toArray (encM ⟨u.1.x, u.1.y, v.1.x, v.1.y, t.1.x, t.1.y⟩) rfl] at hb9
  have HB9 := Lib.hid hb9
  have HF9 := Lib.hid (F3.out.trans hf9 fun k hk => .inr (by rw [hk]; omega))
  clear hb9 hf9
  go_wp2_with fail
  exact bodyPost_ret (results_ct rfl _ _ _ 33 _ _ rfl HB9.out Tryd.underlying33 rfl (by kernel_rfl)) rfl ⟨rfl, HF9.out⟩
theorem mconcat_any (a b : M6) (w : World) : Calls Tryd.prog 114 #[mV a, mV b] w fun r w' => r = .returned (pairM (concatZ a b)) ∧ Fr Nob w w' := by
  unfold concatZ
  by_cases hu : (deltaZ b ⟨a.a, a.b⟩).2 = 0
  · rw [if_neg (fun h => h hu)]
    by_cases hv : (deltaZ b ⟨a.c, a.d⟩).2 = 0
    · rw [if_neg (fun h => h hv)]
      by_cases ht : (applyZ b ⟨a.e, a.f⟩).2 = 0
      · rw [if_neg (fun h => h ht)]; exact mconcat_4 a b w hu hv ht
      · rw [if_pos ht]; exact mconcat_3 a b w hu hv ht
    · rw [if_pos hv]; exact mconcat_2 a b w hu hv
  · rw [if_pos hu]; exact mconcat_1 a b w hu
end Go.Proofs.YtkkejjfmidgciaaDoor
/- The walk of the states' Concat. -/
namespace Go.Proofs.YtkkejjfmidgciaaDoor
open Go.RowKit
set_option linter.unusedVariables false
set_option linter.unusedSimpArgs false
/-- Two operations that may come up. -/
theorem held_two {P : Program} {md : Region.Mode} {ops : Array Oper} {Q : Exit → Act → World → Prop} {S : World → Prop} {fuel : Nat} {listed : Array Bool} {a : Act} {w : World} (i j : Nat) {oi oj : Oper} (hoi : ops[i]? = some oi) (hoj : ops[j]? = some oj) (hr : Region.ready md ops listed = [i, j]) (hgi : oi.guard = none) (hgj : oj.guard = none)
    (h1 : ∀ K : Act → World → Prop, (∀ a w, S w → wpAnyH P md ops Q S fuel (listed.setIfInBounds i true) a w → K a w) → Oper.wp P oi a w K Q)
    (h2 : ∀ K : Act → World → Prop, (∀ a w, S w → wpAnyH P md ops Q S fuel (listed.setIfInBounds j true) a w → K a w) → Oper.wp P oj a w K Q) : wpAnyH P md ops Q S (fuel + 1) listed a w := by
  refine wpAnyH_all hr (by simp) fun k hk => ?_
  simp only [List.mem_cons, List.not_mem_nil, or_false] at hk
  rcases hk with rfl | rfl
  · unfold wpOp
    rw [hoi]
    simp only [Region.wanted, hgi, if_true]
    exact .inl (h1 _ fun a w h1 h2 => ⟨h1, h2⟩)
  · unfold wpOp
    rw [hoj]
    simp only [Region.wanted, hgj, if_true]
    exact .inl (h2 _ fun a w h1 h2 => ⟨h1, h2⟩)
def concatF (m : M6) (st : Gst) : Int × Gst := if (m6L m).all fitZ then (if (concatZ m st.ctm).2 = 0 then (0, { st with ctm := (concatZ m st.ctm).1 }) else ((concatZ m st.ctm).2, st)) else (11, st)
set_option maxRecDepth 8000 in
set_option maxHeartbeats 6400000 in
theorem gconcat_ok (g : Nat) (F : Nat → Prop) (s : GS) (m : M6) (w : World) (h : Gs w g F s) (h1 : (m6L m).all fitZ = true) (h2 : (concatZ m s.cur.st.ctm).2 = 0) :
    Calls Tryd.prog 74 #[.pointer (some ⟨g, 0, none⟩), mV m] w fun e w' => e = .returned (.int .i64 0) ∧ GsTo w g F { s with cur := { s.cur with st := { s.cur.st with ctm := (concatZ m s.cur.st.ctm).1 } } } w' := by
  have hf : Fr Nob w (w.alloc (.cells #[.int .i64 m.a, .int .i64 m.b, .int .i64 m.c, .int .i64 m.d, .int .i64 m.e, .int .i64 m.f] 33)) := (Fr.refl Nob w).alloc _
  have HI := Lib.hid (check_any ⟨g, 0, none⟩ (m6L m) _ _ (w.alloc (.cells #[.int .i64 m.a, .int .i64 m.b, .int .i64 m.c, .int .i64 m.d, .int .i64 m.e, .int .i64 m.f] 33)) (Blk.new w (encM m).toArray 33).m6)
  rw [chkI_ok h1] at HI
  have HC := Lib.hid (fun w => mconcat_any m s.cur.st.ctm w)
  generalize concatZ m s.cur.st.ctm = r at *
  have hr1 : (r.2 == 0) = true := by simpa using h2
  have hr2 : (r.2 != 0) = false := by simpa using h2
  have HR0 := Lib.hid h2
  have HF := Lib.hid hf
  obtain ⟨lab, x, sv, xs, h⟩ := h
  have hg := h.cells.nob hf
  have HG := Lib.hid hg
  have HX := Lib.hid h
  have HM := Lib.hid (Blk.new w (encM m).toArray 33)
  have HS := Lib.hid (show ∀ w', Fr Nob (w.alloc (.cells #[.int .i64 m.a, .int .i64 m.b, .int .i64 m.c, .int .i64 m.d, .int .i64 m.e, .int .i64 m.f] 33)) w' → (fun w' => w'.rangeAt w.heap.size 0 (encM m) ∧ w'.rangeAt g 0 (encM s.cur.st.ctm)) w' from fun w' hw' => ⟨((Blk.new w (encM m).toArray 33).nob hw').range 0 _ rfl, (hg.nob hw').range 0 _ rfl⟩)
  clear h h1 h2 hf hg
  unfold mV
  go_enter Tryd.func74, Tryd.ntmps74
  go_wp2_with fail
  refine HI.out.mono ?_
  rintro e w1 ⟨rfl, rfl⟩
  go_upto_region 4 with (fail)
  generalize w.alloc (.cells #[.int .i64 m.a, .int .i64 m.b, .int .i64 m.c, .int .i64 m.d, .int .i64 m.e, .int .i64 m.f] 33) = wa at *
  go_wp2_with fail
  refine wp_region_last' (ops := _) (o := _) (l := _) 13 rfl rfl rfl (fun w' => w'.rangeAt w.heap.size 0 (encM m) ∧ w'.rangeAt g 0 (encM s.cur.st.ctm)) (by kernel_rfl) (by kernel_rfl) (HS.out _ (Fr.refl Nob wa).drew) fun hH => ?_
  simp only [List.take_succ_cons, List.take_zero]
  refine wpAnyH_take (i := 0) (v := _) rfl (by kernel_rfl) (by kernel_rfl) (by kernel_rfl) (fun _ _ _ h => h) (yieldsIf_load_mid (by rfl) 33 (.tmp 3) rfl w.heap.size 0 rfl (encM m) _ (fun w hw => hw.1) Tryd.underlying33 rfl sizeM6) hH ?_
  simp only [Act.put, List.getElem_toArray, List.getElem_cons_succ, List.getElem_cons_zero, List.setIfInBounds_toArray, List.set_cons_zero, List.set_cons_succ]
  refine wpAnyH_take (i := 1) (v := ?va2) rfl (by kernel_rfl) (by kernel_rfl) (by kernel_rfl) (fun _ _ _ h => h) (Or.inl ⟨by rfl, ?ha2⟩) hH ?ra2
  case ha2 => (intro w hSw; (try dsimp only at hSw); clear hSw; go_simp; (try with_reducible rfl))
  simp only [Act.put, List.getElem_toArray, List.getElem_cons_succ, List.getElem_cons_zero, List.setIfInBounds_toArray, List.set_cons_zero, List.set_cons_succ]
  refine wpAnyH_take (i := 2) (v := ?va3) rfl (by kernel_rfl) (by kernel_rfl) (by kernel_rfl) (fun _ _ _ h => h) (Or.inl ⟨by rfl, ?ha3⟩) hH ?ra3
  case ha3 => (intro w hSw; (try dsimp only at hSw); clear hSw; go_simp; (try with_reducible rfl))
  simp only [Act.put, List.getElem_toArray, List.getElem_cons_succ, List.getElem_cons_zero, List.setIfInBounds_toArray, List.set_cons_zero, List.set_cons_succ]
  refine wpAnyH_take (i := 3) (v := ?va4) rfl (by kernel_rfl) (by kernel_rfl) (by kernel_rfl) (fun _ _ _ h => h) (Or.inl ⟨by rfl, ?ha4⟩) hH ?ra4
  case ha4 => (intro w hSw; (try dsimp only at hSw); clear hSw; go_simp; (try with_reducible rfl))
  simp only [Act.put, List.getElem_toArray, List.getElem_cons_succ, List.getElem_cons_zero, List.setIfInBounds_toArray, List.set_cons_zero, List.set_cons_succ]
  refine wpAnyH_take (i := 4) (v := ?va5) rfl (by kernel_rfl) (by kernel_rfl) (by kernel_rfl) (fun _ _ _ h => h) (Or.inl ⟨by rfl, ?ha5⟩) hH ?ra5
  case ha5 => (intro w hSw; (try dsimp only at hSw); clear hSw; go_simp; (try with_reducible rfl))
  simp only [Act.put, List.getElem_toArray, List.getElem_cons_succ, List.getElem_cons_zero, List.setIfInBounds_toArray, List.set_cons_zero, List.set_cons_succ]
  refine wpAnyH_take (i := 5) (v := ?va6) rfl (by kernel_rfl) (by kernel_rfl) (by kernel_rfl) (fun _ _ _ h => h) (Or.inl ⟨by rfl, ?ha6⟩) hH ?ra6
  case ha6 => (intro w hSw; (try dsimp only at hSw); clear hSw; go_simp; (try with_reducible rfl))
  simp only [Act.put, List.getElem_toArray, List.getElem_cons_succ, List.getElem_cons_zero, List.setIfInBounds_toArray, List.set_cons_zero, List.set_cons_succ]
  refine wpAnyH_take (i := 6) (v := _) rfl (by kernel_rfl) (by kernel_rfl) (by kernel_rfl) (fun _ _ _ h => h) (yieldsIf_load_mid (by rfl) 33 (.tmp 20) rfl g 0 rfl (encM s.cur.st.ctm) _ (fun w hw => hw.2) Tryd.underlying33 rfl sizeM6) hH ?_
  simp only [Act.put, List.getElem_toArray, List.getElem_cons_succ, List.getElem_cons_zero, List.setIfInBounds_toArray, List.set_cons_zero, List.set_cons_succ]
  refine held_two 7 11 rfl rfl (by kernel_rfl) rfl rfl ?_ ?_
  · intro K hK
    replace hK := Lib.hid hK
    clear hH
    go_simp
    refine (HC.out _).mono ?_
    unfold pairM mV
    rintro e w2 ⟨rfl, h2⟩
    have F2 := Lib.hid (show Fr Nob wa w2 from Fr.trans0 (by repeat (first | exact Fr.refl _ _ | exact HAL.out | refine Fr.alloc ?_ _ | refine Fr.drew ?_ | refine Fr.drewN ?_ _)) h2)
    clear h2
    dsimp only
    have hH := HS.out w2 F2.out
    refine hK.out _ _ hH ?_
    clear hK K
    refine wpAnyH_take (i := 8) (v := ?vx0) rfl (by kernel_rfl) (by kernel_rfl) (by kernel_rfl) (fun _ _ _ h => h) (Or.inl ⟨by rfl, ?hx0⟩) hH ?rx0
    case hx0 => (intro w hSw; (try dsimp only at hSw); clear hSw; go_simp; (try with_reducible rfl))
    simp only [Act.put, List.getElem_toArray, List.getElem_cons_succ, List.getElem_cons_zero, List.setIfInBounds_toArray, List.set_cons_zero, List.set_cons_succ]
    refine wpAnyH_take (i := 9) (v := ?vx1) rfl (by kernel_rfl) (by kernel_rfl) (by kernel_rfl) (fun _ _ _ h => h) (Or.inl ⟨by rfl, ?hx1⟩) hH ?rx1
    case hx1 => (intro w hSw; (try dsimp only at hSw); clear hSw; go_simp; (try with_reducible rfl))
    simp only [Act.put, List.getElem_toArray, List.getElem_cons_succ, List.getElem_cons_zero, List.setIfInBounds_toArray, List.set_cons_zero, List.set_cons_succ]
    refine wpAnyH_take (i := 10) (v := ?vx2) rfl (by kernel_rfl) (by kernel_rfl) (by kernel_rfl) (fun _ _ _ h => h) (Or.inl ⟨by rfl, ?hx2⟩) hH ?rx2
    case hx2 => (intro w hSw; (try dsimp only at hSw); clear hSw; go_simp; (try with_reducible rfl))
    simp only [Act.put, List.getElem_toArray, List.getElem_cons_succ, List.getElem_cons_zero, List.setIfInBounds_toArray, List.set_cons_zero, List.set_cons_succ]
    refine held_one 11 rfl (by kernel_rfl) rfl fun K hK => ?_
    replace hK := Lib.hid hK
    clear hH
    go_simp
    have HAL := Lib.hid (show Fr Nob wa (w2.alloc (.cells #[.int .i64 0, .int .i64 0, .int .i64 0, .int .i64 0, .int .i64 0, .int .i64 0] 33)) from F2.out.alloc _)
    have HZ := Lib.hid (show Blk (w2.alloc (.cells #[.int .i64 0, .int .i64 0, .int .i64 0, .int .i64 0, .int .i64 0, .int .i64 0] 33)) w2.heap.size #[.int .i64 0, .int .i64 0, .int .i64 0, .int .i64 0, .int .i64 0, .int .i64 0] 33 from Blk.new w2 _ _)
    have hH := HS.out (w2.alloc (.cells #[.int .i64 0, .int .i64 0, .int .i64 0, .int .i64 0, .int .i64 0, .int .i64 0] 33)) HAL.out
    refine hK.out _ _ hH ?_
    clear hK K
    refine held_one 12 rfl (by kernel_rfl) rfl fun K hK => ?_
    replace hK := Lib.hid hK
    clear hH
    refine wp_putAt 33 (.tmp 6) (.tmp 23) rfl w2.heap.size 0 (encM r.1) (by rfl) (by rfl) 33 _ HZ.out (Nat.le_refl 6) sizeM6 (encM_one _) ?_
    intro w3 hb3 hf3
    replace hb3 : Blk w3 w2.heap.size (encM r.1).toArray 33 := hb3
    have F3 := Lib.hid (show Fr Nob wa w3 from HAL.out.trans hf3 fun k hk => .inr (by rw [hk]; exact F2.out.size))
    have HB3 := Lib.hid hb3
    clear hb3 hf3
    have hH := HS.out w3 F3.out
    refine hK.out _ _ hH ?_
    clear hK K
    refine wpAnyH_done (by kernel_rfl) ?_ _
    clear hH
    simp only [LastQ, List.getElem_cons_succ, List.getElem_cons_zero]
    go_simp
    have HGB := Lib.hid (HG.out.nob F3.out)
    go_wp2_with (first
      | (refine wpList_getAt rfl 33 (.tmp 6) rfl w2.heap.size 0 (by rfl) (encM r.1) _ (HB3.out.range 0 _ (by rfl)) Tryd.underlying33 rfl sizeM6 ?_)
      | (refine wpList_putAt rfl 33 (.tmp 32) (.tmp 28) rfl g 0 (encM r.1) (by rfl) (by rfl) 124 _ HGB.out (show 6 ≤ 30 by omega) sizeM6 (encM_one _) ?_))
    intro w4 hb4 hf4
    have HB4 := Lib.hid hb4
    have HF4 := Lib.hid hf4
    clear hb4 hf4
    go_wp2_with fail
    go_ret
    exact ⟨ret_i64 HR0.out, HX.out.put (HF.out.trans0 F3.out) HF4.out { s.cur.st with ctm := r.1 } rfl rfl HB4.out⟩
  · intro K hK
    replace hK := Lib.hid hK
    clear hH
    go_simp
    have HAL := Lib.hid (show Fr Nob wa (wa.drew.alloc (.cells #[.int .i64 0, .int .i64 0, .int .i64 0, .int .i64 0, .int .i64 0, .int .i64 0] 33)) from (Fr.refl Nob wa).drew.alloc _)
    have HZ := Lib.hid (show Blk (wa.drew.alloc (.cells #[.int .i64 0, .int .i64 0, .int .i64 0, .int .i64 0, .int .i64 0, .int .i64 0] 33)) wa.heap.size #[.int .i64 0, .int .i64 0, .int .i64 0, .int .i64 0, .int .i64 0, .int .i64 0] 33 from Blk.new wa.drew _ _)
    have hH := HS.out (wa.drew.alloc (.cells #[.int .i64 0, .int .i64 0, .int .i64 0, .int .i64 0, .int .i64 0, .int .i64 0] 33)) HAL.out
    refine hK.out _ _ hH ?_
    clear hK K
    refine held_one 7 rfl (by kernel_rfl) rfl fun K hK => ?_
    replace hK := Lib.hid hK
    clear hH
    go_simp
    refine (HC.out _).mono ?_
    unfold pairM mV
    rintro e w2 ⟨rfl, h2⟩
    have F2z := Lib.hid h2
    have F2 := Lib.hid (show Fr Nob wa w2 from Fr.trans0 (by repeat (first | exact Fr.refl _ _ | exact HAL.out | refine Fr.alloc ?_ _ | refine Fr.drew ?_ | refine Fr.drewN ?_ _)) h2)
    clear h2
    dsimp only
    have hH := HS.out w2 F2.out
    refine hK.out _ _ hH ?_
    clear hK K
    have HZ2 := Lib.hid (HZ.out.nob (show Fr Nob _ w2 from F2z.out))
    refine wpAnyH_take (i := 8) (v := ?vy0) rfl (by kernel_rfl) (by kernel_rfl) (by kernel_rfl) (fun _ _ _ h => h) (Or.inl ⟨by rfl, ?hy0⟩) hH ?ry0
    case hy0 => (intro w hSw; (try dsimp only at hSw); clear hSw; go_simp; (try with_reducible rfl))
    simp only [Act.put, List.getElem_toArray, List.getElem_cons_succ, List.getElem_cons_zero, List.setIfInBounds_toArray, List.set_cons_zero, List.set_cons_succ]
    refine wpAnyH_take (i := 9) (v := ?vy1) rfl (by kernel_rfl) (by kernel_rfl) (by kernel_rfl) (fun _ _ _ h => h) (Or.inl ⟨by rfl, ?hy1⟩) hH ?ry1
    case hy1 => (intro w hSw; (try dsimp only at hSw); clear hSw; go_simp; (try with_reducible rfl))
    simp only [Act.put, List.getElem_toArray, List.getElem_cons_succ, List.getElem_cons_zero, List.setIfInBounds_toArray, List.set_cons_zero, List.set_cons_succ]
    refine wpAnyH_take (i := 10) (v := ?vy2) rfl (by kernel_rfl) (by kernel_rfl) (by kernel_rfl) (fun _ _ _ h => h) (Or.inl ⟨by rfl, ?hy2⟩) hH ?ry2
    case hy2 => (intro w hSw; (try dsimp only at hSw); clear hSw; go_simp; (try with_reducible rfl))
    simp only [Act.put, List.getElem_toArray, List.getElem_cons_succ, List.getElem_cons_zero, List.setIfInBounds_toArray, List.set_cons_zero, List.set_cons_succ]
    refine held_one 12 rfl (by kernel_rfl) rfl fun K hK => ?_
    replace hK := Lib.hid hK
    clear hH
    refine wp_putAt 33 (.tmp 6) (.tmp 23) rfl wa.heap.size 0 (encM r.1) (by rfl) (by rfl) 33 _ HZ2.out (Nat.le_refl 6) sizeM6 (encM_one _) ?_
    intro w3 hb3 hf3
    replace hb3 : Blk w3 wa.heap.size (encM r.1).toArray 33 := hb3
    have F3 := Lib.hid (show Fr Nob wa w3 from F2.out.trans hf3 fun k hk => .inr (by rw [hk]; exact Nat.le_refl _))
    have HB3 := Lib.hid hb3
    clear hb3 hf3
    have hH := HS.out w3 F3.out
    refine hK.out _ _ hH ?_
    clear hK K
    refine wpAnyH_done (by kernel_rfl) ?_ _
    clear hH
    simp only [LastQ, List.getElem_cons_succ, List.getElem_cons_zero]
    go_simp
    have HGB := Lib.hid (HG.out.nob F3.out)
    go_wp2_with (first
      | (refine wpList_getAt rfl 33 (.tmp 6) rfl wa.heap.size 0 (by rfl) (encM r.1) _ (HB3.out.range 0 _ (by rfl)) Tryd.underlying33 rfl sizeM6 ?_)
      | (refine wpList_putAt rfl 33 (.tmp 32) (.tmp 28) rfl g 0 (encM r.1) (by rfl) (by rfl) 124 _ HGB.out (show 6 ≤ 30 by omega) sizeM6 (encM_one _) ?_))
    intro w4 hb4 hf4
    have HB4 := Lib.hid hb4
    have HF4 := Lib.hid hf4
    clear hb4 hf4
    go_wp2_with fail
    go_ret
    exact ⟨ret_i64 HR0.out, HX.out.put (HF.out.trans0 F3.out) HF4.out { s.cur.st with ctm := r.1 } rfl rfl HB4.out⟩
set_option maxRecDepth 8000 in
set_option maxHeartbeats 6400000 in
theorem gconcat_err (g : Nat) (F : Nat → Prop) (s : GS) (m : M6) (w : World) (h : Gs w g F s) (h1 : (m6L m).all fitZ = true) (h2 : ¬ (concatZ m s.cur.st.ctm).2 = 0) :
    Calls Tryd.prog 74 #[.pointer (some ⟨g, 0, none⟩), mV m] w fun e w' => e = .returned (.int .i64 (concatZ m s.cur.st.ctm).2) ∧ GsTo w g F s w' := by
  have hf : Fr Nob w (w.alloc (.cells #[.int .i64 m.a, .int .i64 m.b, .int .i64 m.c, .int .i64 m.d, .int .i64 m.e, .int .i64 m.f] 33)) := (Fr.refl Nob w).alloc _
  have HI := Lib.hid (check_any ⟨g, 0, none⟩ (m6L m) _ _ (w.alloc (.cells #[.int .i64 m.a, .int .i64 m.b, .int .i64 m.c, .int .i64 m.d, .int .i64 m.e, .int .i64 m.f] 33)) (Blk.new w (encM m).toArray 33).m6)
  rw [chkI_ok h1] at HI
  have HC := Lib.hid (fun w => mconcat_any m s.cur.st.ctm w)
  generalize concatZ m s.cur.st.ctm = r at *
  have hr1 : (r.2 == 0) = false := by simpa using h2
  have hr2 : (r.2 != 0) = true := by simpa using h2
  have HR0 := Lib.hid h2
  have HF := Lib.hid hf
  obtain ⟨lab, x, sv, xs, h⟩ := h
  have hg := h.cells.nob hf
  have HG := Lib.hid hg
  have HX := Lib.hid h
  have HM := Lib.hid (Blk.new w (encM m).toArray 33)
  have HS := Lib.hid (show ∀ w', Fr Nob (w.alloc (.cells #[.int .i64 m.a, .int .i64 m.b, .int .i64 m.c, .int .i64 m.d, .int .i64 m.e, .int .i64 m.f] 33)) w' → (fun w' => w'.rangeAt w.heap.size 0 (encM m) ∧ w'.rangeAt g 0 (encM s.cur.st.ctm)) w' from fun w' hw' => ⟨((Blk.new w (encM m).toArray 33).nob hw').range 0 _ rfl, (hg.nob hw').range 0 _ rfl⟩)
  clear h h1 h2 hf hg
  unfold mV
  go_enter Tryd.func74, Tryd.ntmps74
  go_wp2_with fail
  refine HI.out.mono ?_
  rintro e w1 ⟨rfl, rfl⟩
  go_upto_region 4 with (fail)
  generalize w.alloc (.cells #[.int .i64 m.a, .int .i64 m.b, .int .i64 m.c, .int .i64 m.d, .int .i64 m.e, .int .i64 m.f] 33) = wa at *
  go_wp2_with fail
  refine wp_region_last' (ops := _) (o := _) (l := _) 13 rfl rfl rfl (fun w' => w'.rangeAt w.heap.size 0 (encM m) ∧ w'.rangeAt g 0 (encM s.cur.st.ctm)) (by kernel_rfl) (by kernel_rfl) (HS.out _ (Fr.refl Nob wa).drew) fun hH => ?_
  simp only [List.take_succ_cons, List.take_zero]
  refine wpAnyH_take (i := 0) (v := _) rfl (by kernel_rfl) (by kernel_rfl) (by kernel_rfl) (fun _ _ _ h => h) (yieldsIf_load_mid (by rfl) 33 (.tmp 3) rfl w.heap.size 0 rfl (encM m) _ (fun w hw => hw.1) Tryd.underlying33 rfl sizeM6) hH ?_
  simp only [Act.put, List.getElem_toArray, List.getElem_cons_succ, List.getElem_cons_zero, List.setIfInBounds_toArray, List.set_cons_zero, List.set_cons_succ]
  refine wpAnyH_take (i := 1) (v := ?va2) rfl (by kernel_rfl) (by kernel_rfl) (by kernel_rfl) (fun _ _ _ h => h) (Or.inl ⟨by rfl, ?ha2⟩) hH ?ra2
  case ha2 => (intro w hSw; (try dsimp only at hSw); clear hSw; go_simp; (try with_reducible rfl))
  simp only [Act.put, List.getElem_toArray, List.getElem_cons_succ, List.getElem_cons_zero, List.setIfInBounds_toArray, List.set_cons_zero, List.set_cons_succ]
  refine wpAnyH_take (i := 2) (v := ?va3) rfl (by kernel_rfl) (by kernel_rfl) (by kernel_rfl) (fun _ _ _ h => h) (Or.inl ⟨by rfl, ?ha3⟩) hH ?ra3
  case ha3 => (intro w hSw; (try dsimp only at hSw); clear hSw; go_simp; (try with_reducible rfl))
  simp only [Act.put, List.getElem_toArray, List.getElem_cons_succ, List.getElem_cons_zero, List.setIfInBounds_toArray, List.set_cons_zero, List.set_cons_succ]
  refine wpAnyH_take (i := 3) (v := ?va4) rfl (by kernel_rfl) (by kernel_rfl) (by kernel_rfl) (fun _ _ _ h => h) (Or.inl ⟨by rfl, ?ha4⟩) hH ?ra4
  case ha4 => (intro w hSw; (try dsimp only at hSw); clear hSw; go_simp; (try with_reducible rfl))
  simp only [Act.put, List.getElem_toArray, List.getElem_cons_succ, List.getElem_cons_zero, List.setIfInBounds_toArray, List.set_cons_zero, List.set_cons_succ]
  refine wpAnyH_take (i := 4) (v := ?va5) rfl (by kernel_rfl) (by kernel_rfl) (by kernel_rfl) (fun _ _ _ h => h) (Or.inl ⟨by rfl, ?ha5⟩) hH ?ra5
  case ha5 => (intro w hSw; (try dsimp only at hSw); clear hSw; go_simp; (try with_reducible rfl))
  simp only [Act.put, List.getElem_toArray, List.getElem_cons_succ, List.getElem_cons_zero, List.setIfInBounds_toArray, List.set_cons_zero, List.set_cons_succ]
  refine wpAnyH_take (i := 5) (v := ?va6) rfl (by kernel_rfl) (by kernel_rfl) (by kernel_rfl) (fun _ _ _ h => h) (Or.inl ⟨by rfl, ?ha6⟩) hH ?ra6
  case ha6 => (intro w hSw; (try dsimp only at hSw); clear hSw; go_simp; (try with_reducible rfl))
  simp only [Act.put, List.getElem_toArray, List.getElem_cons_succ, List.getElem_cons_zero, List.setIfInBounds_toArray, List.set_cons_zero, List.set_cons_succ]
  refine wpAnyH_take (i := 6) (v := _) rfl (by kernel_rfl) (by kernel_rfl) (by kernel_rfl) (fun _ _ _ h => h) (yieldsIf_load_mid (by rfl) 33 (.tmp 20) rfl g 0 rfl (encM s.cur.st.ctm) _ (fun w hw => hw.2) Tryd.underlying33 rfl sizeM6) hH ?_
  simp only [Act.put, List.getElem_toArray, List.getElem_cons_succ, List.getElem_cons_zero, List.setIfInBounds_toArray, List.set_cons_zero, List.set_cons_succ]
  refine held_two 7 11 rfl rfl (by kernel_rfl) rfl rfl ?_ ?_
  · intro K hK
    replace hK := Lib.hid hK
    clear hH
    go_simp
    refine (HC.out _).mono ?_
    unfold pairM mV
    rintro e w2 ⟨rfl, h2⟩
    have F2 := Lib.hid (show Fr Nob wa w2 from Fr.trans0 (by repeat (first | exact Fr.refl _ _ | exact HAL.out | refine Fr.alloc ?_ _ | refine Fr.drew ?_ | refine Fr.drewN ?_ _)) h2)
    clear h2
    dsimp only
    have hH := HS.out w2 F2.out
    refine hK.out _ _ hH ?_
    clear hK K
    refine wpAnyH_take (i := 8) (v := ?vx0) rfl (by kernel_rfl) (by kernel_rfl) (by kernel_rfl) (fun _ _ _ h => h) (Or.inl ⟨by rfl, ?hx0⟩) hH ?rx0
    case hx0 => (intro w hSw; (try dsimp only at hSw); clear hSw; go_simp; (try with_reducible rfl))
    simp only [Act.put, List.getElem_toArray, List.getElem_cons_succ, List.getElem_cons_zero, List.setIfInBounds_toArray, List.set_cons_zero, List.set_cons_succ]
    refine wpAnyH_take (i := 9) (v := ?vx1) rfl (by kernel_rfl) (by kernel_rfl) (by kernel_rfl) (fun _ _ _ h => h) (Or.inl ⟨by rfl, ?hx1⟩) hH ?rx1
    case hx1 => (intro w hSw; (try dsimp only at hSw); clear hSw; go_simp; (try with_reducible rfl))
    simp only [Act.put, List.getElem_toArray, List.getElem_cons_succ, List.getElem_cons_zero, List.setIfInBounds_toArray, List.set_cons_zero, List.set_cons_succ]
    refine wpAnyH_take (i := 10) (v := ?vx2) rfl (by kernel_rfl) (by kernel_rfl) (by kernel_rfl) (fun _ _ _ h => h) (Or.inl ⟨by rfl, ?hx2⟩) hH ?rx2
    case hx2 => (intro w hSw; (try dsimp only at hSw); clear hSw; go_simp; (try with_reducible rfl))
    simp only [Act.put, List.getElem_toArray, List.getElem_cons_succ, List.getElem_cons_zero, List.setIfInBounds_toArray, List.set_cons_zero, List.set_cons_succ]
    refine held_one 11 rfl (by kernel_rfl) rfl fun K hK => ?_
    replace hK := Lib.hid hK
    clear hH
    go_simp
    have HAL := Lib.hid (show Fr Nob wa (w2.alloc (.cells #[.int .i64 0, .int .i64 0, .int .i64 0, .int .i64 0, .int .i64 0, .int .i64 0] 33)) from F2.out.alloc _)
    have HZ := Lib.hid (show Blk (w2.alloc (.cells #[.int .i64 0, .int .i64 0, .int .i64 0, .int .i64 0, .int .i64 0, .int .i64 0] 33)) w2.heap.size #[.int .i64 0, .int .i64 0, .int .i64 0, .int .i64 0, .int .i64 0, .int .i64 0] 33 from Blk.new w2 _ _)
    have hH := HS.out (w2.alloc (.cells #[.int .i64 0, .int .i64 0, .int .i64 0, .int .i64 0, .int .i64 0, .int .i64 0] 33)) HAL.out
    refine hK.out _ _ hH ?_
    clear hK K
    refine held_one 12 rfl (by kernel_rfl) rfl fun K hK => ?_
    replace hK := Lib.hid hK
    clear hH
    refine wp_putAt 33 (.tmp 6) (.tmp 23) rfl w2.heap.size 0 (encM r.1) (by rfl) (by rfl) 33 _ HZ.out (Nat.le_refl 6) sizeM6 (encM_one _) ?_
    intro w3 hb3 hf3
    replace hb3 : Blk w3 w2.heap.size (encM r.1).toArray 33 := hb3
    have F3 := Lib.hid (show Fr Nob wa w3 from HAL.out.trans hf3 fun k hk => .inr (by rw [hk]; exact F2.out.size))
    have HB3 := Lib.hid hb3
    clear hb3 hf3
    have hH := HS.out w3 F3.out
    refine hK.out _ _ hH ?_
    clear hK K
    refine wpAnyH_done (by kernel_rfl) ?_ _
    clear hH
    simp only [LastQ, List.getElem_cons_succ, List.getElem_cons_zero]
    go_simp
    go_wp2_with fail
    go_ret
    exact ⟨rfl, GsTo.same ⟨lab, x, sv, xs, HX.out⟩ (HF.out.trans0 F3.out)⟩
  · intro K hK
    replace hK := Lib.hid hK
    clear hH
    go_simp
    have HAL := Lib.hid (show Fr Nob wa (wa.drew.alloc (.cells #[.int .i64 0, .int .i64 0, .int .i64 0, .int .i64 0, .int .i64 0, .int .i64 0] 33)) from (Fr.refl Nob wa).drew.alloc _)
    have HZ := Lib.hid (show Blk (wa.drew.alloc (.cells #[.int .i64 0, .int .i64 0, .int .i64 0, .int .i64 0, .int .i64 0, .int .i64 0] 33)) wa.heap.size #[.int .i64 0, .int .i64 0, .int .i64 0, .int .i64 0, .int .i64 0, .int .i64 0] 33 from Blk.new wa.drew _ _)
    have hH := HS.out (wa.drew.alloc (.cells #[.int .i64 0, .int .i64 0, .int .i64 0, .int .i64 0, .int .i64 0, .int .i64 0] 33)) HAL.out
    refine hK.out _ _ hH ?_
    clear hK K
    refine held_one 7 rfl (by kernel_rfl) rfl fun K hK => ?_
    replace hK := Lib.hid hK
    clear hH
    go_simp
    refine (HC.out _).mono ?_
    unfold pairM mV
    rintro e w2 ⟨rfl, h2⟩
    have F2z := Lib.hid h2
    have F2 := Lib.hid (show Fr Nob wa w2 from Fr.trans0 (by repeat (first | exact Fr.refl _ _ | exact HAL.out | refine Fr.alloc ?_ _ | refine Fr.drew ?_ | refine Fr.drewN ?_ _)) h2)
    clear h2
    dsimp only
    have hH := HS.out w2 F2.out
    refine hK.out _ _ hH ?_
    clear hK K
    have HZ2 := Lib.hid (HZ.out.nob (show Fr Nob _ w2 from F2z.out))
    refine wpAnyH_take (i := 8) (v := ?vy0) rfl (by kernel_rfl) (by kernel_rfl) (by kernel_rfl) (fun _ _ _ h => h) (Or.inl ⟨by rfl, ?hy0⟩) hH ?ry0
    case hy0 => (intro w hSw; (try dsimp only at hSw); clear hSw; go_simp; (try with_reducible rfl))
    simp only [Act.put, List.getElem_toArray, List.getElem_cons_succ, List.getElem_cons_zero, List.setIfInBounds_toArray, List.set_cons_zero, List.set_cons_succ]
    refine wpAnyH_take (i := 9) (v := ?vy1) rfl (by kernel_rfl) (by kernel_rfl) (by kernel_rfl) (fun _ _ _ h => h) (Or.inl ⟨by rfl, ?hy1⟩) hH ?ry1
    case hy1 => (intro w hSw; (try dsimp only at hSw); clear hSw; go_simp; (try with_reducible rfl))
    simp only [Act.put, List.getElem_toArray, List.getElem_cons_succ, List.getElem_cons_zero, List.setIfInBounds_toArray, List.set_cons_zero, List.set_cons_succ]
    refine wpAnyH_take (i := 10) (v := ?vy2) rfl (by kernel_rfl) (by kernel_rfl) (by kernel_rfl) (fun _ _ _ h => h) (Or.inl ⟨by rfl, ?hy2⟩) hH ?ry2
    case hy2 => (intro w hSw; (try dsimp only at hSw); clear hSw; go_simp; (try with_reducible rfl))
    simp only [Act.put, List.getElem_toArray, List.getElem_cons_succ, List.getElem_cons_zero, List.setIfInBounds_toArray, List.set_cons_zero, List.set_cons_succ]
    refine held_one 12 rfl (by kernel_rfl) rfl fun K hK => ?_
    replace hK := Lib.hid hK
    clear hH
    refine wp_putAt 33 (.tmp 6) (.tmp 23) rfl wa.heap.size 0 (encM r.1) (by rfl) (by rfl) 33 _ HZ2.out (Nat.le_refl 6) sizeM6 (encM_one _) ?_
    intro w3 hb3 hf3
    replace hb3 : Blk w3 wa.heap.size (encM r.1).toArray 33 := hb3
    have F3 := Lib.hid (show Fr Nob wa w3 from F2.out.trans hf3 fun k hk => .inr (by rw [hk]; exact Nat.le_refl _))
    have HB3 := Lib.hid hb3
    clear hb3 hf3
    have hH := HS.out w3 F3.out
    refine hK.out _ _ hH ?_
    clear hK K
    refine wpAnyH_done (by kernel_rfl) ?_ _
    clear hH
    simp only [LastQ, List.getElem_cons_succ, List.getElem_cons_zero]
    go_simp
    go_wp2_with fail
    go_ret
    exact ⟨rfl, GsTo.same ⟨lab, x, sv, xs, HX.out⟩ (HF.out.trans0 F3.out)⟩
theorem gconcat_any (g : Nat) (F : Nat → Prop) (s : GS) (m : M6) (w : World) (h : Gs w g F s) :
    Calls Tryd.prog 74 #[.pointer (some ⟨g, 0, none⟩), mV m] w fun e w' => e = .returned (.int .i64 (concatF m s.cur.st).1) ∧ GsTo w g F { s with cur := { s.cur with st := (concatF m s.cur.st).2 } } w' := by
  unfold concatF
  by_cases h1 : (m6L m).all fitZ = true
  · rw [if_pos h1]
    by_cases h2 : (concatZ m s.cur.st.ctm).2 = 0
    · rw [if_pos h2]; exact gconcat_ok g F s m w h h1 h2
    · rw [if_neg h2]; exact gconcat_err g F s m w h h1 h2
  · rw [if_neg h1]
    have HI := Lib.hid (check_any ⟨g, 0, none⟩ (m6L m) _ _ (w.alloc (.cells (encM m).toArray 33)) (Blk.new w (encM m).toArray 33).m6)
    rw [chkI_no h1] at HI
    have HF := Lib.hid ((Fr.refl Nob w).alloc (.cells (encM m).toArray 33))
    have HH := Lib.hid h
    clear h h1
    unfold mV
    go_enter Tryd.func74, Tryd.ntmps74
    go_wp2_with fail
    refine HI.out.mono ?_
    rintro e w1 ⟨rfl, rfl⟩
    go_wp2_with fail
    go_ret
    exact ⟨rfl, GsTo.same HH.out HF.out⟩
end Go.Proofs.YtkkejjfmidgciaaDoor
/- The walk of Clip. -/
namespace Go.Proofs.YtkkejjfmidgciaaDoor
open Go.RowKit
set_option linter.unusedVariables false
set_option linter.unusedSimpArgs false
def clipF (eo : Bool) (p : PS) (st : Gst) : Int × Gst := if 16 ≤ st.clips.length then (9, st) else if p.list.length = 0 then (0, { st with dark := true }) else (0, { st with clips := st.clips ++ [⟨p.list, eo⟩] })
/-- One clip more, in a list of one's own. -/
theorem OwnC.more {w0 w1 w2 wc w4 : World} {cv v' lv : Value} {l : List Clp} {xs : List (Clp × Value)} {S : Nat → Prop} {c : Clp} (h : OwnC w1 w2 cv l l.length xs S) (hl : OwnS w1 91 7 lv c.path.length (encSs c.path)) (hn : NewV w0 lv) (h0 : Fr Nob w0 w1) (hc : Fr Nob w2 wc)
    (ho : OwnS w4 93 2 v' (l.length + 1) (encX xs ++ [lv, .bool c.eo])) (hf : Fr (inB cv) wc w4) (hat : v'.ownBlock = cv.ownBlock ∨ v'.ownBlock = some wc.heap.size) : Clps w4 (fun k => w0.heap.size ≤ k) v' (l ++ [c]) := by
  have hxl : xs.map Prod.fst = l := by rw [h.l, List.take_length]
  have hxn : xs.length = l.length := by rw [← hxl, List.length_map]
  have hz := h0.size
  refine ⟨xs ++ [(c, lv)], by simp [hxl], ?_, fun x hx => ?_⟩
  · rw [encX_append, List.length_append, hxn]
    refine ho.rowIn fun k hk => ?_
    rcases hat with e | e
    · exact Nat.le_trans hz (h.n k (e ▸ hk))
    · rw [e] at hk; cases hk; exact Nat.le_trans hz (Nat.le_trans h.f.size hc.size)
  · rcases List.mem_append.1 hx with hx | hx
    · exact (((h.p x hx).nob hc).fr hf fun j hj hv => h.d j hv hj).mono fun j hj => Nat.le_trans hz (h.s j hj).1
    · rw [List.mem_singleton] at hx
      subst hx
      refine (((hl.nob h.f).nob hc).fr hf fun j hj hv => ?_).rowIn fun k hk => hn k hk
      have := hl.lt j hj; have := h.n j hv; omega
theorem gclip_full (g : Nat) (F : Nat → Prop) (s : GS) (eo : Bool) (w : World) (h : Gs w g F s) (h1 : 16 ≤ s.cur.st.clips.length) (hb : SmallG s.cur.st) :
    Calls Tryd.prog 62 #[.pointer (some ⟨g, 0, none⟩), .bool eo] w fun e w' => e = .returned (.int .i64 9) ∧ GsTo w g F s w' := by
  have HH := Lib.hid h
  obtain ⟨lab, x, sv, xs, h⟩ := h
  have HI := Lib.hid (check_any ⟨g, 0, none⟩ [] (.slice none 0 0) Nob w (RowIn.nil _ _ _))
  rw [show chkI [] = 0 from rfl] at HI
  have c24 : w.cell? ⟨g, 24, none⟩ = some x.cv := h.cells.cell 24
  obtain ⟨A, c, hcv, _, _⟩ := h.c.g.c.form
  rw [hcv] at c24
  have hbc := hb.c
  have i1 : (16 : Int) ≤ s.cur.st.clips.length := by omega
  clear h hcv hb
  go_enter Tryd.func62, Tryd.ntmps62
  go_wp2_with fail
  refine HI.out.mono ?_
  rintro e w1 ⟨rfl, rfl⟩
  go_wp2_with fail
  go_ret
  exact ⟨rfl, GsTo.same HH.out (Fr.refl _ _)⟩
theorem gclip_dark (g : Nat) (F : Nat → Prop) (s : GS) (eo : Bool) (w : World) (h : Gs w g F s) (h1 : ¬ 16 ≤ s.cur.st.clips.length) (h2 : s.cur.p.list.length = 0) (hp : PB s.cur.p) :
    Calls Tryd.prog 62 #[.pointer (some ⟨g, 0, none⟩), .bool eo] w fun e w' => e = .returned (.int .i64 0) ∧ GsTo w g F { s with cur := { s.cur with st := { s.cur.st with dark := true } } } w' := by
  obtain ⟨lab, x, sv, xs, h⟩ := h
  have HI := Lib.hid (check_any ⟨g, 0, none⟩ [] (.slice none 0 0) Nob w (RowIn.nil _ _ _))
  rw [show chkI [] = 0 from rfl] at HI
  have c24 : w.cell? ⟨g, 24, none⟩ = some x.cv := h.cells.cell 24
  have c26 : w.cell? ⟨g, 26, none⟩ = some (.pointer (some ⟨x.pg, 0, none⟩)) := h.cells.cell 26
  obtain ⟨A, c, hcv, _, _⟩ := h.c.g.c.form
  rw [hcv] at c24
  have i1 : ¬ (16 : Int) ≤ s.cur.st.clips.length := by omega
  have HX := Lib.hid h
  have HSEG := Lib.hid (seg_any x.pg x.pv s.cur.p w h.c.p hp)
  rw [h2] at HSEG
  clear h hcv h1 h2 hp
  go_enter Tryd.func62, Tryd.ntmps62
  go_wp2_with fail
  refine HI.out.mono ?_
  rintro e w1 ⟨rfl, rfl⟩
  go_wp2_with fail
  refine HSEG.out.mono ?_
  rintro e w2 ⟨vo, rfl, ho, hf, hn⟩
  have HF := Lib.hid hf
  obtain ⟨A2, c2, rfl, _, _⟩ := ho.form
  have hB := HX.out.cells.nob hf
  have k25 := hB.cell 25
  have q25 := hB.free 25
  simp only [List.getElem?_toArray, List.getElem?_cons_succ, List.getElem?_cons_zero] at k25
  have HB := Lib.hid hB
  clear ho hf hn hB
  go_wp2_with fail
  go_ret
  exact ⟨rfl, HX.out.put HF.out ((Fr.refl (fun k => k = g) _).setCell (p := ⟨g, 25, none⟩) (.inl rfl) _) { s.cur.st with dark := true } rfl rfl (HB.out.set 25 _)⟩
attribute [local go_sem high] field_clips
set_option maxRecDepth 8000 in
set_option maxHeartbeats 1600000 in
theorem gclip_more (g : Nat) (F : Nat → Prop) (s : GS) (eo : Bool) (w : World) (h : Gs w g F s) (h1 : ¬ 16 ≤ s.cur.st.clips.length) (h2 : ¬ s.cur.p.list.length = 0) (hp : PB s.cur.p) (hb : SmallG s.cur.st) :
    Calls Tryd.prog 62 #[.pointer (some ⟨g, 0, none⟩), .bool eo] w fun e w' => e = .returned (.int .i64 0) ∧ GsTo w g F { s with cur := { s.cur with st := { s.cur.st with clips := s.cur.st.clips ++ [⟨s.cur.p.list, eo⟩] } } } w' := by
  obtain ⟨i0, hi, hz0, hz1, hz2⟩ := info_parts infoClip
  obtain ⟨lab, x, sv, xs, h⟩ := h
  have HI := Lib.hid (check_any ⟨g, 0, none⟩ [] (.slice none 0 0) Nob w (RowIn.nil _ _ _))
  rw [show chkI [] = 0 from rfl] at HI
  have c24 : w.cell? ⟨g, 24, none⟩ = some x.cv := h.cells.cell 24
  have c26 : w.cell? ⟨g, 26, none⟩ = some (.pointer (some ⟨x.pg, 0, none⟩)) := h.cells.cell 26
  obtain ⟨A, c, hcv, _, _⟩ := h.c.g.c.form
  rw [hcv] at c24
  have i1 : ¬ (16 : Int) ≤ s.cur.st.clips.length := by omega
  have i2 : ((s.cur.p.list.length : Int) == 0) = false := by simpa using h2
  have hbc : s.cur.st.clips.length ≤ 16 := by omega
  have HX := Lib.hid h
  have HSEG := Lib.hid (seg_any x.pg x.pv s.cur.p w h.c.p hp)
  have HOWN := Lib.hid (fun w' (hf : Fr Nob w w') => own_all s.cur.st x.dv x.cv _ w' (h.c.g.nob hf) hb)
  clear h hcv h1 h2 hp hb
  go_enter Tryd.func62, Tryd.ntmps62
  go_wp2_with fail
  refine HI.out.mono ?_
  rintro e w1 ⟨rfl, rfl⟩
  go_wp2_with fail
  refine HSEG.out.mono ?_
  rintro e w2 ⟨vo, rfl, ho, hf, hn⟩
  have HF := Lib.hid hf
  have HO := Lib.hid ho
  have HN := Lib.hid hn
  obtain ⟨A2, c2, rfl, _, _⟩ := ho.form
  have HB2 := Lib.hid (HX.out.cells.nob hf)
  clear ho hf hn
  go_wp2_with (refine wpList_getAt rfl 79 (.tmp 40) rfl g 0 (by rfl) (encG s.cur.st x.dv x.cv) _ (HB2.out.range 0 _ (by rfl)) Tryd.underlying79 rfl sizeG ?_)
  refine (HOWN.out _ HF.out).mono ?_
  unfold gV
  simp only [encG]
  rintro e w3 ⟨dv', cv', zs, S', rfl, _, hc, hf3⟩
  have HC := Lib.hid hc
  have HF3 := Lib.hid hf3
  obtain ⟨A3, c3, rfl, _, _⟩ := hc.o.form
  have HCO := Lib.hid (hc.o.nob ((Fr.refl Nob w3).alloc (.cells #[.slice A2 s.cur.p.list.length c2, .bool eo] 93)))
  have HNW := Lib.hid (Blk.row (n := 1) (size := 2) (Blk.new w3 #[.slice A2 s.cur.p.list.length c2, .bool eo] 93) rfl (by decide))
  clear hc hf3
  go_wp2_with (at_builtin; refine wpList_app _ rfl (.tmp 43) (.tmp 47) 29 rfl 93 i0 _ 2 32 Tryd.underlying29 hi hz0 hz1 hz2 rfl (by decide) _ s.cur.st.clips.length (encX zs) (by rfl) HCO.out _ _ 1 [.slice A2 s.cur.p.list.length c2, .bool eo] (by rfl) HNW.out (by intro u hu; simp at hu; rcases hu with rfl | rfl <;> rfl) (by unfold maxLen; omega) (by omega) ?_)
  intro v' w4 hown hfr hat
  have HO4 := Lib.hid hown
  have HF4 := Lib.hid hfr
  have HA4 := Lib.hid hat
  have HF14 := Lib.hid (((HF3.out.alloc (.cells #[.slice A2 s.cur.p.list.length c2, .bool eo] 93)).trans hfr fun k hk => .inr (HC.out.n k hk)))
  obtain ⟨A4, c4, rfl, _, _⟩ := hown.form
  have hB4 := HB2.out.nob HF14.out
  have k24 := hB4.cell 24
  have q24 := hB4.free 24
  simp only [List.getElem?_toArray, List.getElem?_cons_succ, List.getElem?_cons_zero] at k24
  have HB4 := Lib.hid hB4
  clear hown hfr hat hB4
  go_wp2_with fail
  go_ret
  have hN4 := HF.out.trans0 HF14.out
  exact ⟨rfl, HX.out.putN hN4 ((Fr.refl (fun k => k = g) _).setCell (p := ⟨g, 24, none⟩) (.inl rfl) _) { s.cur.st with clips := s.cur.st.clips ++ [⟨s.cur.p.list, eo⟩] } x.dv (.slice A4 (s.cur.st.clips.length + 1) c4)
    ⟨(HX.out.c.g.d.nob hN4).mono fun k hk => .inl hk, (OwnC.more (c := ⟨s.cur.p.list, eo⟩) HC.out HO.out HN.out HF.out ((Fr.refl Nob w3).alloc _) HO4.out HF4.out (by simpa using HA4.out)).mono fun k hk => .inr hk⟩ (HB4.out.set 24 _)⟩
theorem gclip_any (g : Nat) (F : Nat → Prop) (s : GS) (eo : Bool) (w : World) (h : Gs w g F s) (hb : SmallG s.cur.st) (hp : PB s.cur.p) :
    Calls Tryd.prog 62 #[.pointer (some ⟨g, 0, none⟩), .bool eo] w fun e w' => e = .returned (.int .i64 (clipF eo s.cur.p s.cur.st).1) ∧ GsTo w g F { s with cur := { s.cur with st := (clipF eo s.cur.p s.cur.st).2 } } w' := by
  unfold clipF
  by_cases h1 : 16 ≤ s.cur.st.clips.length
  · rw [if_pos h1]; exact gclip_full g F s eo w h h1 hb
  · rw [if_neg h1]
    by_cases h2 : s.cur.p.list.length = 0
    · rw [if_pos h2]; exact gclip_dark g F s eo w h h1 h2 hp
    · rw [if_neg h2]; exact gclip_more g F s eo w h h1 h2 hp hb
end Go.Proofs.YtkkejjfmidgciaaDoor
/- The walks of Init, RestoreAll. -/
namespace Go.Proofs.YtkkejjfmidgciaaDoor
open Go.RowKit
set_option linter.unusedVariables false
set_option linter.unusedSimpArgs false
/-- A level anew is the one that is; some of what was saved stays. -/
theorem GsX.fresh {w w1 w' : World} {g : Nat} {F : Nat → Prop} {s : GS} {lab : Nat → Nat} {x x' : LvG} {sv : Value} {xs : List (Lv × LvG)} {l : Lv} {m k : Nat} (h : GsX w g F s lab x sv xs) (hk : k ≤ xs.length) (hN : LvNew w w1 l x' m) (hf : Fr (fun k => k = g) w1 w')
    (hb : Blk w' g (encL l x' ++ [.int .i64 s.most, .int .i64 s.segs, takeV sv k]).toArray 124) : GsTo w g F { s with cur := l, saved := s.saved.take k } w' := by
  have h1 := h.nob hN.f fun _ _ hh => hh
  have hF : Fr F w w' := (hN.f.mono (T := F) fun _ hh => hh.elim).trans hf fun k hk => .inl (hk ▸ h.g1.1)
  have hlt := h.b.lt
  have hz := hf.size
  have hp := hN.p.lt
  have hlo := hN.lo
  have hhi := hN.hi
  obtain ⟨ho, hob⟩ := h1.o.takeV k hk
  rw [encLs_take xs k hk] at ho
  have hof : OwnS w' 121 27 (takeV sv k) k (encLs (xs.take k)) := ho.fr hf fun j hj e => ho.ne h1.b (by decide) j hj e
  have hfl : ∀ i (hi : i < xs.length), LvIn w' (fun k => (F k ∧ lab k = 0) ∧ k < w.heap.size) (fun k => (F k ∧ lab k = i + 3) ∧ k < w.heap.size) xs[i].1 xs[i].2 := fun i hi =>
    ((h.s i hi).lts.fr hN.f (fun _ _ hh => hh) fun _ _ hh => hh).fr hf (fun k hk e => by subst e; have := h.g1.2; have := hk.1.2; omega) fun k hk e => by subst e; have := h.g1.2; have := hk.1.2; omega
  refine ⟨⟨fun k => if k < w.heap.size then (if lab k = 2 then 0 else lab k) else if k < m then 0 else 2, x', takeV sv k, xs.take k, by simp [h.l], hb, ⟨.inl h.g1.1, ?_⟩, by rw [List.length_take, Nat.min_eq_left hk]; exact hof, fun j hj => ?_, ⟨(hN.g.fr hf fun j hj e => ?_).mono fun j hj => ⟨.inr ⟨hj.1, by omega⟩, ?_⟩, hN.p.fr hf fun j hj e => ?_, fun j hj => ⟨.inr ⟨?_, ?_⟩, ?_⟩⟩, fun i hi => ?_⟩, hF⟩
  · simp only [hlt, if_true, h.g1.2]
    rfl
  · rw [hob] at hj
    have h2 := h.o1 j hj
    have h3 := h.o.lt j hj
    exact ⟨.inl h2.1, by simp only [h3, if_true, h2.2]; rfl⟩
  · have := hj.1; subst e; omega
  · rw [if_neg (by omega), if_pos hj.2]
  · have := hN.b j hj; subst e; omega
  · have := hN.b j hj; omega
  · have := hp j hj; omega
  · have := hN.b j hj
    rw [if_neg (by omega), if_neg (by omega)]
  · rw [List.length_take] at hi
    simp only [List.getElem_take]
    refine (hfl i (by omega)).mono (fun k hk => ⟨.inl hk.1.1, ?_⟩) fun k hk _ => ⟨.inl hk.1.1, ?_⟩
    · have := hk.1.2
      simp only [hk.2, if_true]
      rw [if_neg (by omega)]; exact this
    · have := hk.1.2
      simp only [hk.2, if_true]
      rw [if_neg (by omega)]; exact this
def ralF (s : GS) : GS := if h : 0 < s.saved.length then { s with cur := s.saved[0], saved := s.saved.take 1 } else s
set_option maxRecDepth 8000 in
set_option maxHeartbeats 1600000 in
theorem grestall_any (g : Nat) (F : Nat → Prop) (s : GS) (w : World) (h : Gs w g F s) (hb : SmallS s) :
    Calls Tryd.prog 72 #[.pointer (some ⟨g, 0, none⟩)] w fun e w' => e = .returned (.tuple #[]) ∧ GsTo w g F (ralF s) w' := by
  have HD := Lib.hid (gdepth_any g F s w h)
  by_cases h0 : 0 < s.saved.length
  · have HH := Lib.hid h
    obtain ⟨lab, x, sv, xs, h⟩ := h
    have hl := h.len
    have hr : ralF s = { s with cur := (xs[0]'(by omega)).1, saved := s.saved.take 1 } := by
      unfold ralF
      rw [dif_pos h0]
      have e2 : s.saved[0]'(by omega) = (xs[0]'(by omega)).1 := by simp [← h.l]
      simp only [e2]
    rw [hr]
    obtain ⟨i0, hi, hz0, hz1, hz2⟩ := info_parts infoLevel
    obtain ⟨b, cap, hsv, hc1, hc2, hat⟩ := h.at (by omega)
    have HAT := Lib.hid (hat 0 (by omega))
    have HP := Lib.hid (show ∀ (w1 w' : World) (x' : LvG) (m : Nat), LvNew w w1 (xs[0]'(by omega)).1 x' m → Fr (fun k => k = g) w1 w' → Blk w' g (encL (xs[0]'(by omega)).1 x' ++ [Value.int .i64 s.most, Value.int .i64 s.segs, takeV sv 1]).toArray 124 → GsTo w g F { s with cur := (xs[0]'(by omega)).1, saved := s.saved.take 1 } w' from
      fun w1 w' x' m hN hf hb => h.fresh (by omega) hN hf hb)
    have hsm := hb.v (xs[0]'(by omega)).1 (by rw [← h.l]; exact List.mem_map.2 ⟨_, List.getElem_mem _, rfl⟩)
    have HCP := Lib.hid (copied_any (xs[0]'(by omega)).1 (xs[0]'(by omega)).2 _ _ w (h.s 0 (by omega)) hsm.1 hsm.2)
    generalize (xs[0]'(by omega)).1 = lv at *
    generalize (xs[0]'(by omega)).2 = xv at *
    subst hsv
    have HX := Lib.hid h
    have hn := hb.n
    rw [← hl] at HD hn
    have c29 := h.cells.cell 29
    simp only [List.getElem?_toArray, List.getElem?_cons_succ, List.getElem?_cons_zero] at c29
    have i3 : (0 : Int) < xs.length := by omega
    have i5 : 0 < xs.length := by omega
    have i4 : decide (0 < xs.length) = true := by simpa using i5
    clear h h0 hl hr hat hsm hb
    go_enter Tryd.func72, Tryd.ntmps72
    go_wp2_with fail
    refine HD.out.mono ?_
    rintro e w1 ⟨rfl, rfl⟩
    go_wp2_with (refine wpList_getAt rfl 121 (.tmp 10) rfl b (0 * 27) (by rfl) (encL lv xv) _ HAT.out Tryd.underlying121 rfl sizeL ?_)
    refine HCP.out.mono ?_
    unfold encL
    simp only [encG, List.cons_append, List.nil_append]
    rintro e w1 ⟨x', m, rfl, hN⟩
    have HN := Lib.hid hN
    obtain ⟨Ad, cd, hdv, _⟩ := hN.g.d.form
    obtain ⟨Ac, cc, hcv, _⟩ := hN.g.c.form
    have HONE := Lib.hid (encL_one lv x' ⟨_, _, _, hdv⟩ ⟨_, _, _, hcv⟩)
    have HB1 := Lib.hid (HX.out.cells.nob hN.f)
    clear hN hdv hcv
    go_wp2_with (refine wpList_putAt rfl 121 (.tmp 14) (.tmp 12) rfl g 0 (encL lv x') (by rfl) (by rfl) 124 _ HB1.out (show 27 ≤ 30 by omega) sizeL HONE.out ?_)
    intro w2 hb2 hf2
    replace hb2 : Blk w2 g (encL lv x' ++ [Value.int .i64 s.most, Value.int .i64 s.segs, Value.slice (some ⟨b, 0, none⟩) xs.length cap]).toArray 124 := hb2
    have d29 : w2.cell? ⟨g, 29, none⟩ = some (.slice (some ⟨b, 0, none⟩) xs.length cap) := hb2.cell 29
    have q29 := hb2.free 29
    have HB2 := Lib.hid hb2
    have HF2 := Lib.hid hf2
    have hcm : 1 ≤ cap := by omega
    have kt : ∀ w : World, (Instr.slice 122 (.slice (some ⟨b, 0, none⟩) xs.length cap) none (some (.int .i64 1)) none).run Tryd.prog w = .ok (.slice (some ⟨b, 0, none⟩) 1 cap) w := fun w => run_takeV Tryd.underlying122 hi _ xs.length cap 1 (by omega) w
    clear hb2 hf2 c29
    go_wp2_with fail
    go_end0
    exact ⟨rfl, HP.out w1 _ x' m HN.out (HF2.out.setCell (p := ⟨g, 29, none⟩) (.inl rfl) _) (HB2.out.set 29 _)⟩
  · rw [show ralF s = s by unfold ralF; rw [dif_neg h0]]
    have e0 : s.saved.length = 0 := by omega
    rw [e0] at HD
    have HH := Lib.hid h
    clear h h0 e0 hb
    go_enter Tryd.func72, Tryd.ntmps72
    go_wp2_with fail
    refine HD.out.mono ?_
    rintro e w1 ⟨rfl, rfl⟩
    go_wp2_with fail
    go_end0
    exact ⟨rfl, GsTo.same HH.out (Fr.refl _ _)⟩
end Go.Proofs.YtkkejjfmidgciaaDoor
/- The walk of Init. -/
namespace Go.Proofs.YtkkejjfmidgciaaDoor
open Go.RowKit
set_option linter.unusedVariables false
set_option linter.unusedSimpArgs false
def initF (s : GS) : GS := { s with cur := ⟨{ gStart with font := s.cur.st.font, fm := s.cur.st.fm }, ⟨s.segs, [], oo, oo⟩⟩ }
set_option maxRecDepth 8000 in
set_option maxHeartbeats 6400000 in
theorem ginit_any (g : Nat) (F : Nat → Prop) (s : GS) (w : World) (h : Gs w g F s) :
    Calls Tryd.prog 73 #[.pointer (some ⟨g, 0, none⟩)] w fun e w' => e = .returned (.tuple #[]) ∧ GsTo w g F (initF s) w' := by
  obtain ⟨lab, x, sv, xs, h⟩ := h
  have HX := Lib.hid h
  have HC := Lib.hid h.cells
  have hS : ∀ w', Fr Nob w w' → (fun w' => w'.cell? ⟨g, 17, none⟩ = some (.int .i64 s.cur.st.font) ∧ w'.rangeAt g 18 (encM s.cur.st.fm)) w' := fun w' hw' => by
    have hb := h.cells.nob hw'
    exact ⟨hb.cell 17, hb.range 18 _ rfl⟩
  have HS := Lib.hid hS
  have HLT := Lib.hid h.b.lt
  clear h hS
  go_enter Tryd.func73, Tryd.ntmps73
  go_wp2_with fail
  refine (start_any _).mono ?_
  unfold gV
  rintro e w1 ⟨rfl, h1⟩
  have H1 := Lib.hid h1
  have HZ0 := Lib.hid (Blk.new w1 (encG gZero nilV nilV).toArray 79)
  have HF0 := Lib.hid (h1.alloc (.cells (encG gZero nilV nilV).toArray 79))
  have HL1 := Lib.hid h1.size
  clear h1
  go_wp2_with (refine wpList_putAt rfl 79 (.tmp 2) (.tmp 5) rfl w1.heap.size 0 (encG gStart nilV nilV) (by rfl) (by rfl) 79 _ HZ0.out (by decide) sizeG (encG_one _ _ _ ⟨_, _, _, rfl⟩ ⟨_, _, _, rfl⟩) ?_)
  intro wa hba hfa
  rw [over_all (encG gZero nilV nilV).toArray (encG gStart nilV nilV) rfl] at hba
  have HZ := Lib.hid hba
  have HF := Lib.hid (HF0.out.trans hfa fun k hk => .inr (by rw [hk]; exact HL1.out))
  clear hba hfa
  go_wp2_with fail
  refine wp_region_last' (ops := _) (o := _) (l := _) 15 rfl rfl rfl (fun w' => w'.cell? ⟨g, 17, none⟩ = some (.int .i64 s.cur.st.font) ∧ w'.rangeAt g 18 (encM s.cur.st.fm)) (by kernel_rfl) (by kernel_rfl) (HS.out _ HF.out.drew) fun hH => ?_
  simp only [List.take_succ_cons, List.take_zero]
  refine wpAnyH_take (i := 0) (v := ?va1) rfl (by kernel_rfl) (by kernel_rfl) (by kernel_rfl) (fun _ _ _ h => h) (Or.inl ⟨by rfl, ?ha1⟩) hH ?ra1
  case ha1 => (intro w hSw; (try dsimp only at hSw); clear hSw; go_simp; (try with_reducible rfl))
  simp only [Act.put, List.getElem_toArray, List.getElem_cons_succ, List.getElem_cons_zero, List.setIfInBounds_toArray, List.set_cons_zero, List.set_cons_succ]
  refine wpAnyH_take (i := 1) (v := ?va2) rfl (by kernel_rfl) (by kernel_rfl) (by kernel_rfl) (fun _ _ _ h => h) (Or.inl ⟨by rfl, ?ha2⟩) hH ?ra2
  case ha2 => (intro w hSw; (try dsimp only at hSw); clear hSw; go_simp; (try with_reducible rfl))
  simp only [Act.put, List.getElem_toArray, List.getElem_cons_succ, List.getElem_cons_zero, List.setIfInBounds_toArray, List.set_cons_zero, List.set_cons_succ]
  refine wpAnyH_take (i := 2) (v := ?va3) rfl (by kernel_rfl) (by kernel_rfl) (by kernel_rfl) (fun _ _ _ h => h) (Or.inl ⟨by rfl, ?ha3⟩) hH ?ra3
  case ha3 => (intro w hSw; (try dsimp only at hSw); clear hSw; go_simp; (try with_reducible rfl))
  simp only [Act.put, List.getElem_toArray, List.getElem_cons_succ, List.getElem_cons_zero, List.setIfInBounds_toArray, List.set_cons_zero, List.set_cons_succ]
  refine wpAnyH_take (i := 3) (v := ?va4) rfl (by kernel_rfl) (by kernel_rfl) (by kernel_rfl) (fun _ _ _ h => h) (Or.inl ⟨by rfl, ?ha4⟩) hH ?ra4
  case ha4 => (intro w hSw; (try dsimp only at hSw); clear hSw; go_simp; (try with_reducible rfl))
  simp only [Act.put, List.getElem_toArray, List.getElem_cons_succ, List.getElem_cons_zero, List.setIfInBounds_toArray, List.set_cons_zero, List.set_cons_succ]
  refine wpAnyH_take (i := 4) (v := ?va5) rfl (by kernel_rfl) (by kernel_rfl) (by kernel_rfl) (fun _ _ _ h => h) (Or.inl ⟨by rfl, ?ha5⟩) hH ?ra5
  case ha5 => (intro w hSw; (try dsimp only at hSw); clear hSw; go_simp; (try with_reducible rfl))
  simp only [Act.put, List.getElem_toArray, List.getElem_cons_succ, List.getElem_cons_zero, List.setIfInBounds_toArray, List.set_cons_zero, List.set_cons_succ]
  refine wpAnyH_take (i := 5) (v := ?va6) rfl (by kernel_rfl) (by kernel_rfl) (by kernel_rfl) (fun _ _ _ h => h) (Or.inl ⟨by rfl, ?ha6⟩) hH ?ra6
  case ha6 => (intro w hSw; (try dsimp only at hSw); obtain ⟨hSw, _⟩ := hSw; go_simp; (try with_reducible rfl))
  simp only [Act.put, List.getElem_toArray, List.getElem_cons_succ, List.getElem_cons_zero, List.setIfInBounds_toArray, List.set_cons_zero, List.set_cons_succ]
  refine wpAnyH_take (i := 6) (v := ?va7) rfl (by kernel_rfl) (by kernel_rfl) (by kernel_rfl) (fun _ _ _ h => h) (Or.inl ⟨by rfl, ?ha7⟩) hH ?ra7
  case ha7 => (intro w hSw; (try dsimp only at hSw); clear hSw; go_simp; (try with_reducible rfl))
  simp only [Act.put, List.getElem_toArray, List.getElem_cons_succ, List.getElem_cons_zero, List.setIfInBounds_toArray, List.set_cons_zero, List.set_cons_succ]
  refine wpAnyH_take (i := 7) (v := ?va8) rfl (by kernel_rfl) (by kernel_rfl) (by kernel_rfl) (fun _ _ _ h => h) (Or.inl ⟨by rfl, ?ha8⟩) hH ?ra8
  case ha8 => (intro w hSw; (try dsimp only at hSw); clear hSw; go_simp; (try with_reducible rfl))
  simp only [Act.put, List.getElem_toArray, List.getElem_cons_succ, List.getElem_cons_zero, List.setIfInBounds_toArray, List.set_cons_zero, List.set_cons_succ]
  refine wpAnyH_take (i := 8) (v := ?va9) rfl (by kernel_rfl) (by kernel_rfl) (by kernel_rfl) (fun _ _ _ h => h) (Or.inl ⟨by rfl, ?ha9⟩) hH ?ra9
  case ha9 => (intro w hSw; (try dsimp only at hSw); clear hSw; go_simp; (try with_reducible rfl))
  simp only [Act.put, List.getElem_toArray, List.getElem_cons_succ, List.getElem_cons_zero, List.setIfInBounds_toArray, List.set_cons_zero, List.set_cons_succ]
  refine wpAnyH_take (i := 9) (v := ?va10) rfl (by kernel_rfl) (by kernel_rfl) (by kernel_rfl) (fun _ _ _ h => h) (Or.inl ⟨by rfl, ?ha10⟩) hH ?ra10
  case ha10 => (intro w hSw; (try dsimp only at hSw); clear hSw; go_simp; (try with_reducible rfl))
  simp only [Act.put, List.getElem_toArray, List.getElem_cons_succ, List.getElem_cons_zero, List.setIfInBounds_toArray, List.set_cons_zero, List.set_cons_succ]
  refine wpAnyH_take (i := 10) (v := ?va11) rfl (by kernel_rfl) (by kernel_rfl) (by kernel_rfl) (fun _ _ _ h => h) (Or.inl ⟨by rfl, ?ha11⟩) hH ?ra11
  case ha11 => (intro w hSw; (try dsimp only at hSw); clear hSw; go_simp; (try with_reducible rfl))
  simp only [Act.put, List.getElem_toArray, List.getElem_cons_succ, List.getElem_cons_zero, List.setIfInBounds_toArray, List.set_cons_zero, List.set_cons_succ]
  refine wpAnyH_take (i := 11) (v := _) rfl (by kernel_rfl) (by kernel_rfl) (by kernel_rfl) (fun _ _ _ h => h) (yieldsIf_load_mid (by rfl) 33 (.tmp 16) rfl g 18 rfl (encM s.cur.st.fm) _ (fun w hw => hw.2) Tryd.underlying33 rfl sizeM6) hH ?_
  simp only [Act.put, List.getElem_toArray, List.getElem_cons_succ, List.getElem_cons_zero, List.setIfInBounds_toArray, List.set_cons_zero, List.set_cons_succ]
  refine wpAnyH_take (i := 12) (v := ?va13) rfl (by kernel_rfl) (by kernel_rfl) (by kernel_rfl) (fun _ _ _ h => h) (Or.inl ⟨by rfl, ?ha13⟩) hH ?ra13
  case ha13 => (intro w hSw; (try dsimp only at hSw); clear hSw; go_simp; (try with_reducible rfl))
  simp only [Act.put, List.getElem_toArray, List.getElem_cons_succ, List.getElem_cons_zero, List.setIfInBounds_toArray, List.set_cons_zero, List.set_cons_succ]
  refine held_one 13 rfl (by kernel_rfl) rfl fun K hK => ?_
  replace hK := Lib.hid hK
  clear hH
  have q17 := HZ.out.drew.free 17
  have k17 : wa.drew.cell? ⟨w1.heap.size, 17, none⟩ = some (.int .i64 (-1)) := HZ.out.drew.cell 17
  go_simp
  clear q17 k17
  have hH := HS.out (wa.drew.setCell ⟨w1.heap.size, 17, none⟩ (.int .i64 s.cur.st.font)) (HF.out.drew.setCell (p := ⟨w1.heap.size, 17, none⟩) (.inr HL1.out) _)
  refine hK.out _ _ hH ?_
  clear hK K
  refine wpAnyH_take (i := 14) (v := ?va15) rfl (by kernel_rfl) (by kernel_rfl) (by kernel_rfl) (fun _ _ _ h => h) (Or.inl ⟨by rfl, ?ha15⟩) hH ?ra15
  case ha15 => (intro w hSw; (try dsimp only at hSw); clear hSw; go_simp; (try with_reducible rfl))
  simp only [Act.put, List.getElem_toArray, List.getElem_cons_succ, List.getElem_cons_zero, List.setIfInBounds_toArray, List.set_cons_zero, List.set_cons_succ]
  refine wpAnyH_done (by kernel_rfl) ?_ _
  clear hH
  simp only [LastQ, List.getElem_cons_succ, List.getElem_cons_zero]
  refine wp_putAt 33 (.tmp 19) (.tmp 17) rfl w1.heap.size 18 (encM s.cur.st.fm) (by rfl) (by rfl) 79 _ (HZ.out.drew.set 17 (.int .i64 s.cur.st.font)) (show 24 ≤ 26 by omega) sizeM6 (encM_one _) ?_
  intro w2 hb2 hf2
  obtain ⟨st', hst⟩ : ∃ st' : Gst, st' = { gStart with font := s.cur.st.font, fm := s.cur.st.fm } := ⟨_, rfl⟩
  replace hb2 : Blk w2 w1.heap.size (encG { gStart with font := s.cur.st.font, fm := s.cur.st.fm } nilV nilV).toArray 79 := hb2
  rw [← hst] at hb2
  have HST := Lib.hid hst
  have HF2 := Lib.hid (show Fr Nob w w2 from (HF.out.drew.setCell (p := ⟨w1.heap.size, 17, none⟩) (.inr HL1.out) (.int .i64 s.cur.st.font)).trans hf2 fun k hk => .inr (by rw [hk]; exact HL1.out))
  have HS2 := Lib.hid (show ∀ w', Fr Nob w2 w' → (fun w' => w'.rangeAt w1.heap.size 0 (encG st' nilV nilV) ∧ w'.cell? ⟨g, 28, none⟩ = some (.int .i64 s.segs)) w' from fun w' hw' => ⟨(hb2.nob hw').range 0 _ rfl, (HC.out.nob (HF2.out.trans0 hw')).cell 28⟩)
  clear hst hb2 hf2
  go_wp2_with fail
  refine wp_region_last' (ops := _) (o := _) (l := _) 10 rfl rfl rfl (fun w' => w'.rangeAt w1.heap.size 0 (encG st' nilV nilV) ∧ w'.cell? ⟨g, 28, none⟩ = some (.int .i64 s.segs)) (by kernel_rfl) (by kernel_rfl) (HS2.out _ (Fr.refl Nob w2).drew) fun hH => ?_
  simp only [List.take_succ_cons, List.take_zero]
  refine wpAnyH_take (i := 0) (v := ?vb1) rfl (by kernel_rfl) (by kernel_rfl) (by kernel_rfl) (fun _ _ _ h => h) (Or.inl ⟨by rfl, ?hb1⟩) hH ?rb1
  case hb1 => (intro w hSw; (try dsimp only at hSw); clear hSw; go_simp; (try with_reducible rfl))
  simp only [Act.put, List.getElem_toArray, List.getElem_cons_succ, List.getElem_cons_zero, List.setIfInBounds_toArray, List.set_cons_zero, List.set_cons_succ]
  refine wpAnyH_take (i := 1) (v := _) rfl (by kernel_rfl) (by kernel_rfl) (by kernel_rfl) (fun _ _ _ h => h) (yieldsIf_load_mid (by rfl) 79 (.tmp 2) rfl w1.heap.size 0 rfl [.int .i64 st'.ctm.a, .int .i64 st'.ctm.b, .int .i64 st'.ctm.c, .int .i64 st'.ctm.d, .int .i64 st'.ctm.e, .int .i64 st'.ctm.f, .int .i64 st'.col.sp, .int .i64 st'.col.p0, .int .i64 st'.col.p1, .int .i64 st'.col.p2, .int .i64 st'.col.p3, .int .i64 st'.width, .int .i64 st'.cap, .int .i64 st'.join, .int .i64 st'.miter, nilV, .int .i64 st'.phase, .int .i64 st'.font, .int .i64 st'.fm.a, .int .i64 st'.fm.b, .int .i64 st'.fm.c, .int .i64 st'.fm.d, .int .i64 st'.fm.e, .int .i64 st'.fm.f, nilV, .bool st'.dark] _ (fun w hw => hw.1) Tryd.underlying79 rfl sizeG) hH ?_
  simp only [Act.put, List.getElem_toArray, List.getElem_cons_succ, List.getElem_cons_zero, List.setIfInBounds_toArray, List.set_cons_zero, List.set_cons_succ]
  refine wpAnyH_take (i := 2) (v := ?vb3) rfl (by kernel_rfl) (by kernel_rfl) (by kernel_rfl) (fun _ _ _ h => h) (Or.inl ⟨by rfl, ?hb3⟩) hH ?rb3
  case hb3 => (intro w hSw; (try dsimp only at hSw); clear hSw; go_simp; (try with_reducible rfl))
  simp only [Act.put, List.getElem_toArray, List.getElem_cons_succ, List.getElem_cons_zero, List.setIfInBounds_toArray, List.set_cons_zero, List.set_cons_succ]
  refine wpAnyH_take (i := 3) (v := ?vb4) rfl (by kernel_rfl) (by kernel_rfl) (by kernel_rfl) (fun _ _ _ h => h) (Or.inl ⟨by rfl, ?hb4⟩) hH ?rb4
  case hb4 => (intro w hSw; (try dsimp only at hSw); clear hSw; go_simp; (try with_reducible rfl))
  simp only [Act.put, List.getElem_toArray, List.getElem_cons_succ, List.getElem_cons_zero, List.setIfInBounds_toArray, List.set_cons_zero, List.set_cons_succ]
  refine wpAnyH_take (i := 4) (v := ?vb5) rfl (by kernel_rfl) (by kernel_rfl) (by kernel_rfl) (fun _ _ _ h => h) (Or.inl ⟨by rfl, ?hb5⟩) hH ?rb5
  case hb5 => (intro w hSw; (try dsimp only at hSw); clear hSw; go_simp; (try with_reducible rfl))
  simp only [Act.put, List.getElem_toArray, List.getElem_cons_succ, List.getElem_cons_zero, List.setIfInBounds_toArray, List.set_cons_zero, List.set_cons_succ]
  refine wpAnyH_take (i := 5) (v := ?vb6) rfl (by kernel_rfl) (by kernel_rfl) (by kernel_rfl) (fun _ _ _ h => h) (Or.inl ⟨by rfl, ?hb6⟩) hH ?rb6
  case hb6 => (intro w hSw; (try dsimp only at hSw); obtain ⟨_, hSw⟩ := hSw; go_simp; (try with_reducible rfl))
  simp only [Act.put, List.getElem_toArray, List.getElem_cons_succ, List.getElem_cons_zero, List.setIfInBounds_toArray, List.set_cons_zero, List.set_cons_succ]
  refine held_one 6 rfl (by kernel_rfl) rfl fun K hK => ?_
  replace hK := Lib.hid hK
  clear hH
  go_simp
  refine (new_any s.segs _).mono ?_
  rintro e w3 ⟨rfl, hp, hf3⟩
  have HP3 := Lib.hid hp
  have HF3 := Lib.hid (show Fr Nob w2 w3 from Fr.trans0 (by repeat (first | exact Fr.refl _ _ | refine Fr.alloc ?_ _ | refine Fr.drew ?_ | refine Fr.drewN ?_ _)) hf3)
  clear hp hf3
  dsimp only
  have hH := HS2.out w3 HF3.out
  refine hK.out _ _ hH ?_
  clear hK K
  refine wpAnyH_take (i := 7) (v := ?vb8) rfl (by kernel_rfl) (by kernel_rfl) (by kernel_rfl) (fun _ _ _ h => h) (Or.inl ⟨by rfl, ?hb8⟩) hH ?rb8
  case hb8 => (intro w hSw; (try dsimp only at hSw); clear hSw; go_simp; (try with_reducible rfl))
  simp only [Act.put, List.getElem_toArray, List.getElem_cons_succ, List.getElem_cons_zero, List.setIfInBounds_toArray, List.set_cons_zero, List.set_cons_succ]
  refine wpAnyH_take (i := 8) (v := ?vb9) rfl (by kernel_rfl) (by kernel_rfl) (by kernel_rfl) (fun _ _ _ h => h) (Or.inl ⟨by rfl, ?hb9⟩) hH ?rb9
  case hb9 => (intro w hSw; (try dsimp only at hSw); clear hSw; go_simp; (try with_reducible rfl))
  simp only [Act.put, List.getElem_toArray, List.getElem_cons_succ, List.getElem_cons_zero, List.setIfInBounds_toArray, List.set_cons_zero, List.set_cons_succ]
  refine wpAnyH_take (i := 9) (v := ?vb10) rfl (by kernel_rfl) (by kernel_rfl) (by kernel_rfl) (fun _ _ _ h => h) (Or.inl ⟨by rfl, ?hb10⟩) hH ?rb10
  case hb10 => (intro w hSw; (try dsimp only at hSw); clear hSw; go_simp; (try with_reducible rfl))
  simp only [Act.put, List.getElem_toArray, List.getElem_cons_succ, List.getElem_cons_zero, List.setIfInBounds_toArray, List.set_cons_zero, List.set_cons_succ]
  refine wpAnyH_done (by kernel_rfl) ?_ _
  clear hH
  simp only [LastQ, List.getElem_cons_succ, List.getElem_cons_zero]
  refine wp_putAt 121 (.tmp 29) (.tmp 27) rfl g 0 (encL ⟨st', ⟨s.segs, [], oo, oo⟩⟩ ⟨nilV, nilV, nilV, w2.heap.size⟩) (by rfl) (by rfl) 124 _ (HC.out.nob (HF2.out.trans0 HF3.out)) (show 27 ≤ 30 by omega) sizeL (encL_one _ _ ⟨_, _, _, rfl⟩ ⟨_, _, _, rfl⟩) ?_
  intro w4 hb4 hf4
  have HB4 := Lib.hid hb4
  have HF4 := Lib.hid hf4
  clear hb4 hf4
  go_wp2_with fail
  go_end0
  have hst := HST.out
  have z1 := HF2.out.size
  have z2 : w2.heap.size < w3.heap.size := HP3.out.1.lt
  have hN : LvNew w w3 ⟨st', ⟨s.segs, [], oo, oo⟩⟩ ⟨nilV, nilV, nilV, w2.heap.size⟩ w2.heap.size :=
    ⟨z1, by omega, ⟨by rw [hst]; exact RowIn.nil _ _ _, by rw [hst]; exact Clps.nil _ _⟩, HP3.out, fun k hk => by
      rcases hk with rfl | hk
      · exact Nat.le_refl _
      · simp [nilV, Value.ownBlock] at hk, HF2.out.trans0 HF3.out⟩
  have e1 : takeV sv xs.length = sv := by
    obtain ⟨A, c, hv, _⟩ := HX.out.o.form
    rw [hv]; rfl
  have e2 : s.saved.take xs.length = s.saved := by rw [HX.out.len, List.take_length]
  have := HX.out.fresh (k := xs.length) (Nat.le_refl _) hN HF4.out (by rw [e1]; exact HB4.out)
  rw [e2] at this
  unfold initF
  rw [← hst]
  exact ⟨rfl, this⟩
end Go.Proofs.YtkkejjfmidgciaaDoor
