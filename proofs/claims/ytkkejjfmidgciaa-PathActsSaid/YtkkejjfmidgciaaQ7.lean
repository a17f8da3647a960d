/-
  The walks of the reference's Line, Curve, Close; of the path's Copy.
-/
import Derived.Test.YtkkejjfmidgciaaQ6
namespace Go.Proofs.Ytkkejjfmidgciaa
open Go.RowKit
set_option linter.unusedVariables false
set_option linter.unusedSimpArgs false
/-- The bounds of the reference's calls. -/
structure RB (most : Int) (l : List Sg) : Prop where
  m : -9223372036854775808 ≤ most ∧ most ≤ 9223372036854775807
  l : l.length ≤ 1000000000
theorem rdraw_any (S : Nat → Prop) (g o : Nat) (v : Value) (most : Int) (l : List Sg) (s : Sg) (w : World) (h : Rq w S g o v most l) (hb : RB most l) :
    Calls Try.prog 67 #[.pointer (some ⟨g, o, none⟩), sgV s] w fun e w' => e = .returned (.int .i64 (rDraw most l s).1) ∧ RqTo w S g o (rDraw most l s).2 w' := by
  unfold rDraw
  rcases Nat.eq_zero_or_pos l.length with h0 | h0
  · rw [if_pos h0]
    exact (rdraw_none S g o v most l s w h h0).mono fun e w' ⟨he, hf⟩ => ⟨he, RqTo.same h hf⟩
  · rw [if_neg (show ¬ l.length = 0 by omega)]
    by_cases h4 : lastK l = 4
    · rw [if_pos h4]
      by_cases h2 : most < l.length + 2
      · rw [if_pos h2]
        exact (rdraw_two_full S g o v most l s w h hb.m hb.l h0 h4 h2).mono fun e w' ⟨he, hf⟩ => ⟨he, RqTo.same h hf⟩
      · rw [if_neg h2]
        exact rdraw_two_more S g o v most l s w h hb.m hb.l h0 h4 h2
    · rw [if_neg h4]
      by_cases h2 : most < l.length + 1
      · rw [if_pos h2]
        exact (rdraw_one_full S g o v most l s w h hb.m hb.l h0 h4 h2).mono fun e w' ⟨he, hf⟩ => ⟨he, RqTo.same h hf⟩
      · rw [if_neg h2]
        exact rdraw_one_more S g o v most l s w h hb.m hb.l h0 h4 h2
set_option maxRecDepth 8000 in
set_option maxHeartbeats 1600000 in
theorem rline_any (S : Nat → Prop) (g o : Nat) (v : Value) (most : Int) (l : List Sg) (a : Pt) (w : World) (h : Rq w S g o v most l) (hb : RB most l) :
    Calls Try.prog 46 #[.pointer (some ⟨g, o, none⟩), ptV a] w fun e w' => e = .returned (.int .i64 (rLine most l a).1) ∧ RqTo w S g o (rLine most l a).2 w' := by
  obtain ⟨wa, hwa⟩ : ∃ wa, w.alloc (.cells #[.int .i64 a.x, .int .i64 a.y] 23) = wa := ⟨_, rfl⟩
  have hfa : Fr Nob w wa := by rw [← hwa]; exact (Fr.refl Nob w).alloc _
  have hbk : Blk wa w.heap.size #[.int .i64 a.x, .int .i64 a.y] 23 := by rw [← hwa]; exact Blk.new w _ _
  have y0 := hbk.cell 0
  have y1 := hbk.cell 1
  simp only [List.getElem?_toArray, List.getElem?_cons_succ, List.getElem?_cons_zero] at y0 y1
  have HFA := Lib.hid hfa
  have HR := Lib.hid (h.nob hfa)
  have HH := Lib.hid h
  have HB := Lib.hid hb
  clear h hfa hb hbk
  obtain ⟨r, hr⟩ : ∃ r, rLine most l a = r := ⟨_, rfl⟩
  rw [hr]
  unfold ptV
  cases hf : fitP a with
  | true =>
    have hr2 : rDraw most l (lineS a) = r := by rw [← hr]; unfold rLine; rw [if_pos hf]
    have HR2 := Lib.hid hr2
    have E1 := Lib.hid hf
    clear hr hr2 hf
    go_enter Try.func46, Try.ntmps46
    go_wp2_with fail
    refine (fitp_any a wa).mono ?_
    rw [E1.out]
    rintro e w1 ⟨rfl, hf1⟩
    have z0 := cell_nob y0 hf1
    have z1 := cell_nob y1 hf1
    have H1 := Lib.hid hf1
    clear hf1 y0 y1
    go_wp2_with fail
    refine (rdraw_any S g o v most l (lineS a) w1 (HR.out.nob H1.out) HB.out).mono ?_
    rw [HR2.out]
    rintro e w2 ⟨rfl, hq⟩
    have HQ := Lib.hid (hq.after (HFA.out.trans0 H1.out))
    clear hq
    go_wp2_with fail
    go_ret
    exact ⟨rfl, HQ.out⟩
  | false =>
    have hr2 : (11, l) = r := by rw [← hr]; unfold rLine; rw [if_neg (by rw [hf]; simp)]
    subst hr2
    have E1 := Lib.hid hf
    clear hr hf
    go_enter Try.func46, Try.ntmps46
    go_wp2_with fail
    refine (fitp_any a wa).mono ?_
    rw [E1.out]
    rintro e w1 ⟨rfl, hf1⟩
    have H1 := Lib.hid (HFA.out.trans0 hf1)
    clear hf1
    go_wp2_with fail
    go_ret
    exact ⟨rfl, RqTo.same HH.out H1.out⟩
set_option maxRecDepth 8000 in
set_option maxHeartbeats 3200000 in
theorem rcurve_any (S : Nat → Prop) (g o : Nat) (v : Value) (most : Int) (l : List Sg) (a b c : Pt) (w : World) (h : Rq w S g o v most l) (hb : RB most l) :
    Calls Try.prog 47 #[.pointer (some ⟨g, o, none⟩), ptV a, ptV b, ptV c] w fun e w' => e = .returned (.int .i64 (rCurve most l a b c).1) ∧ RqTo w S g o (rCurve most l a b c).2 w' := by
  obtain ⟨wa, hwa⟩ : ∃ wa, ((w.alloc (.cells #[.int .i64 a.x, .int .i64 a.y] 23)).alloc (.cells #[.int .i64 b.x, .int .i64 b.y] 23)).alloc (.cells #[.int .i64 c.x, .int .i64 c.y] 23) = wa := ⟨_, rfl⟩
  have hfa : Fr Nob w wa := by rw [← hwa]; exact (((Fr.refl Nob w).alloc _).alloc _).alloc _
  have hb0 : Blk wa w.heap.size #[.int .i64 a.x, .int .i64 a.y] 23 := by rw [← hwa]; exact ((Blk.new w _ _).alloc _).alloc _
  have hb1 : Blk wa (w.heap.size + 1) #[.int .i64 b.x, .int .i64 b.y] 23 := by rw [← hwa]; exact (Blk.new1 w _ _ _).alloc _
  have hb2 : Blk wa (w.heap.size + 2) #[.int .i64 c.x, .int .i64 c.y] 23 := by rw [← hwa]; exact Blk.new2 w _ _ _ _
  have y0 := hb0.cell 0
  have y1 := hb0.cell 1
  have y2 := hb1.cell 0
  have y3 := hb1.cell 1
  have y4 := hb2.cell 0
  have y5 := hb2.cell 1
  simp only [List.getElem?_toArray, List.getElem?_cons_succ, List.getElem?_cons_zero] at y0 y1 y2 y3 y4 y5
  have HFA := Lib.hid hfa
  have HR := Lib.hid (h.nob hfa)
  have HH := Lib.hid h
  have HB := Lib.hid hb
  have HY : Hid (∀ w', Fr Nob wa w' → w'.cell? ⟨w.heap.size, 0, none⟩ = some (.int .i64 a.x) ∧ w'.cell? ⟨w.heap.size, 1, none⟩ = some (.int .i64 a.y) ∧ w'.cell? ⟨w.heap.size + 1, 0, none⟩ = some (.int .i64 b.x) ∧ w'.cell? ⟨w.heap.size + 1, 1, none⟩ = some (.int .i64 b.y) ∧ w'.cell? ⟨w.heap.size + 2, 0, none⟩ = some (.int .i64 c.x) ∧ w'.cell? ⟨w.heap.size + 2, 1, none⟩ = some (.int .i64 c.y)) :=
    fun w' hw' => ⟨cell_nob y0 hw', cell_nob y1 hw', cell_nob y2 hw', cell_nob y3 hw', cell_nob y4 hw', cell_nob y5 hw'⟩
  clear h hfa hb hb0 hb1 hb2
  obtain ⟨r, hr⟩ : ∃ r, rCurve most l a b c = r := ⟨_, rfl⟩
  rw [hr]
  unfold ptV
  have hall : [a, b, c].all fitP = (fitP a && (fitP b && fitP c)) := by simp
  rcases Bool.eq_false_or_eq_true (fitP a) with ha | ha
  · rcases Bool.eq_false_or_eq_true (fitP b) with hb | hb
    · rcases Bool.eq_false_or_eq_true (fitP c) with hc | hc
      · have HR2 := Lib.hid (show rDraw most l ⟨3, a, b, c⟩ = r by rw [← hr]; unfold rCurve; rw [if_pos (by rw [hall, ha, hb, hc]; rfl)])
        have E0 := Lib.hid ha
        have E1 := Lib.hid hb
        have E2 := Lib.hid hc
        clear hr hall ha hb hc y0 y1 y2 y3 y4 y5
        obtain ⟨z0, z1, z2, z3, z4, z5⟩ := HY.out wa (Fr.refl _ _)
        go_enter Try.func47, Try.ntmps47
        go_wp2_with fail
        refine (fitp_any a wa).mono ?_
        rw [E0.out]
        rintro e w1 ⟨rfl, hf1⟩
        have H1 := Lib.hid hf1
        clear hf1
        obtain ⟨z0, z1, z2, z3, z4, z5⟩ := HY.out w1 H1.out
        go_wp2_with fail
        refine (fitp_any b w1).mono ?_
        rw [E1.out]
        rintro e w2 ⟨rfl, hf1⟩
        have H2 := Lib.hid (H1.out.trans0 hf1)
        clear hf1
        obtain ⟨z0, z1, z2, z3, z4, z5⟩ := HY.out w2 H2.out
        go_wp2_with fail
        refine (fitp_any c w2).mono ?_
        rw [E2.out]
        rintro e w3 ⟨rfl, hf1⟩
        have H3 := Lib.hid (H2.out.trans0 hf1)
        clear hf1
        obtain ⟨z0, z1, z2, z3, z4, z5⟩ := HY.out w3 H3.out
        go_wp2_with fail
        refine (rdraw_any S g o v most l ⟨3, a, b, c⟩ w3 (HR.out.nob H3.out) HB.out).mono ?_
        rw [HR2.out]
        rintro e w4 ⟨rfl, hq⟩
        have HQ := Lib.hid (hq.after (HFA.out.trans0 H3.out))
        clear hq
        go_wp2_with fail
        go_ret
        exact ⟨rfl, HQ.out⟩
      · obtain rfl : (11, l) = r := (by rw [← hr]; unfold rCurve; rw [if_neg (by rw [hall, ha, hb, hc]; simp)])
        have E0 := Lib.hid ha
        have E1 := Lib.hid hb
        have E2 := Lib.hid hc
        clear hr hall ha hb hc y0 y1 y2 y3 y4 y5
        obtain ⟨z0, z1, z2, z3, z4, z5⟩ := HY.out wa (Fr.refl _ _)
        go_enter Try.func47, Try.ntmps47
        go_wp2_with fail
        refine (fitp_any a wa).mono ?_
        rw [E0.out]
        rintro e w1 ⟨rfl, hf1⟩
        have H1 := Lib.hid hf1
        clear hf1
        obtain ⟨z0, z1, z2, z3, z4, z5⟩ := HY.out w1 H1.out
        go_wp2_with fail
        refine (fitp_any b w1).mono ?_
        rw [E1.out]
        rintro e w2 ⟨rfl, hf1⟩
        have H2 := Lib.hid (H1.out.trans0 hf1)
        clear hf1
        obtain ⟨z0, z1, z2, z3, z4, z5⟩ := HY.out w2 H2.out
        go_wp2_with fail
        refine (fitp_any c w2).mono ?_
        rw [E2.out]
        rintro e w3 ⟨rfl, hf1⟩
        have H3 := Lib.hid (H2.out.trans0 hf1)
        clear hf1
        obtain ⟨z0, z1, z2, z3, z4, z5⟩ := HY.out w3 H3.out
        go_wp2_with fail
        go_ret
        exact ⟨rfl, RqTo.same HH.out (HFA.out.trans0 H3.out)⟩
    · obtain rfl : (11, l) = r := (by rw [← hr]; unfold rCurve; rw [if_neg (by rw [hall, ha, hb]; simp)])
      have E0 := Lib.hid ha
      have E1 := Lib.hid hb
      clear hr hall ha hb y0 y1 y2 y3 y4 y5
      obtain ⟨z0, z1, z2, z3, z4, z5⟩ := HY.out wa (Fr.refl _ _)
      go_enter Try.func47, Try.ntmps47
      go_wp2_with fail
      refine (fitp_any a wa).mono ?_
      rw [E0.out]
      rintro e w1 ⟨rfl, hf1⟩
      have H1 := Lib.hid hf1
      clear hf1
      obtain ⟨z0, z1, z2, z3, z4, z5⟩ := HY.out w1 H1.out
      go_wp2_with fail
      refine (fitp_any b w1).mono ?_
      rw [E1.out]
      rintro e w2 ⟨rfl, hf1⟩
      have H2 := Lib.hid (H1.out.trans0 hf1)
      clear hf1
      obtain ⟨z0, z1, z2, z3, z4, z5⟩ := HY.out w2 H2.out
      go_wp2_with fail
      go_ret
      exact ⟨rfl, RqTo.same HH.out (HFA.out.trans0 H2.out)⟩
  · obtain rfl : (11, l) = r := (by rw [← hr]; unfold rCurve; rw [if_neg (by rw [hall, ha]; simp)])
    have E0 := Lib.hid ha
    clear hr hall ha y0 y1 y2 y3 y4 y5
    obtain ⟨z0, z1, z2, z3, z4, z5⟩ := HY.out wa (Fr.refl _ _)
    go_enter Try.func47, Try.ntmps47
    go_wp2_with fail
    refine (fitp_any a wa).mono ?_
    rw [E0.out]
    rintro e w1 ⟨rfl, hf1⟩
    have H1 := Lib.hid hf1
    clear hf1
    obtain ⟨z0, z1, z2, z3, z4, z5⟩ := HY.out w1 H1.out
    go_wp2_with fail
    go_ret
    exact ⟨rfl, RqTo.same HH.out (HFA.out.trans0 H1.out)⟩
set_option maxRecDepth 8000 in
set_option maxHeartbeats 3200000 in
theorem rclose_any (S : Nat → Prop) (g o : Nat) (v : Value) (most : Int) (l : List Sg) (w : World) (h : Rq w S g o v most l) (hb : RB most l) :
    Calls Try.prog 48 #[.pointer (some ⟨g, o, none⟩)] w fun e w' => e = .returned (.int .i64 (rClose most l).1) ∧ RqTo w S g o (rClose most l).2 w' := by
  obtain ⟨i0, hi, hz0, hz1, hz2⟩ := info_parts info43
  replace hi := Lib.hid hi
  replace hz0 := Lib.hid hz0
  replace hz1 := Lib.hid hz1
  replace hz2 := Lib.hid hz2
  have c0 := h.c0
  have c1 := h.c1
  have f1 := h.f1
  obtain ⟨A, cap, rfl, ha1, ha2⟩ := h.row.form
  have x1 := hb.m.1
  have x2 := hb.m.2
  have hlen := hb.l
  have hgl := h.lt
  have HH := Lib.hid h
  obtain ⟨n, hn⟩ : ∃ n, n = l.length := ⟨_, rfl⟩
  have HN := Lib.hid hn
  rw [← hn] at c1
  have HG : Hid (∀ w', Fr Nob w w' → w'.cell? ⟨g, o + 1, none⟩ = some (.slice A n cap) ∧ w'.frozen? ⟨g, o + 1, none⟩ = false ∧ RowIn w' S 7 (.slice A n cap) n (encSs l)) := by
    intro w' hw'
    have hr := h.nob hw'
    rw [← hn] at hr
    exact ⟨hr.c1, hr.f1, by have := hr.row; rwa [← hn] at this⟩
  obtain ⟨r, hr⟩ : ∃ r, rClose most l = r := ⟨_, rfl⟩
  rw [hr]
  have hnl : n ≤ 1000000000 := by omega
  rcases Nat.eq_zero_or_pos l.length with h0 | h0
  · obtain rfl : (0, l) = r := by rw [← hr]; unfold rClose; rw [if_pos (.inl h0)]
    have hn0 : n ≤ 0 := by omega
    have e2 : ((n : Int) == 0) = true := by simp; omega
    clear h hb hr h0 hn
    go_enter Try.func48, Try.ntmps48
    go_wp2_with fail
    go_ret
    exact ⟨rfl, RqTo.same HH.out (Fr.refl _ _)⟩
  obtain ⟨m, hm⟩ : ∃ m, m = n - 1 := ⟨_, rfl⟩
  have hk := lastK_getD l
  obtain ⟨b, off, kd, hA, hkd, hc⟩ : ∃ b off kd, A = some ⟨b, off, none⟩ ∧ kd = lastK l ∧ w.cell? ⟨b, off + m * 7, none⟩ = some (.int .i64 kd) := by
    obtain ⟨b, off, cap', hv, _, _, _, hc⟩ := h.row.sg h0
    cases hv
    have hs := hc m (by omega)
    refine ⟨b, off, _, rfl, ?_, hs.c0⟩
    rw [hk, getD_at (by omega)]
    congr 1
    congr 1
    omega
  subst hA
  have e0 : (n : Int) - 1 = m := by omega
  have i1 : (m : Int) < n := by omega
  have i0' : (0 : Int) ≤ m := by omega
  have wm : IntKind.i64.wrap (m : Int) = m := IntWalk.i64_in _ (by omega)
  have wn : IntKind.i64.wrap ((n : Int) + 1) = (n : Int) + 1 := IntWalk.i64_in _ (by omega)
  have e2 : ((n : Int) == 0) = false := by simp; omega
  by_cases h4 : lastK l = 4
  · obtain rfl : (0, l) = r := by rw [← hr]; unfold rClose; rw [if_pos (.inr h4)]
    rw [h4] at hkd
    subst hkd
    clear h hb hr h0 hn hm hk h4
    go_enter Try.func48, Try.ntmps48
    go_wp2_with fail
    go_ret
    exact ⟨rfl, RqTo.same HH.out (Fr.refl _ _)⟩
  have q4 : (kd == (4 : Int)) = false := by rw [hkd]; simpa using h4
  by_cases h2 : most < l.length + 1
  · obtain rfl : (9, l) = r := by rw [← hr]; unfold rClose; rw [if_neg (by rintro (e | e); omega; exact h4 e), if_pos h2]
    have d1 : decide (most < (n : Int) + 1) = true := by simp; omega
    clear h hb hr h0 hn hm hk h4 hkd h2
    go_enter Try.func48, Try.ntmps48
    go_wp2_with fail
    go_ret
    exact ⟨rfl, RqTo.same HH.out (Fr.refl _ _)⟩
  · obtain rfl : (0, l ++ [closeS]) = r := by rw [← hr]; unfold rClose; rw [if_neg (by rintro (e | e); omega; exact h4 e), if_neg h2]
    have d1 : decide (most < (n : Int) + 1) = false := by simp; omega
    have KR := Lib.hid (HG.out _ ((Fr.refl Nob w).alloc (.cells #[] 43))).2.2
    clear h hb hr h0 hn hm hk h4 hkd h2
    go_enter Try.func48, Try.ntmps48
    go_wp2_with (at_builtin; refine wpList_app0 _ rfl (.tmp 31) (.tmp 35) 32 rfl 43 i0 _ 7 56 Try.underlying32 hi.out hz0.out hz1.out hz2.out rfl (by decide) w.heap.size rfl (Blk.new w _ _) S _ n (encSs l) rfl KR.out (encSs_one _) (by unfold maxLen; omega) (by omega) ?_)
    intro v1 w2 ho hfr hat
    have H4 := Lib.hid (((Fr.refl Nob w).alloc (.cells #[] 43)).trans0 hfr)
    have HN1 := Lib.hid (show NewV w v1 from fun b hb => by rcases hat with h | h <;> rw [h] at hb <;> cases hb <;> first | omega | (simp; done) | (simp; omega))
    have HO1 := Lib.hid ho
    clear c1 f1
    obtain ⟨c1, f1, _⟩ := HG.out _ H4.out
    obtain ⟨A1, cap1, rfl, _, _⟩ := ho.form
    have hf5 : Fr Nob w2 (w2.alloc (.cells #[.int .i64 4, .int .i64 0, .int .i64 0, .int .i64 0, .int .i64 0, .int .i64 0, .int .i64 0] 43)) := (Fr.refl Nob w2).alloc _
    have HB5 := Lib.hid (show Blk (w2.alloc (.cells #[.int .i64 4, .int .i64 0, .int .i64 0, .int .i64 0, .int .i64 0, .int .i64 0, .int .i64 0] 43)) w2.heap.size (encSs [closeS]).toArray 43 from Blk.new w2 _ _)
    have HO5 := Lib.hid (HO1.out.nob hf5)
    have H5 := Lib.hid (H4.out.trans0 hf5)
    clear ho hfr hat hf5
    go_wp2_with (at_builtin; refine wpList_app _ rfl (.tmp 36) (.tmp 38) 32 rfl 43 i0 _ 7 56 Try.underlying32 hi.out hz0.out hz1.out hz2.out rfl (by decide) _ n (encSs l) (by rfl) HO5.out _ _ 1 (encSs [closeS]) (by rfl) (HB5.out.sgs2 (n := 1) rfl (by simp)) (encSs_one _) (by unfold maxLen; omega) (by omega) ?_)
    intro v3 w3 ho hfr hat
    have H6 := Lib.hid (fr_of_app hfr H5.out HN1.out)
    have HN3 := Lib.hid (new_of_app (by simpa using hat) H5.out HN1.out)
    have HO3 := Lib.hid ho
    obtain ⟨A3, cap3, rfl, _, _⟩ := ho.form
    clear c1 f1
    obtain ⟨c1, f1, _⟩ := HG.out _ H6.out
    clear ho hfr hat
    go_wp2_with fail
    go_ret
    exact ⟨rfl, RqTo.put (l := l ++ [closeS]) H6.out HO3.out (by simp [HN.out]) (by simp [encSs_append]) HN3.out⟩
end Go.Proofs.Ytkkejjfmidgciaa
