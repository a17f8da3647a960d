/-
  Texts joined in build order: The walk of the reference's Move, further. The walk of Clip. The walks of Init, RestoreAll. The walk of Init.
-/
import Derived.Test.YtkkejjfmidgciaaDoorJSNone11
/- The walk of the reference's Move, further. -/
namespace Go.Proofs.YtkkejjfmidgciaaDoor
open Go.RowKit
set_option linter.unusedVariables false
set_option linter.unusedSimpArgs false
set_option maxRecDepth 8000 in
set_option maxHeartbeats 6400000 in
theorem rmove_last (S : Nat → Prop) (g o : Nat) (v : Value) (most : Int) (l : List Sg) (a : Pt) (w : World) (h : Rq w S g o v most l) (hmo : -9223372036854775808 ≤ most ∧ most ≤ 9223372036854775807) (hlen : l.length ≤ 1000000000)
    (hf : fitP a = true) (h1 : lastK l = 1) :
    Calls Tryd.prog 65 #[.pointer (some ⟨g, o, none⟩), ptV a] w fun e w' => e = .returned (.int .i64 0) ∧ RqTo w S g o (l.take (l.length - 1) ++ [moveS a]) w' := by
  obtain ⟨i0, hi, hz0, hz1, hz2⟩ := info_parts info43
  replace hi := Lib.hid hi
  replace hz0 := Lib.hid hz0
  replace hz1 := Lib.hid hz1
  replace hz2 := Lib.hid hz2
  obtain ⟨wa, hwa⟩ : ∃ wa, w.alloc (.cells #[.int .i64 a.x, .int .i64 a.y] 56) = wa := ⟨_, rfl⟩
  have hfa : Fr Nob w wa := by rw [← hwa]; exact (Fr.refl Nob w).alloc _
  have hb : Blk wa w.heap.size #[.int .i64 a.x, .int .i64 a.y] 56 := by rw [← hwa]; exact Blk.new w _ _
  have y0 := hb.cell 0
  have y1 := hb.cell 1
  simp only [List.getElem?_toArray, List.getElem?_cons_succ, List.getElem?_cons_zero] at y0 y1
  have HFA := Lib.hid hfa
  have HR := Lib.hid (h.nob hfa)
  have E1 := Lib.hid hf
  obtain ⟨A, cap, rfl, ha1, ha2⟩ := h.row.form
  have hk := lastK_getD l
  clear h hfa hb hf
  have x1 := hmo.1
  have x2 := hmo.2
  clear hmo
  obtain ⟨n, hn⟩ : ∃ n, n = l.length := ⟨_, rfl⟩
  have HN := Lib.hid hn
  have h0 : 0 < l.length := by
    rcases Nat.eq_zero_or_pos l.length with e | e
    · rw [lastK_zero _ e] at h1; omega
    · exact e
  obtain ⟨m, hm⟩ : ∃ m, m = l.length - 1 := ⟨_, rfl⟩
  obtain ⟨b, off, hA, hc⟩ : ∃ b off, A = some ⟨b, off, none⟩ ∧ ∀ w', Fr Nob wa w' → w'.cell? ⟨b, off + m * 7, none⟩ = some (.int .i64 1) := by
    obtain ⟨b, off, cap', hv, _, _, _, hc⟩ := HR.out.row.sg h0
    cases hv
    have hs := hc m (by omega)
    refine ⟨b, off, rfl, fun w' hw' => ?_⟩
    have e1 := cell_nob hs.c0 hw'
    rw [hk, getD_at (by omega)] at h1
    have e : l[l.length - 1]'(by omega) = l[m]'(by omega) := by congr 1; omega
    rw [e] at h1
    rwa [h1] at e1
  subst hA
  rw [← hm]
  have HM := Lib.hid (show (l.take m).length = m by simp; omega)
  have hml : m ≤ l.length := by omega
  have e0 : (n : Int) - 1 = m := by omega
  have i1 : (m : Int) < n := by omega
  have i0' : (0 : Int) ≤ m := by omega
  have i3 : (m : Int) ≤ cap := by omega
  have wm : IntKind.i64.wrap (m : Int) = m := IntWalk.i64_in _ (by omega)
  have dn : decide (0 < n) = true := decide_eq_true (by omega)
  have hcut := fun w => run_takeV (P := Tryd.prog) Tryd.underlying25 hi.out (some ⟨b, off, none⟩) n cap m (by omega) w
  have hmn : m ≤ 1000000000 := by omega
  unfold takeV at hcut
  simp only at hcut
  clear hk h1 hm h0
  have hnl : n ≤ 1000000000 := by omega
  clear hn
  go_enter Tryd.func65, Tryd.ntmps65
  unfold ptV
  go_wp2_with fail
  refine (fitp_any a wa).mono ?_
  rw [E1.out]
  rintro e w1 ⟨rfl, hf1⟩
  have z0 := cell_nob y0 hf1
  have z1 := cell_nob y1 hf1
  have hr1 := HR.out.nob hf1
  have c1 := hr1.c1
  rw [← HN.out] at c1
  have H1 := Lib.hid hf1
  clear hr1 y0 y1 hf1
  have hfq : Fr Nob w1 (w1.alloc (.cells #[.int .i64 1, .int .i64 a.x, .int .i64 a.y, .int .i64 0, .int .i64 0, .int .i64 0, .int .i64 0] 91)) := (Fr.refl Nob w1).alloc _
  have hbq : Blk (w1.alloc (.cells #[.int .i64 1, .int .i64 a.x, .int .i64 a.y, .int .i64 0, .int .i64 0, .int .i64 0, .int .i64 0] 91)) w1.heap.size (encS (moveS a)).toArray 91 := Blk.new w1 _ _
  have HQ := Lib.hid (H1.out.trans0 hfq)
  have HW := Lib.hid (HFA.out.trans0 HQ.out)
  have hrq := HR.out.nob HQ.out
  have q0 := hrq.c0
  have q1 := hrq.c1
  rw [← HN.out] at q1
  have f1 := hrq.f1
  have HRQ := Lib.hid hrq
  have HBQ := Lib.hid hbq
  have hrow := hrq.row
  rw [← HN.out] at hrow
  have HROW := Lib.hid (show RowIn _ S 7 (.slice (some ⟨b, off, none⟩) m cap) m (encSs (l.take m)) by have := cutRow hrq.row hml; rwa [HM.out] at this)
  -- what the loads read
  have hS : ∀ w', Fr Nob (w1.alloc (.cells #[.int .i64 1, .int .i64 a.x, .int .i64 a.y, .int .i64 0, .int .i64 0, .int .i64 0, .int .i64 0] 91)) w' → w'.cell? ⟨g, o + 1, none⟩ = some (.slice (some ⟨b, off, none⟩) n cap) ∧ w'.frozen? ⟨g, o + 1, none⟩ = false ∧ w'.cell? ⟨w1.heap.size, 0, none⟩ = some (.int .i64 1) ∧ w'.cell? ⟨w1.heap.size, 1, none⟩ = some (.int .i64 a.x) ∧ w'.cell? ⟨w1.heap.size, 2, none⟩ = some (.int .i64 a.y) ∧ w'.cell? ⟨w1.heap.size, 3, none⟩ = some (.int .i64 0) ∧ w'.cell? ⟨w1.heap.size, 4, none⟩ = some (.int .i64 0) ∧ w'.cell? ⟨w1.heap.size, 5, none⟩ = some (.int .i64 0) ∧ w'.cell? ⟨w1.heap.size, 6, none⟩ = some (.int .i64 0) := fun w' hw' => by
    have hr := HRQ.out.nob hw'
    have hc1 := hr.c1
    rw [← HN.out] at hc1
    have hb := SgAt.own (HBQ.out.nob hw')
    exact ⟨hc1, hr.f1, hb.c0, hb.c1, hb.c2, hb.c3, hb.c4, hb.c5, hb.c6⟩
  have HS := Lib.hid hS
  clear hfq hbq hrq hS hrow
  have hc1 := hc _ HQ.out
  clear hc
  go_wp2_with fail
  generalize (w1.alloc (.cells #[.int .i64 1, .int .i64 a.x, .int .i64 a.y, .int .i64 0, .int .i64 0, .int .i64 0, .int .i64 0] 91)) = wq at *
  clear z0 z1 c1 q0 q1 f1 hc1 dn
  obtain ⟨p0, p1, p2, p3, p4, p5, p6, p7, p8⟩ := HS.out wq (Fr.refl _ _)
  have ng1 : g < wq.heap.size := HRQ.out.lt
  have ng2 : g < wq.heap.size + 1 := by omega
  have nw1 : w1.heap.size < wq.heap.size := HBQ.out.lt
  have nw2 : w1.heap.size < wq.heap.size + 1 := by omega
  go_region_law
    ((first
      | (refine step_app0 _ rfl (.tmp 33) (.tmp 40) 25 rfl 91 i0 _ 7 56 Tryd.underlying25 hi.out hz0.out hz1.out hz2.out rfl (by decide) _ (by rfl) (by first | exact (Blk.new _ _ _).drew | exact ((Blk.new _ _ _).alloc _).drew | exact (Blk.new1 _ _ _ _).drew) S _ m (encSs (l.take m)) (by rfl) (HROW.out.nob (by repeat (first | exact Fr.refl _ _ | exact H3.out | exact H2.out | refine Fr.alloc ?_ _ | refine Fr.drew ?_))) (encSs_one _) (by unfold maxLen; omega) (by omega) ?_
         intro v1 w2 ho hfr hat
         have H2 := Lib.hid (show Fr Nob wq w2 from Fr.trans0 (by repeat (first | exact Fr.refl _ _ | exact H3.out | exact H2.out | refine Fr.alloc ?_ _ | refine Fr.drew ?_)) hfr)
         have HV2 := Lib.hid (show NewV wq v1 from fun b hb => by rcases hat with h | h <;> rw [h] at hb <;> cases hb <;> first | (simp; done) | (simp; omega))
         have HO2 := Lib.hid ho
         have HFR := Lib.hid hfr
         obtain ⟨r0, r1, r2, r3, r4, r5, r6, r7, r8⟩ := HS.out w2 H2.out
         have mw1 : w1.heap.size < w2.heap.size := (HBQ.out.nob H2.out).lt
         have mg1 : g < w2.heap.size := (HRQ.out.nob H2.out).lt
         clear ho hfr hat)
      | (refine step_app rfl (.tmp 41) (.tmp 43) 25 rfl 91 i0 _ 7 56 Tryd.underlying25 hi.out hz0.out hz1.out hz2.out rfl (by decide) _ m (encSs (l.take m)) (by rfl) (HO2.out.nob (by repeat (first | exact Fr.refl _ _ | refine Fr.alloc ?_ _ | refine Fr.drew ?_))) _ _ 1 (encSs [moveS a]) (by rfl) (Blk.sgs (l := [moveS a]) (by first | exact (Blk.new w2 _ _).drew | exact ((Blk.new1 _ _ _ _).drew).nob HFR.out | exact (((Blk.new _ _ _).alloc _).drew).nob HFR.out) (by simp)) (encSs_one _) (by unfold maxLen; omega) (by omega) ?_
         intro v3 w3 ho hfr hat _
         have H3 := Lib.hid (fr_of_app hfr (by repeat (first | exact Fr.refl _ _ | exact H3.out | exact H2.out | refine Fr.alloc ?_ _ | refine Fr.drew ?_)) HV2.out)
         have HV3 := Lib.hid (new_of_app hat (by repeat (first | exact Fr.refl _ _ | exact H3.out | exact H2.out | refine Fr.alloc ?_ _ | refine Fr.drew ?_)) HV2.out)
         have HO3 := Lib.hid ho
         obtain ⟨A3, cap3, rfl, _, _⟩ := ho.form
         obtain ⟨k0, k1, _⟩ := HS.out w3 H3.out
         clear ho hfr hat)))
  all_goals
    go_wp2_with fail
    go_ret
    exact ⟨rfl, (RqTo.put (l := (l.take m) ++ [moveS a]) H3.out HO3.out (by simp [HM.out]) (by simp [encSs_append]) HV3.out).after HW.out⟩
theorem rmove_bad (S : Nat → Prop) (g o : Nat) (v : Value) (most : Int) (l : List Sg) (a : Pt) (w : World) (h : Rq w S g o v most l) (hf : fitP a = false) :
    Calls Tryd.prog 65 #[.pointer (some ⟨g, o, none⟩), ptV a] w fun e w' => e = .returned (.int .i64 11) ∧ Fr Nob w w' := by
  obtain ⟨wa, hwa⟩ : ∃ wa, w.alloc (.cells #[.int .i64 a.x, .int .i64 a.y] 56) = wa := ⟨_, rfl⟩
  have hfa : Fr Nob w wa := by rw [← hwa]; exact (Fr.refl Nob w).alloc _
  have hb : Blk wa w.heap.size #[.int .i64 a.x, .int .i64 a.y] 56 := by rw [← hwa]; exact Blk.new w _ _
  have y0 := hb.cell 0
  have y1 := hb.cell 1
  simp only [List.getElem?_toArray, List.getElem?_cons_succ, List.getElem?_cons_zero] at y0 y1
  have HFA := Lib.hid hfa
  have E1 := Lib.hid hf
  clear hfa hb hf h
  unfold ptV
  go_enter Tryd.func65, Tryd.ntmps65
  go_wp2_with fail
  refine (fitp_any a wa).mono ?_
  rw [E1.out]
  rintro e w1 ⟨rfl, hf1⟩
  have H1 := Lib.hid (HFA.out.trans0 hf1)
  clear hf1
  go_wp2_with fail
  go_ret
  exact ⟨rfl, H1.out⟩
set_option maxRecDepth 8000 in
set_option maxHeartbeats 1600000 in
theorem rmove_full (S : Nat → Prop) (g o : Nat) (v : Value) (most : Int) (l : List Sg) (a : Pt) (w : World) (h : Rq w S g o v most l) (hmo : -9223372036854775808 ≤ most ∧ most ≤ 9223372036854775807) (hlen : l.length ≤ 1000000000)
    (hf : fitP a = true) (h1 : ¬ lastK l = 1) (h2 : most < l.length + 1) :
    Calls Tryd.prog 65 #[.pointer (some ⟨g, o, none⟩), ptV a] w fun e w' => e = .returned (.int .i64 9) ∧ Fr Nob w w' := by
  obtain ⟨i0, hi, hz0, hz1, hz2⟩ := info_parts info43
  replace hi := Lib.hid hi
  replace hz0 := Lib.hid hz0
  replace hz1 := Lib.hid hz1
  replace hz2 := Lib.hid hz2
  obtain ⟨wa, hwa⟩ : ∃ wa, w.alloc (.cells #[.int .i64 a.x, .int .i64 a.y] 56) = wa := ⟨_, rfl⟩
  have hfa : Fr Nob w wa := by rw [← hwa]; exact (Fr.refl Nob w).alloc _
  have hb : Blk wa w.heap.size #[.int .i64 a.x, .int .i64 a.y] 56 := by rw [← hwa]; exact Blk.new w _ _
  have y0 := hb.cell 0
  have y1 := hb.cell 1
  simp only [List.getElem?_toArray, List.getElem?_cons_succ, List.getElem?_cons_zero] at y0 y1
  have HFA := Lib.hid hfa
  have HR := Lib.hid (h.nob hfa)
  have E1 := Lib.hid hf
  obtain ⟨A, cap, rfl, ha1, ha2⟩ := h.row.form
  have hk := lastK_getD l
  clear h hfa hb hf
  have x1 := hmo.1
  have x2 := hmo.2
  clear hmo
  obtain ⟨n, hn⟩ : ∃ n, n = l.length := ⟨_, rfl⟩
  have HN := Lib.hid hn
  have d1 : decide (most < (n : Int) + 1) = true := by simp; omega
  -- the last one's kind
  have hlast : n = 0 ∨ ∃ m b off kd, n = m + 1 ∧ A = some ⟨b, off, none⟩ ∧ (kd == (1 : Int)) = false ∧ ∀ w', Fr Nob wa w' → w'.cell? ⟨b, off + m * 7, none⟩ = some (.int .i64 kd) := by
    rcases Nat.eq_zero_or_pos n with h0 | h0
    · exact .inl h0
    · refine .inr ?_
      obtain ⟨b, off, cap', hv, _, _, _, hc⟩ := HR.out.row.sg (by omega)
      cases hv
      have hs := hc (n - 1) (by omega)
      refine ⟨n - 1, b, off, _, by omega, rfl, ?_, fun w' hw' => cell_nob hs.c0 hw'⟩
      rw [hk, getD_at (by omega)] at h1
      have e : l[l.length - 1]'(by omega) = l[n - 1]'(by omega) := by congr 1; omega
      rw [e] at h1
      simpa using h1
  clear hk h1 h2
  have hnl : n ≤ 1000000000 := by omega
  clear hn
  go_enter Tryd.func65, Tryd.ntmps65
  unfold ptV
  go_wp2_with fail
  refine (fitp_any a wa).mono ?_
  rw [E1.out]
  rintro e w1 ⟨rfl, hf1⟩
  have z0 := cell_nob y0 hf1
  have z1 := cell_nob y1 hf1
  have hr1 := HR.out.nob hf1
  have c1 := hr1.c1
  rw [← HN.out] at c1
  have H1 := Lib.hid hf1
  clear hr1 y0 y1 hf1
  have hfq : Fr Nob w1 (w1.alloc (.cells #[.int .i64 1, .int .i64 a.x, .int .i64 a.y, .int .i64 0, .int .i64 0, .int .i64 0, .int .i64 0] 91)) := (Fr.refl Nob w1).alloc _
  have hbq : Blk (w1.alloc (.cells #[.int .i64 1, .int .i64 a.x, .int .i64 a.y, .int .i64 0, .int .i64 0, .int .i64 0, .int .i64 0] 91)) w1.heap.size (encS (moveS a)).toArray 91 := Blk.new w1 _ _
  have HQ := Lib.hid (H1.out.trans0 hfq)
  have HW := Lib.hid (HFA.out.trans0 HQ.out)
  have hrq := HR.out.nob HQ.out
  have q0 := hrq.c0
  have q1 := hrq.c1
  rw [← HN.out] at q1
  have f1 := hrq.f1
  have HRQ := Lib.hid hrq
  have HBQ := Lib.hid hbq
  have hrow := hrq.row
  rw [← HN.out] at hrow
  have HROW := Lib.hid hrow
  -- what the loads read
  have hS : ∀ w', Fr Nob (w1.alloc (.cells #[.int .i64 1, .int .i64 a.x, .int .i64 a.y, .int .i64 0, .int .i64 0, .int .i64 0, .int .i64 0] 91)) w' → w'.cell? ⟨g, o + 1, none⟩ = some (.slice A n cap) ∧ w'.frozen? ⟨g, o + 1, none⟩ = false ∧ w'.cell? ⟨w1.heap.size, 0, none⟩ = some (.int .i64 1) ∧ w'.cell? ⟨w1.heap.size, 1, none⟩ = some (.int .i64 a.x) ∧ w'.cell? ⟨w1.heap.size, 2, none⟩ = some (.int .i64 a.y) ∧ w'.cell? ⟨w1.heap.size, 3, none⟩ = some (.int .i64 0) ∧ w'.cell? ⟨w1.heap.size, 4, none⟩ = some (.int .i64 0) ∧ w'.cell? ⟨w1.heap.size, 5, none⟩ = some (.int .i64 0) ∧ w'.cell? ⟨w1.heap.size, 6, none⟩ = some (.int .i64 0) := fun w' hw' => by
    have hr := HRQ.out.nob hw'
    have hc1 := hr.c1
    rw [← HN.out] at hc1
    have hb := SgAt.own (HBQ.out.nob hw')
    exact ⟨hc1, hr.f1, hb.c0, hb.c1, hb.c2, hb.c3, hb.c4, hb.c5, hb.c6⟩
  have HS := Lib.hid hS
  clear hfq hbq hrq hS hrow
  have wn : IntKind.i64.wrap ((n : Int) + 1) = (n : Int) + 1 := IntWalk.i64_in _ (by omega)
  rcases hlast with h0 | ⟨m, b, off, kd, h0, rfl, hkd, hc⟩
  · have dn : decide (0 < n) = false := decide_eq_false (by omega)
    clear h0
    go_wp2_with fail
    go_ret
    exact ⟨rfl, HW.out⟩
  · have hc1 := hc _ HQ.out
    have e0 : (n : Int) - 1 = m := by omega
    have i1 : (m : Int) < n := by omega
    have i0' : (0 : Int) ≤ m := by omega
    have wm : IntKind.i64.wrap (m : Int) = m := IntWalk.i64_in _ (by omega)
    have dn : decide (0 < n) = true := decide_eq_true (by omega)
    clear hc h0
    go_wp2_with fail
    go_ret
    exact ⟨rfl, HW.out⟩
theorem rmove_any (S : Nat → Prop) (g o : Nat) (v : Value) (most : Int) (l : List Sg) (a : Pt) (w : World) (h : Rq w S g o v most l) (hmo : -9223372036854775808 ≤ most ∧ most ≤ 9223372036854775807) (hlen : l.length ≤ 1000000000) :
    Calls Tryd.prog 65 #[.pointer (some ⟨g, o, none⟩), ptV a] w fun e w' => e = .returned (.int .i64 (rMove most l a).1) ∧ RqTo w S g o (rMove most l a).2 w' := by
  unfold rMove
  by_cases hf : fitP a
  · rw [if_pos hf]
    by_cases h1 : lastK l = 1
    · rw [if_pos h1]
      have h0 : 0 < l.length := by
        rcases Nat.eq_zero_or_pos l.length with e | e
        · rw [lastK_zero _ e] at h1; omega
        · exact e
      have := rmove_last S g o v most l a w h hmo hlen hf h1
      rw [← set_last l h0] at this
      exact this
    · rw [if_neg h1]
      by_cases h2 : most < l.length + 1
      · rw [if_pos h2]
        exact (rmove_full S g o v most l a w h hmo hlen hf h1 h2).mono fun e w' ⟨he, hf⟩ => ⟨he, RqTo.same h hf⟩
      · rw [if_neg h2]
        exact rmove_more S g o v most l a w h hmo hlen hf h1 h2
  · rw [if_neg hf]
    exact (rmove_bad S g o v most l a w h (by simpa using hf)).mono fun e w' ⟨he, hf⟩ => ⟨he, RqTo.same h hf⟩
end Go.Proofs.YtkkejjfmidgciaaDoor
/- The walk of Clip. -/
namespace Go.Proofs.YtkkejjfmidgciaaDoor
open Go.RowKit
set_option linter.unusedVariables false
set_option linter.unusedSimpArgs false
def clipF (eo : Bool) (p : PS) (st : Gst) : Int × Gst := if 16 ≤ st.clips.length then (9, st) else if p.list.length = 0 then (0, { st with dark := true }) else (0, { st with clips := st.clips ++ [⟨p.list, eo⟩] })
/-- One clip more, in a list of one's own. -/
theorem OwnC.more {w0 w1 w2 wc w4 : World} {cv v' lv : Value} {l : List Clp} {xs : List (Clp × Value)} {S : Nat → Prop} {c : Clp} (h : OwnC w1 w2 cv l l.length xs S) (hl : OwnS w1 91 7 lv c.path.length (encSs c.path)) (hn : NewV w0 lv) (h0 : Fr Nob w0 w1) (hc : Fr Nob w2 wc)
    (ho : OwnS w4 93 2 v' (l.length + 1) (encX xs ++ [lv, .bool c.eo])) (hf : Fr (inB cv) wc w4) (hat : v'.ownBlock = cv.ownBlock ∨ v'.ownBlock = some wc.heap.size) : Clps w4 (fun k => w0.heap.size ≤ k) v' (l ++ [c]) := by
  have hxl : xs.map Prod.fst = l := by rw [h.l, List.take_length]
  have hxn : xs.length = l.length := by rw [← hxl, List.length_map]
  have hz := h0.size
  refine ⟨xs ++ [(c, lv)], by simp [hxl], ?_, fun x hx => ?_⟩
  · rw [encX_append, List.length_append, hxn]
    refine ho.rowIn fun k hk => ?_
    rcases hat with e | e
    · exact Nat.le_trans hz (h.n k (e ▸ hk))
    · rw [e] at hk; cases hk; exact Nat.le_trans hz (Nat.le_trans h.f.size hc.size)
  · rcases List.mem_append.1 hx with hx | hx
    · exact (((h.p x hx).nob hc).fr hf fun j hj hv => h.d j hv hj).mono fun j hj => Nat.le_trans hz (h.s j hj).1
    · rw [List.mem_singleton] at hx
      subst hx
      refine (((hl.nob h.f).nob hc).fr hf fun j hj hv => ?_).rowIn fun k hk => hn k hk
      have := hl.lt j hj; have := h.n j hv; omega
theorem gclip_full (g : Nat) (F : Nat → Prop) (s : GS) (eo : Bool) (w : World) (h : Gs w g F s) (h1 : 16 ≤ s.cur.st.clips.length) (hb : SmallG s.cur.st) :
    Calls Tryd.prog 62 #[.pointer (some ⟨g, 0, none⟩), .bool eo] w fun e w' => e = .returned (.int .i64 9) ∧ GsTo w g F s w' := by
  have HH := Lib.hid h
  obtain ⟨lab, x, sv, xs, h⟩ := h
  have HI := Lib.hid (check_any ⟨g, 0, none⟩ [] (.slice none 0 0) Nob w (RowIn.nil _ _ _))
  rw [show chkI [] = 0 from rfl] at HI
  have c24 : w.cell? ⟨g, 24, none⟩ = some x.cv := h.cells.cell 24
  obtain ⟨A, c, hcv, _, _⟩ := h.c.g.c.form
  rw [hcv] at c24
  have hbc := hb.c
  have i1 : (16 : Int) ≤ s.cur.st.clips.length := by omega
  clear h hcv hb
  go_enter Tryd.func62, Tryd.ntmps62
  go_wp2_with fail
  refine HI.out.mono ?_
  rintro e w1 ⟨rfl, rfl⟩
  go_wp2_with fail
  go_ret
  exact ⟨rfl, GsTo.same HH.out (Fr.refl _ _)⟩
theorem gclip_dark (g : Nat) (F : Nat → Prop) (s : GS) (eo : Bool) (w : World) (h : Gs w g F s) (h1 : ¬ 16 ≤ s.cur.st.clips.length) (h2 : s.cur.p.list.length = 0) (hp : PB s.cur.p) :
    Calls Tryd.prog 62 #[.pointer (some ⟨g, 0, none⟩), .bool eo] w fun e w' => e = .returned (.int .i64 0) ∧ GsTo w g F { s with cur := { s.cur with st := { s.cur.st with dark := true } } } w' := by
  obtain ⟨lab, x, sv, xs, h⟩ := h
  have HI := Lib.hid (check_any ⟨g, 0, none⟩ [] (.slice none 0 0) Nob w (RowIn.nil _ _ _))
  rw [show chkI [] = 0 from rfl] at HI
  have c24 : w.cell? ⟨g, 24, none⟩ = some x.cv := h.cells.cell 24
  have c26 : w.cell? ⟨g, 26, none⟩ = some (.pointer (some ⟨x.pg, 0, none⟩)) := h.cells.cell 26
  obtain ⟨A, c, hcv, _, _⟩ := h.c.g.c.form
  rw [hcv] at c24
  have i1 : ¬ (16 : Int) ≤ s.cur.st.clips.length := by omega
  have HX := Lib.hid h
  have HSEG := Lib.hid (seg_any x.pg x.pv s.cur.p w h.c.p hp)
  rw [h2] at HSEG
  clear h hcv h1 h2 hp
  go_enter Tryd.func62, Tryd.ntmps62
  go_wp2_with fail
  refine HI.out.mono ?_
  rintro e w1 ⟨rfl, rfl⟩
  go_wp2_with fail
  refine HSEG.out.mono ?_
  rintro e w2 ⟨vo, rfl, ho, hf, hn⟩
  have HF := Lib.hid hf
  obtain ⟨A2, c2, rfl, _, _⟩ := ho.form
  have hB := HX.out.cells.nob hf
  have k25 := hB.cell 25
  have q25 := hB.free 25
  simp only [List.getElem?_toArray, List.getElem?_cons_succ, List.getElem?_cons_zero] at k25
  have HB := Lib.hid hB
  clear ho hf hn hB
  go_wp2_with fail
  go_ret
  exact ⟨rfl, HX.out.put HF.out ((Fr.refl (fun k => k = g) _).setCell (p := ⟨g, 25, none⟩) (.inl rfl) _) { s.cur.st with dark := true } rfl rfl (HB.out.set 25 _)⟩
attribute [local go_sem high] field_clips
set_option maxRecDepth 8000 in
set_option maxHeartbeats 1600000 in
theorem gclip_more (g : Nat) (F : Nat → Prop) (s : GS) (eo : Bool) (w : World) (h : Gs w g F s) (h1 : ¬ 16 ≤ s.cur.st.clips.length) (h2 : ¬ s.cur.p.list.length = 0) (hp : PB s.cur.p) (hb : SmallG s.cur.st) :
    Calls Tryd.prog 62 #[.pointer (some ⟨g, 0, none⟩), .bool eo] w fun e w' => e = .returned (.int .i64 0) ∧ GsTo w g F { s with cur := { s.cur with st := { s.cur.st with clips := s.cur.st.clips ++ [⟨s.cur.p.list, eo⟩] } } } w' := by
  obtain ⟨i0, hi, hz0, hz1, hz2⟩ := info_parts infoClip
  obtain ⟨lab, x, sv, xs, h⟩ := h
  have HI := Lib.hid (check_any ⟨g, 0, none⟩ [] (.slice none 0 0) Nob w (RowIn.nil _ _ _))
  rw [show chkI [] = 0 from rfl] at HI
  have c24 : w.cell? ⟨g, 24, none⟩ = some x.cv := h.cells.cell 24
  have c26 : w.cell? ⟨g, 26, none⟩ = some (.pointer (some ⟨x.pg, 0, none⟩)) := h.cells.cell 26
  obtain ⟨A, c, hcv, _, _⟩ := h.c.g.c.form
  rw [hcv] at c24
  have i1 : ¬ (16 : Int) ≤ s.cur.st.clips.length := by omega
  have i2 : ((s.cur.p.list.length : Int) == 0) = false := by simpa using h2
  have hbc : s.cur.st.clips.length ≤ 16 := by omega
  have HX := Lib.hid h
  have HSEG := Lib.hid (seg_any x.pg x.pv s.cur.p w h.c.p hp)
  have HOWN := Lib.hid (fun w' (hf : Fr Nob w w') => own_all s.cur.st x.dv x.cv _ w' (h.c.g.nob hf) hb)
  clear h hcv h1 h2 hp hb
  go_enter Tryd.func62, Tryd.ntmps62
  go_wp2_with fail
  refine HI.out.mono ?_
  rintro e w1 ⟨rfl, rfl⟩
  go_wp2_with fail
  refine HSEG.out.mono ?_
  rintro e w2 ⟨vo, rfl, ho, hf, hn⟩
  have HF := Lib.hid hf
  have HO := Lib.hid ho
  have HN := Lib.hid hn
  obtain ⟨A2, c2, rfl, _, _⟩ := ho.form
  have HB2 := Lib.hid (HX.out.cells.nob hf)
  clear ho hf hn
  go_wp2_with (refine wpList_getAt rfl 79 (.tmp 40) rfl g 0 (by rfl) (encG s.cur.st x.dv x.cv) _ (HB2.out.range 0 _ (by rfl)) Tryd.underlying79 rfl sizeG ?_)
  refine (HOWN.out _ HF.out).mono ?_
  unfold gV
  simp only [encG]
  rintro e w3 ⟨dv', cv', zs, S', rfl, _, hc, hf3⟩
  have HC := Lib.hid hc
  have HF3 := Lib.hid hf3
  obtain ⟨A3, c3, rfl, _, _⟩ := hc.o.form
  have HCO := Lib.hid (hc.o.nob ((Fr.refl Nob w3).alloc (.cells #[.slice A2 s.cur.p.list.length c2, .bool eo] 93)))
  have HNW := Lib.hid (Blk.row (n := 1) (size := 2) (Blk.new w3 #[.slice A2 s.cur.p.list.length c2, .bool eo] 93) rfl (by decide))
  clear hc hf3
  go_wp2_with (at_builtin; refine wpList_app _ rfl (.tmp 43) (.tmp 47) 29 rfl 93 i0 _ 2 32 Tryd.underlying29 hi hz0 hz1 hz2 rfl (by decide) _ s.cur.st.clips.length (encX zs) (by rfl) HCO.out _ _ 1 [.slice A2 s.cur.p.list.length c2, .bool eo] (by rfl) HNW.out (by intro u hu; simp at hu; rcases hu with rfl | rfl <;> rfl) (by unfold maxLen; omega) (by omega) ?_)
  intro v' w4 hown hfr hat
  have HO4 := Lib.hid hown
  have HF4 := Lib.hid hfr
  have HA4 := Lib.hid hat
  have HF14 := Lib.hid (((HF3.out.alloc (.cells #[.slice A2 s.cur.p.list.length c2, .bool eo] 93)).trans hfr fun k hk => .inr (HC.out.n k hk)))
  obtain ⟨A4, c4, rfl, _, _⟩ := hown.form
  have hB4 := HB2.out.nob HF14.out
  have k24 := hB4.cell 24
  have q24 := hB4.free 24
  simp only [List.getElem?_toArray, List.getElem?_cons_succ, List.getElem?_cons_zero] at k24
  have HB4 := Lib.hid hB4
  clear hown hfr hat hB4
  go_wp2_with fail
  go_ret
  have hN4 := HF.out.trans0 HF14.out
  exact ⟨rfl, HX.out.putN hN4 ((Fr.refl (fun k => k = g) _).setCell (p := ⟨g, 24, none⟩) (.inl rfl) _) { s.cur.st with clips := s.cur.st.clips ++ [⟨s.cur.p.list, eo⟩] } x.dv (.slice A4 (s.cur.st.clips.length + 1) c4)
    ⟨(HX.out.c.g.d.nob hN4).mono fun k hk => .inl hk, (OwnC.more (c := ⟨s.cur.p.list, eo⟩) HC.out HO.out HN.out HF.out ((Fr.refl Nob w3).alloc _) HO4.out HF4.out (by simpa using HA4.out)).mono fun k hk => .inr hk⟩ (HB4.out.set 24 _)⟩
theorem gclip_any (g : Nat) (F : Nat → Prop) (s : GS) (eo : Bool) (w : World) (h : Gs w g F s) (hb : SmallG s.cur.st) (hp : PB s.cur.p) :
    Calls Tryd.prog 62 #[.pointer (some ⟨g, 0, none⟩), .bool eo] w fun e w' => e = .returned (.int .i64 (clipF eo s.cur.p s.cur.st).1) ∧ GsTo w g F { s with cur := { s.cur with st := (clipF eo s.cur.p s.cur.st).2 } } w' := by
  unfold clipF
  by_cases h1 : 16 ≤ s.cur.st.clips.length
  · rw [if_pos h1]; exact gclip_full g F s eo w h h1 hb
  · rw [if_neg h1]
    by_cases h2 : s.cur.p.list.length = 0
    · rw [if_pos h2]; exact gclip_dark g F s eo w h h1 h2 hp
    · rw [if_neg h2]; exact gclip_more g F s eo w h h1 h2 hp hb
end Go.Proofs.YtkkejjfmidgciaaDoor
/- The walks of Init, RestoreAll. -/
namespace Go.Proofs.YtkkejjfmidgciaaDoor
open Go.RowKit
set_option linter.unusedVariables false
set_option linter.unusedSimpArgs false
/-- A level anew is the one that is; some of what was saved stays. -/
theorem GsX.fresh {w w1 w' : World} {g : Nat} {F : Nat → Prop} {s : GS} {lab : Nat → Nat} {x x' : LvG} {sv : Value} {xs : List (Lv × LvG)} {l : Lv} {m k : Nat} (h : GsX w g F s lab x sv xs) (hk : k ≤ xs.length) (hN : LvNew w w1 l x' m) (hf : Fr (fun k => k = g) w1 w')
    (hb : Blk w' g (encL l x' ++ [.int .i64 s.most, .int .i64 s.segs, takeV sv k]).toArray 124) : GsTo w g F { s with cur := l, saved := s.saved.take k } w' := by
  have h1 := h.nob hN.f fun _ _ hh => hh
  have hF : Fr F w w' := (hN.f.mono (T := F) fun _ hh => hh.elim).trans hf fun k hk => .inl (hk ▸ h.g1.1)
  have hlt := h.b.lt
  have hz := hf.size
  have hp := hN.p.lt
  have hlo := hN.lo
  have hhi := hN.hi
  obtain ⟨ho, hob⟩ := h1.o.takeV k hk
  rw [encLs_take xs k hk] at ho
  have hof : OwnS w' 121 27 (takeV sv k) k (encLs (xs.take k)) := ho.fr hf fun j hj e => ho.ne h1.b (by decide) j hj e
  have hfl : ∀ i (hi : i < xs.length), LvIn w' (fun k => (F k ∧ lab k = 0) ∧ k < w.heap.size) (fun k => (F k ∧ lab k = i + 3) ∧ k < w.heap.size) xs[i].1 xs[i].2 := fun i hi =>
    ((h.s i hi).lts.fr hN.f (fun _ _ hh => hh) fun _ _ hh => hh).fr hf (fun k hk e => by subst e; have := h.g1.2; have := hk.1.2; omega) fun k hk e => by subst e; have := h.g1.2; have := hk.1.2; omega
  refine ⟨⟨fun k => if k < w.heap.size then (if lab k = 2 then 0 else lab k) else if k < m then 0 else 2, x', takeV sv k, xs.take k, by simp [h.l], hb, ⟨.inl h.g1.1, ?_⟩, by rw [List.length_take, Nat.min_eq_left hk]; exact hof, fun j hj => ?_, ⟨(hN.g.fr hf fun j hj e => ?_).mono fun j hj => ⟨.inr ⟨hj.1, by omega⟩, ?_⟩, hN.p.fr hf fun j hj e => ?_, fun j hj => ⟨.inr ⟨?_, ?_⟩, ?_⟩⟩, fun i hi => ?_⟩, hF⟩
  · simp only [hlt, if_true, h.g1.2]
    rfl
  · rw [hob] at hj
    have h2 := h.o1 j hj
    have h3 := h.o.lt j hj
    exact ⟨.inl h2.1, by simp only [h3, if_true, h2.2]; rfl⟩
  · have := hj.1; subst e; omega
  · rw [if_neg (by omega), if_pos hj.2]
  · have := hN.b j hj; subst e; omega
  · have := hN.b j hj; omega
  · have := hp j hj; omega
  · have := hN.b j hj
    rw [if_neg (by omega), if_neg (by omega)]
  · rw [List.length_take] at hi
    simp only [List.getElem_take]
    refine (hfl i (by omega)).mono (fun k hk => ⟨.inl hk.1.1, ?_⟩) fun k hk _ => ⟨.inl hk.1.1, ?_⟩
    · have := hk.1.2
      simp only [hk.2, if_true]
      rw [if_neg (by omega)]; exact this
    · have := hk.1.2
      simp only [hk.2, if_true]
      rw [if_neg (by omega)]; exact this
def ralF (s : GS) : GS := if h : 0 < s.saved.length then { s with cur := s.saved[0], saved := s.saved.take 1 } else s
set_option maxRecDepth 8000 in
set_option maxHeartbeats 1600000 in
theorem grestall_any (g : Nat) (F : Nat → Prop) (s : GS) (w : World) (h : Gs w g F s) (hb : SmallS s) :
    Calls Tryd.prog 72 #[.pointer (some ⟨g, 0, none⟩)] w fun e w' => e = .returned (.tuple #[]) ∧ GsTo w g F (ralF s) w' := by
  have HD := Lib.hid (gdepth_any g F s w h)
  by_cases h0 : 0 < s.saved.length
  · have HH := Lib.hid h
    obtain ⟨lab, x, sv, xs, h⟩ := h
    have hl := h.len
    have hr : ralF s = { s with cur := (xs[0]'(by omega)).1, saved := s.saved.take 1 } := by
      unfold ralF
      rw [dif_pos h0]
      have e2 : s.saved[0]'(by omega) = (xs[0]'(by omega)).1 := by simp [← h.l]
      simp only [e2]
    rw [hr]
    obtain ⟨i0, hi, hz0, hz1, hz2⟩ := info_parts infoLevel
    obtain ⟨b, cap, hsv, hc1, hc2, hat⟩ := h.at (by omega)
    have HAT := Lib.hid (hat 0 (by omega))
    have HP := Lib.hid (show ∀ (w1 w' : World) (x' : LvG) (m : Nat), LvNew w w1 (xs[0]'(by omega)).1 x' m → Fr (fun k => k = g) w1 w' → Blk w' g (encL (xs[0]'(by omega)).1 x' ++ [Value.int .i64 s.most, Value.int .i64 s.segs, takeV sv 1]).toArray 124 → GsTo w g F { s with cur := (xs[0]'(by omega)).1, saved := s.saved.take 1 } w' from
      fun w1 w' x' m hN hf hb => h.fresh (by omega) hN hf hb)
    have hsm := hb.v (xs[0]'(by omega)).1 (by rw [← h.l]; exact List.mem_map.2 ⟨_, List.getElem_mem _, rfl⟩)
    have HCP := Lib.hid (copied_any (xs[0]'(by omega)).1 (xs[0]'(by omega)).2 _ _ w (h.s 0 (by omega)) hsm.1 hsm.2)
    generalize (xs[0]'(by omega)).1 = lv at *
    generalize (xs[0]'(by omega)).2 = xv at *
    subst hsv
    have HX := Lib.hid h
    have hn := hb.n
    rw [← hl] at HD hn
    have c29 := h.cells.cell 29
    simp only [List.getElem?_toArray, List.getElem?_cons_succ, List.getElem?_cons_zero] at c29
    have i3 : (0 : Int) < xs.length := by omega
    have i5 : 0 < xs.length := by omega
    have i4 : decide (0 < xs.length) = true := by simpa using i5
    clear h h0 hl hr hat hsm hb
    go_enter Tryd.func72, Tryd.ntmps72
    go_wp2_with fail
    refine HD.out.mono ?_
    rintro e w1 ⟨rfl, rfl⟩
    go_wp2_with (refine wpList_getAt rfl 121 (.tmp 10) rfl b (0 * 27) (by rfl) (encL lv xv) _ HAT.out Tryd.underlying121 rfl sizeL ?_)
    refine HCP.out.mono ?_
    unfold encL
    simp only [encG, List.cons_append, List.nil_append]
    rintro e w1 ⟨x', m, rfl, hN⟩
    have HN := Lib.hid hN
    obtain ⟨Ad, cd, hdv, _⟩ := hN.g.d.form
    obtain ⟨Ac, cc, hcv, _⟩ := hN.g.c.form
    have HONE := Lib.hid (encL_one lv x' ⟨_, _, _, hdv⟩ ⟨_, _, _, hcv⟩)
    have HB1 := Lib.hid (HX.out.cells.nob hN.f)
    clear hN hdv hcv
    go_wp2_with (refine wpList_putAt rfl 121 (.tmp 14) (.tmp 12) rfl g 0 (encL lv x') (by rfl) (by rfl) 124 _ HB1.out (show 27 ≤ 30 by omega) sizeL HONE.out ?_)
    intro w2 hb2 hf2
    replace hb2 : Blk w2 g (encL lv x' ++ [Value.int .i64 s.most, Value.int .i64 s.segs, Value.slice (some ⟨b, 0, none⟩) xs.length cap]).toArray 124 := hb2
    have d29 : w2.cell? ⟨g, 29, none⟩ = some (.slice (some ⟨b, 0, none⟩) xs.length cap) := hb2.cell 29
    have q29 := hb2.free 29
    have HB2 := Lib.hid hb2
    have HF2 := Lib.hid hf2
    have hcm : 1 ≤ cap := by omega
    have kt : ∀ w : World, (Instr.slice 122 (.slice (some ⟨b, 0, none⟩) xs.length cap) none (some (.int .i64 1)) none).run Tryd.prog w = .ok (.slice (some ⟨b, 0, none⟩) 1 cap) w := fun w => run_takeV Tryd.underlying122 hi _ xs.length cap 1 (by omega) w
    clear hb2 hf2 c29
    go_wp2_with fail
    go_end0
    exact ⟨rfl, HP.out w1 _ x' m HN.out (HF2.out.setCell (p := ⟨g, 29, none⟩) (.inl rfl) _) (HB2.out.set 29 _)⟩
  · rw [show ralF s = s by unfold ralF; rw [dif_neg h0]]
    have e0 : s.saved.length = 0 := by omega
    rw [e0] at HD
    have HH := Lib.hid h
    clear h h0 e0 hb
    go_enter Tryd.func72, Tryd.ntmps72
    go_wp2_with fail
    refine HD.out.mono ?_
    rintro e w1 ⟨rfl, rfl⟩
    go_wp2_with fail
    go_end0
    exact ⟨rfl, GsTo.same HH.out (Fr.refl _ _)⟩
end Go.Proofs.YtkkejjfmidgciaaDoor
/- The walk of Init. -/
namespace Go.Proofs.YtkkejjfmidgciaaDoor
open Go.RowKit
set_option linter.unusedVariables false
set_option linter.unusedSimpArgs false
def initF (s : GS) : GS := { s with cur := ⟨{ gStart with font := s.cur.st.font, fm := s.cur.st.fm }, ⟨s.segs, [], oo, oo⟩⟩ }
set_option maxRecDepth 8000 in
set_option maxHeartbeats 6400000 in
theorem ginit_any (g : Nat) (F : Nat → Prop) (s : GS) (w : World) (h : Gs w g F s) :
    Calls Tryd.prog 73 #[.pointer (some ⟨g, 0, none⟩)] w fun e w' => e = .returned (.tuple #[]) ∧ GsTo w g F (initF s) w' := by
  obtain ⟨lab, x, sv, xs, h⟩ := h
  have HX := Lib.hid h
  have HC := Lib.hid h.cells
  have hS : ∀ w', Fr Nob w w' → (fun w' => w'.cell? ⟨g, 17, none⟩ = some (.int .i64 s.cur.st.font) ∧ w'.rangeAt g 18 (encM s.cur.st.fm)) w' := fun w' hw' => by
    have hb := h.cells.nob hw'
    exact ⟨hb.cell 17, hb.range 18 _ rfl⟩
  have HS := Lib.hid hS
  have HLT := Lib.hid h.b.lt
  clear h hS
  go_enter Tryd.func73, Tryd.ntmps73
  go_wp2_with fail
  refine (start_any _).mono ?_
  unfold gV
  rintro e w1 ⟨rfl, h1⟩
  have H1 := Lib.hid h1
  have HZ0 := Lib.hid (Blk.new w1 (encG gZero nilV nilV).toArray 79)
  have HF0 := Lib.hid (h1.alloc (.cells (encG gZero nilV nilV).toArray 79))
  have HL1 := Lib.hid h1.size
  clear h1
  go_wp2_with (refine wpList_putAt rfl 79 (.tmp 2) (.tmp 5) rfl w1.heap.size 0 (encG gStart nilV nilV) (by rfl) (by rfl) 79 _ HZ0.out (by decide) sizeG (encG_one _ _ _ ⟨_, _, _, rfl⟩ ⟨_, _, _, rfl⟩) ?_)
  intro wa hba hfa
  rw [over_all (encG gZero nilV nilV).toArray (encG gStart nilV nilV) rfl] at hba
  have HZ := Lib.hid hba
  have HF := Lib.hid (HF0.out.trans hfa fun k hk => .inr (by rw [hk]; exact HL1.out))
  clear hba hfa
  go_wp2_with fail
  refine wp_region_last' (ops := _) (o := _) (l := _) 15 rfl rfl rfl (fun w' => w'.cell? ⟨g, 17, none⟩ = some (.int .i64 s.cur.st.font) ∧ w'.rangeAt g 18 (encM s.cur.st.fm)) (by kernel_rfl) (by kernel_rfl) (HS.out _ HF.out.drew) fun hH => ?_
  simp only [List.take_succ_cons, List.take_zero]
  refine wpAnyH_take (i := 0) (v := ?va1) rfl (by kernel_rfl) (by kernel_rfl) (by kernel_rfl) (fun _ _ _ h => h) (Or.inl ⟨by rfl, ?ha1⟩) hH ?ra1
  case ha1 => (intro w hSw; (try dsimp only at hSw); clear hSw; go_simp; (try with_reducible rfl))
  simp only [Act.put, List.getElem_toArray, List.getElem_cons_succ, List.getElem_cons_zero, List.setIfInBounds_toArray, List.set_cons_zero, List.set_cons_succ]
  refine wpAnyH_take (i := 1) (v := ?va2) rfl (by kernel_rfl) (by kernel_rfl) (by kernel_rfl) (fun _ _ _ h => h) (Or.inl ⟨by rfl, ?ha2⟩) hH ?ra2
  case ha2 => (intro w hSw; (try dsimp only at hSw); clear hSw; go_simp; (try with_reducible rfl))
  simp only [Act.put, List.getElem_toArray, List.getElem_cons_succ, List.getElem_cons_zero, List.setIfInBounds_toArray, List.set_cons_zero, List.set_cons_succ]
  refine wpAnyH_take (i := 2) (v := ?va3) rfl (by kernel_rfl) (by kernel_rfl) (by kernel_rfl) (fun _ _ _ h => h) (Or.inl ⟨by rfl, ?ha3⟩) hH ?ra3
  case ha3 => (intro w hSw; (try dsimp only at hSw); clear hSw; go_simp; (try with_reducible rfl))
  simp only [Act.put, List.getElem_toArray, List.getElem_cons_succ, List.getElem_cons_zero, List.setIfInBounds_toArray, List.set_cons_zero, List.set_cons_succ]
  refine wpAnyH_take (i := 3) (v := ?va4) rfl (by kernel_rfl) (by kernel_rfl) (by kernel_rfl) (fun _ _ _ h => h) (Or.inl ⟨by rfl, ?ha4⟩) hH ?ra4
  case ha4 => (intro w hSw; (try dsimp only at hSw); clear hSw; go_simp; (try with_reducible rfl))
  simp only [Act.put, List.getElem_toArray, List.getElem_cons_succ, List.getElem_cons_zero, List.setIfInBounds_toArray, List.set_cons_zero, List.set_cons_succ]
  refine wpAnyH_take (i := 4) (v := ?va5) rfl (by kernel_rfl) (by kernel_rfl) (by kernel_rfl) (fun _ _ _ h => h) (Or.inl ⟨by rfl, ?ha5⟩) hH ?ra5
  case ha5 => (intro w hSw; (try dsimp only at hSw); clear hSw; go_simp; (try with_reducible rfl))
  simp only [Act.put, List.getElem_toArray, List.getElem_cons_succ, List.getElem_cons_zero, List.setIfInBounds_toArray, List.set_cons_zero, List.set_cons_succ]
  refine wpAnyH_take (i := 5) (v := ?va6) rfl (by kernel_rfl) (by kernel_rfl) (by kernel_rfl) (fun _ _ _ h => h) (Or.inl ⟨by rfl, ?ha6⟩) hH ?ra6
  case ha6 => (intro w hSw; (try dsimp only at hSw); obtain ⟨hSw, _⟩ := hSw; go_simp; (try with_reducible rfl))
  simp only [Act.put, List.getElem_toArray, List.getElem_cons_succ, List.getElem_cons_zero, List.setIfInBounds_toArray, List.set_cons_zero, List.set_cons_succ]
  refine wpAnyH_take (i := 6) (v := ?va7) rfl (by kernel_rfl) (by kernel_rfl) (by kernel_rfl) (fun _ _ _ h => h) (Or.inl ⟨by rfl, ?ha7⟩) hH ?ra7
  case ha7 => (intro w hSw; (try dsimp only at hSw); clear hSw; go_simp; (try with_reducible rfl))
  simp only [Act.put, List.getElem_toArray, List.getElem_cons_succ, List.getElem_cons_zero, List.setIfInBounds_toArray, List.set_cons_zero, List.set_cons_succ]
  refine wpAnyH_take (i := 7) (v := ?va8) rfl (by kernel_rfl) (by kernel_rfl) (by kernel_rfl) (fun _ _ _ h => h) (Or.inl ⟨by rfl, ?ha8⟩) hH ?ra8
  case ha8 => (intro w hSw; (try dsimp only at hSw); clear hSw; go_simp; (try with_reducible rfl))
  simp only [Act.put, List.getElem_toArray, List.getElem_cons_succ, List.getElem_cons_zero, List.setIfInBounds_toArray, List.set_cons_zero, List.set_cons_succ]
  refine wpAnyH_take (i := 8) (v := ?va9) rfl (by kernel_rfl) (by kernel_rfl) (by kernel_rfl) (fun _ _ _ h => h) (Or.inl ⟨by rfl, ?ha9⟩) hH ?ra9
  case ha9 => (intro w hSw; (try dsimp only at hSw); clear hSw; go_simp; (try with_reducible rfl))
  simp only [Act.put, List.getElem_toArray, List.getElem_cons_succ, List.getElem_cons_zero, List.setIfInBounds_toArray, List.set_cons_zero, List.set_cons_succ]
  refine wpAnyH_take (i := 9) (v := ?va10) rfl (by kernel_rfl) (by kernel_rfl) (by kernel_rfl) (fun _ _ _ h => h) (Or.inl ⟨by rfl, ?ha10⟩) hH ?ra10
  case ha10 => (intro w hSw; (try dsimp only at hSw); clear hSw; go_simp; (try with_reducible rfl))
  simp only [Act.put, List.getElem_toArray, List.getElem_cons_succ, List.getElem_cons_zero, List.setIfInBounds_toArray, List.set_cons_zero, List.set_cons_succ]
  refine wpAnyH_take (i := 10) (v := ?va11) rfl (by kernel_rfl) (by kernel_rfl) (by kernel_rfl) (fun _ _ _ h => h) (Or.inl ⟨by rfl, ?ha11⟩) hH ?ra11
  case ha11 => (intro w hSw; (try dsimp only at hSw); clear hSw; go_simp; (try with_reducible rfl))
  simp only [Act.put, List.getElem_toArray, List.getElem_cons_succ, List.getElem_cons_zero, List.setIfInBounds_toArray, List.set_cons_zero, List.set_cons_succ]
  refine wpAnyH_take (i := 11) (v := _) rfl (by kernel_rfl) (by kernel_rfl) (by kernel_rfl) (fun _ _ _ h => h) (yieldsIf_load_mid (by rfl) 33 (.tmp 16) rfl g 18 rfl (encM s.cur.st.fm) _ (fun w hw => hw.2) Tryd.underlying33 rfl sizeM6) hH ?_
  simp only [Act.put, List.getElem_toArray, List.getElem_cons_succ, List.getElem_cons_zero, List.setIfInBounds_toArray, List.set_cons_zero, List.set_cons_succ]
  refine wpAnyH_take (i := 12) (v := ?va13) rfl (by kernel_rfl) (by kernel_rfl) (by kernel_rfl) (fun _ _ _ h => h) (Or.inl ⟨by rfl, ?ha13⟩) hH ?ra13
  case ha13 => (intro w hSw; (try dsimp only at hSw); clear hSw; go_simp; (try with_reducible rfl))
  simp only [Act.put, List.getElem_toArray, List.getElem_cons_succ, List.getElem_cons_zero, List.setIfInBounds_toArray, List.set_cons_zero, List.set_cons_succ]
  refine held_one 13 rfl (by kernel_rfl) rfl fun K hK => ?_
  replace hK := Lib.hid hK
  clear hH
  have q17 := HZ.out.drew.free 17
  have k17 : wa.drew.cell? ⟨w1.heap.size, 17, none⟩ = some (.int .i64 (-1)) := HZ.out.drew.cell 17
  go_simp
  clear q17 k17
  have hH := HS.out (wa.drew.setCell ⟨w1.heap.size, 17, none⟩ (.int .i64 s.cur.st.font)) (HF.out.drew.setCell (p := ⟨w1.heap.size, 17, none⟩) (.inr HL1.out) _)
  refine hK.out _ _ hH ?_
  clear hK K
  refine wpAnyH_take (i := 14) (v := ?va15) rfl (by kernel_rfl) (by kernel_rfl) (by kernel_rfl) (fun _ _ _ h => h) (Or.inl ⟨by rfl, ?ha15⟩) hH ?ra15
  case ha15 => (intro w hSw; (try dsimp only at hSw); clear hSw; go_simp; (try with_reducible rfl))
  simp only [Act.put, List.getElem_toArray, List.getElem_cons_succ, List.getElem_cons_zero, List.setIfInBounds_toArray, List.set_cons_zero, List.set_cons_succ]
  refine wpAnyH_done (by kernel_rfl) ?_ _
  clear hH
  simp only [LastQ, List.getElem_cons_succ, List.getElem_cons_zero]
  refine wp_putAt 33 (.tmp 19) (.tmp 17) rfl w1.heap.size 18 (encM s.cur.st.fm) (by rfl) (by rfl) 79 _ (HZ.out.drew.set 17 (.int .i64 s.cur.st.font)) (show 24 ≤ 26 by omega) sizeM6 (encM_one _) ?_
  intro w2 hb2 hf2
  obtain ⟨st', hst⟩ : ∃ st' : Gst, st' = { gStart with font := s.cur.st.font, fm := s.cur.st.fm } := ⟨_, rfl⟩
  replace hb2 : Blk w2 w1.heap.size (encG { gStart with font := s.cur.st.font, fm := s.cur.st.fm } nilV nilV).toArray 79 := hb2
  rw [← hst] at hb2
  have HST := Lib.hid hst
  have HF2 := Lib.hid (show Fr Nob w w2 from (HF.out.drew.setCell (p := ⟨w1.heap.size, 17, none⟩) (.inr HL1.out) (.int .i64 s.cur.st.font)).trans hf2 fun k hk => .inr (by rw [hk]; exact HL1.out))
  have HS2 := Lib.hid (show ∀ w', Fr Nob w2 w' → (fun w' => w'.rangeAt w1.heap.size 0 (encG st' nilV nilV) ∧ w'.cell? ⟨g, 28, none⟩ = some (.int .i64 s.segs)) w' from fun w' hw' => ⟨(hb2.nob hw').range 0 _ rfl, (HC.out.nob (HF2.out.trans0 hw')).cell 28⟩)
  clear hst hb2 hf2
  go_wp2_with fail
  refine wp_region_last' (ops := _) (o := _) (l := _) 10 rfl rfl rfl (fun w' => w'.rangeAt w1.heap.size 0 (encG st' nilV nilV) ∧ w'.cell? ⟨g, 28, none⟩ = some (.int .i64 s.segs)) (by kernel_rfl) (by kernel_rfl) (HS2.out _ (Fr.refl Nob w2).drew) fun hH => ?_
  simp only [List.take_succ_cons, List.take_zero]
  refine wpAnyH_take (i := 0) (v := ?vb1) rfl (by kernel_rfl) (by kernel_rfl) (by kernel_rfl) (fun _ _ _ h => h) (Or.inl ⟨by rfl, ?hb1⟩) hH ?rb1
  case hb1 => (intro w hSw; (try dsimp only at hSw); clear hSw; go_simp; (try with_reducible rfl))
  simp only [Act.put, List.getElem_toArray, List.getElem_cons_succ, List.getElem_cons_zero, List.setIfInBounds_toArray, List.set_cons_zero, List.set_cons_succ]
  refine wpAnyH_take (i := 1) (v := _) rfl (by kernel_rfl) (by kernel_rfl) (by kernel_rfl) (fun _ _ _ h => h) (yieldsIf_load_mid (by rfl) 79 (.tmp 2) rfl w1.heap.size 0 rfl [.int .i64 st'.ctm.a, .int .i64 st'.ctm.b, .int .i64 st'.ctm.c, .int .i64 st'.ctm.d, .int .i64 st'.ctm.e, .int .i64 st'.ctm.f, .int .i64 st'.col.sp, .int .i64 st'.col.p0, .int .i64 st'.col.p1, .int .i64 st'.col.p2, .int .i64 st'.col.p3, .int .i64 st'.width, .int .i64 st'.cap, .int .i64 st'.join, .int .i64 st'.miter, nilV, .int .i64 st'.phase, .int .i64 st'.font, .int .i64 st'.fm.a, .int .i64 st'.fm.b, .int .i64 st'.fm.c, .int .i64 st'.fm.d, .int .i64 st'.fm.e, .int .i64 st'.fm.f, nilV, .bool st'.dark] _ (fun w hw => hw.1) Tryd.underlying79 rfl sizeG) hH ?_
  simp only [Act.put, List.getElem_toArray, List.getElem_cons_succ, List.getElem_cons_zero, List.setIfInBounds_toArray, List.set_cons_zero, List.set_cons_succ]
  refine wpAnyH_take (i := 2) (v := ?vb3) rfl (by kernel_rfl) (by kernel_rfl) (by kernel_rfl) (fun _ _ _ h => h) (Or.inl ⟨by rfl, ?hb3⟩) hH ?rb3
  case hb3 => (intro w hSw; (try dsimp only at hSw); clear hSw; go_simp; (try with_reducible rfl))
  simp only [Act.put, List.getElem_toArray, List.getElem_cons_succ, List.getElem_cons_zero, List.setIfInBounds_toArray, List.set_cons_zero, List.set_cons_succ]
  refine wpAnyH_take (i := 3) (v := ?vb4) rfl (by kernel_rfl) (by kernel_rfl) (by kernel_rfl) (fun _ _ _ h => h) (Or.inl ⟨by rfl, ?hb4⟩) hH ?rb4
  case hb4 => (intro w hSw; (try dsimp only at hSw); clear hSw; go_simp; (try with_reducible rfl))
  simp only [Act.put, List.getElem_toArray, List.getElem_cons_succ, List.getElem_cons_zero, List.setIfInBounds_toArray, List.set_cons_zero, List.set_cons_succ]
  refine wpAnyH_take (i := 4) (v := ?vb5) rfl (by kernel_rfl) (by kernel_rfl) (by kernel_rfl) (fun _ _ _ h => h) (Or.inl ⟨by rfl, ?hb5⟩) hH ?rb5
  case hb5 => (intro w hSw; (try dsimp only at hSw); clear hSw; go_simp; (try with_reducible rfl))
  simp only [Act.put, List.getElem_toArray, List.getElem_cons_succ, List.getElem_cons_zero, List.setIfInBounds_toArray, List.set_cons_zero, List.set_cons_succ]
  refine wpAnyH_take (i := 5) (v := ?vb6) rfl (by kernel_rfl) (by kernel_rfl) (by kernel_rfl) (fun _ _ _ h => h) (Or.inl ⟨by rfl, ?hb6⟩) hH ?rb6
  case hb6 => (intro w hSw; (try dsimp only at hSw); obtain ⟨_, hSw⟩ := hSw; go_simp; (try with_reducible rfl))
  simp only [Act.put, List.getElem_toArray, List.getElem_cons_succ, List.getElem_cons_zero, List.setIfInBounds_toArray, List.set_cons_zero, List.set_cons_succ]
  refine held_one 6 rfl (by kernel_rfl) rfl fun K hK => ?_
  replace hK := Lib.hid hK
  clear hH
  go_simp
  refine (new_any s.segs _).mono ?_
  rintro e w3 ⟨rfl, hp, hf3⟩
  have HP3 := Lib.hid hp
  have HF3 := Lib.hid (show Fr Nob w2 w3 from Fr.trans0 (by repeat (first | exact Fr.refl _ _ | refine Fr.alloc ?_ _ | refine Fr.drew ?_ | refine Fr.drewN ?_ _)) hf3)
  clear hp hf3
  dsimp only
  have hH := HS2.out w3 HF3.out
  refine hK.out _ _ hH ?_
  clear hK K
  refine wpAnyH_take (i := 7) (v := ?vb8) rfl (by kernel_rfl) (by kernel_rfl) (by kernel_rfl) (fun _ _ _ h => h) (Or.inl ⟨by rfl, ?hb8⟩) hH ?rb8
  case hb8 => (intro w hSw; (try dsimp only at hSw); clear hSw; go_simp; (try with_reducible rfl))
  simp only [Act.put, List.getElem_toArray, List.getElem_cons_succ, List.getElem_cons_zero, List.setIfInBounds_toArray, List.set_cons_zero, List.set_cons_succ]
  refine wpAnyH_take (i := 8) (v := ?vb9) rfl (by kernel_rfl) (by kernel_rfl) (by kernel_rfl) (fun _ _ _ h => h) (Or.inl ⟨by rfl, ?hb9⟩) hH ?rb9
  case hb9 => (intro w hSw; (try dsimp only at hSw); clear hSw; go_simp; (try with_reducible rfl))
  simp only [Act.put, List.getElem_toArray, List.getElem_cons_succ, List.getElem_cons_zero, List.setIfInBounds_toArray, List.set_cons_zero, List.set_cons_succ]
  refine wpAnyH_take (i := 9) (v := ?vb10) rfl (by kernel_rfl) (by kernel_rfl) (by kernel_rfl) (fun _ _ _ h => h) (Or.inl ⟨by rfl, ?hb10⟩) hH ?rb10
  case hb10 => (intro w hSw; (try dsimp only at hSw); clear hSw; go_simp; (try with_reducible rfl))
  simp only [Act.put, List.getElem_toArray, List.getElem_cons_succ, List.getElem_cons_zero, List.setIfInBounds_toArray, List.set_cons_zero, List.set_cons_succ]
  refine wpAnyH_done (by kernel_rfl) ?_ _
  clear hH
  simp only [LastQ, List.getElem_cons_succ, List.getElem_cons_zero]
  refine wp_putAt 121 (.tmp 29) (.tmp 27) rfl g 0 (encL ⟨st', ⟨s.segs, [], oo, oo⟩⟩ ⟨nilV, nilV, nilV, w2.heap.size⟩) (by rfl) (by rfl) 124 _ (HC.out.nob (HF2.out.trans0 HF3.out)) (show 27 ≤ 30 by omega) sizeL (encL_one _ _ ⟨_, _, _, rfl⟩ ⟨_, _, _, rfl⟩) ?_
  intro w4 hb4 hf4
  have HB4 := Lib.hid hb4
  have HF4 := Lib.hid hf4
  clear hb4 hf4
  go_wp2_with fail
  go_end0
  have hst := HST.out
  have z1 := HF2.out.size
  have z2 : w2.heap.size < w3.heap.size := HP3.out.1.lt
  have hN : LvNew w w3 ⟨st', ⟨s.segs, [], oo, oo⟩⟩ ⟨nilV, nilV, nilV, w2.heap.size⟩ w2.heap.size :=
    ⟨z1, by omega, ⟨by rw [hst]; exact RowIn.nil _ _ _, by rw [hst]; exact Clps.nil _ _⟩, HP3.out, fun k hk => by
      rcases hk with rfl | hk
      · exact Nat.le_refl _
      · simp [nilV, Value.ownBlock] at hk, HF2.out.trans0 HF3.out⟩
  have e1 : takeV sv xs.length = sv := by
    obtain ⟨A, c, hv, _⟩ := HX.out.o.form
    rw [hv]; rfl
  have e2 : s.saved.take xs.length = s.saved := by rw [HX.out.len, List.take_length]
  have := HX.out.fresh (k := xs.length) (Nat.le_refl _) hN HF4.out (by rw [e1]; exact HB4.out)
  rw [e2] at this
  unfold initF
  rw [← hst]
  exact ⟨rfl, this⟩
end Go.Proofs.YtkkejjfmidgciaaDoor
