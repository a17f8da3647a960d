/-
  The walk of the reference's Move.
-/
import Derived.Test.YtkkejjfmidgciaaQ3
import Derived.Deep.RegionLaw
namespace Go.Proofs.Ytkkejjfmidgciaa
open Go.RowKit
set_option linter.unusedVariables false
set_option linter.unusedSimpArgs false
theorem RqTo.drew {w w' : World} {S : Nat → Prop} {g o : Nat} {l : List Sg} (h : RqTo w S g o l w') : RqTo w S g o l w'.drew := by
  obtain ⟨v, w1, h1, rfl, h3⟩ := h
  exact ⟨v, w1.drew, h1.drew, by rw [World.setCell_drew], h3.fr ((Fr.refl Nob w1).drew) fun _ _ hh => hh⟩
/-- What the last steps leave: the new list is stored. -/
theorem RqTo.put {w w2 : World} {S : Nat → Prop} {g o : Nat} {l : List Sg} {v : Value} {n : Nat} {cs : List Value} (hf : Fr Nob w w2) (ho : OwnS w2 43 7 v n cs) (hn : n = l.length) (hc : cs = encSs l) (hv : NewV w v) : RqTo w S g o l (w2.setCell ⟨g, o + 1, none⟩ v) := by
  subst hn; subst hc
  exact ⟨v, w2, hf, rfl, (ho.bt hv).mono fun k hk => .inr hk⟩
theorem cutRow {w : World} {S : Nat → Prop} {A : Option Addr} {cap m : Nat} {l : List Sg} (h : RowIn w S 7 (.slice A l.length cap) l.length (encSs l)) (hm : m ≤ l.length) : RowIn w S 7 (.slice A m cap) (l.take m).length (encSs (l.take m)) := by
  have h1 := h.takeV m hm
  have e : (encSs l).take (m * 7) = encSs (l.take m) := by
    have h2 : encSs l = encSs (l.take m) ++ encSs (l.drop m) := by rw [← encSs_append, List.take_append_drop]
    have h3 : (encSs (l.take m)).length = m * 7 := by rw [encSs_len]; simp; omega
    rw [h2, ← h3, List.take_left]
  rw [e] at h1
  have e2 : (l.take m).length = m := by simp; omega
  rw [e2]
  exact h1
set_option maxRecDepth 8000 in
set_option maxHeartbeats 6400000 in
theorem rmove_more (S : Nat → Prop) (g o : Nat) (v : Value) (most : Int) (l : List Sg) (a : Pt) (w : World) (h : Rq w S g o v most l) (hmo : -9223372036854775808 ≤ most ∧ most ≤ 9223372036854775807) (hlen : l.length ≤ 1000000000)
    (hf : fitP a = true) (h1 : ¬ lastK l = 1) (h2 : ¬ most < l.length + 1) :
    Calls Try.prog 45 #[.pointer (some ⟨g, o, none⟩), ptV a] w fun e w' => e = .returned (.int .i64 0) ∧ RqTo w S g o (l ++ [moveS a]) w' := by
  obtain ⟨i0, hi, hz0, hz1, hz2⟩ := info_parts info43
  replace hi := Lib.hid hi
  replace hz0 := Lib.hid hz0
  replace hz1 := Lib.hid hz1
  replace hz2 := Lib.hid hz2
  obtain ⟨wa, hwa⟩ : ∃ wa, w.alloc (.cells #[.int .i64 a.x, .int .i64 a.y] 23) = wa := ⟨_, rfl⟩
  have hfa : Fr Nob w wa := by rw [← hwa]; exact (Fr.refl Nob w).alloc _
  have hb : Blk wa w.heap.size #[.int .i64 a.x, .int .i64 a.y] 23 := by rw [← hwa]; exact Blk.new w _ _
  have y0 := hb.cell 0
  have y1 := hb.cell 1
  simp only [List.getElem?_toArray, List.getElem?_cons_succ, List.getElem?_cons_zero] at y0 y1
  have HFA := Lib.hid hfa
  have HR := Lib.hid (h.nob hfa)
  have E1 := Lib.hid hf
  obtain ⟨A, cap, rfl, ha1, ha2⟩ := h.row.form
  have hk := lastK_getD l
  clear h hfa hb hf
  have x1 := hmo.1
  have x2 := hmo.2
  clear hmo
  obtain ⟨n, hn⟩ : ∃ n, n = l.length := ⟨_, rfl⟩
  have HN := Lib.hid hn
  have d1 : decide (most < (n : Int) + 1) = false := by simp; omega
  -- the last one's kind
  have hlast : n = 0 ∨ ∃ m b off kd, n = m + 1 ∧ A = some ⟨b, off, none⟩ ∧ (kd == (1 : Int)) = false ∧ ∀ w', Fr Nob wa w' → w'.cell? ⟨b, off + m * 7, none⟩ = some (.int .i64 kd) := by
    rcases Nat.eq_zero_or_pos n with h0 | h0
    · exact .inl h0
    · refine .inr ?_
      obtain ⟨b, off, cap', hv, _, _, _, hc⟩ := HR.out.row.sg (by omega)
      cases hv
      have hs := hc (n - 1) (by omega)
      refine ⟨n - 1, b, off, _, by omega, rfl, ?_, fun w' hw' => cell_nob hs.c0 hw'⟩
      rw [hk, getD_at (by omega)] at h1
      have e : l[l.length - 1]'(by omega) = l[n - 1]'(by omega) := by congr 1; omega
      rw [e] at h1
      simpa using h1
  clear hk h1 h2
  have hnl : n ≤ 1000000000 := by omega
  clear hn
  go_enter Try.func45, Try.ntmps45
  unfold ptV
  go_wp2_with fail
  refine (fitp_any a wa).mono ?_
  rw [E1.out]
  rintro e w1 ⟨rfl, hf1⟩
  have z0 := cell_nob y0 hf1
  have z1 := cell_nob y1 hf1
  have hr1 := HR.out.nob hf1
  have c1 := hr1.c1
  rw [← HN.out] at c1
  have H1 := Lib.hid hf1
  clear hr1 y0 y1 hf1
  have hfq : Fr Nob w1 (w1.alloc (.cells #[.int .i64 1, .int .i64 a.x, .int .i64 a.y, .int .i64 0, .int .i64 0, .int .i64 0, .int .i64 0] 43)) := (Fr.refl Nob w1).alloc _
  have hbq : Blk (w1.alloc (.cells #[.int .i64 1, .int .i64 a.x, .int .i64 a.y, .int .i64 0, .int .i64 0, .int .i64 0, .int .i64 0] 43)) w1.heap.size (encS (moveS a)).toArray 43 := Blk.new w1 _ _
  have HQ := Lib.hid (H1.out.trans0 hfq)
  have HW := Lib.hid (HFA.out.trans0 HQ.out)
  have hrq := HR.out.nob HQ.out
  have q0 := hrq.c0
  have q1 := hrq.c1
  rw [← HN.out] at q1
  have f1 := hrq.f1
  have HRQ := Lib.hid hrq
  have HBQ := Lib.hid hbq
  have hrow := hrq.row
  rw [← HN.out] at hrow
  have HROW := Lib.hid hrow
  -- what the loads read
  have hS : ∀ w', Fr Nob (w1.alloc (.cells #[.int .i64 1, .int .i64 a.x, .int .i64 a.y, .int .i64 0, .int .i64 0, .int .i64 0, .int .i64 0] 43)) w' → w'.cell? ⟨g, o + 1, none⟩ = some (.slice A n cap) ∧ w'.frozen? ⟨g, o + 1, none⟩ = false ∧ w'.cell? ⟨w1.heap.size, 0, none⟩ = some (.int .i64 1) ∧ w'.cell? ⟨w1.heap.size, 1, none⟩ = some (.int .i64 a.x) ∧ w'.cell? ⟨w1.heap.size, 2, none⟩ = some (.int .i64 a.y) ∧ w'.cell? ⟨w1.heap.size, 3, none⟩ = some (.int .i64 0) ∧ w'.cell? ⟨w1.heap.size, 4, none⟩ = some (.int .i64 0) ∧ w'.cell? ⟨w1.heap.size, 5, none⟩ = some (.int .i64 0) ∧ w'.cell? ⟨w1.heap.size, 6, none⟩ = some (.int .i64 0) := fun w' hw' => by
    have hr := HRQ.out.nob hw'
    have hc1 := hr.c1
    rw [← HN.out] at hc1
    have hb := SgAt.own (HBQ.out.nob hw')
    exact ⟨hc1, hr.f1, hb.c0, hb.c1, hb.c2, hb.c3, hb.c4, hb.c5, hb.c6⟩
  have HS := Lib.hid hS
  clear hfq hbq hrq hS hrow
  have wn : IntKind.i64.wrap ((n : Int) + 1) = (n : Int) + 1 := IntWalk.i64_in _ (by omega)
  rcases hlast with h0 | ⟨m, b, off, kd, h0, rfl, hkd, hc⟩
  · have dn : decide (0 < n) = false := decide_eq_false (by omega)
    clear h0
    go_wp2_with fail
    generalize (w1.alloc (.cells #[.int .i64 1, .int .i64 a.x, .int .i64 a.y, .int .i64 0, .int .i64 0, .int .i64 0, .int .i64 0] 43)) = wq at *
    clear z0 z1 c1 q0 q1 f1 d1 dn wn
    obtain ⟨p0, p1, p2, p3, p4, p5, p6, p7, p8⟩ := HS.out wq (Fr.refl _ _)
    have ng1 : g < wq.heap.size := HRQ.out.lt
    have ng2 : g < wq.heap.size + 1 := by omega
    have nw1 : w1.heap.size < wq.heap.size := HBQ.out.lt
    have nw2 : w1.heap.size < wq.heap.size + 1 := by omega
    go_region_law
      ((first
        | (refine step_app0 _ rfl (.tmp 55) (.tmp 59) 32 rfl 43 i0 _ 7 56 Try.underlying32 hi.out hz0.out hz1.out hz2.out rfl (by decide) _ (by rfl) (by first | exact (Blk.new _ _ _).drew | exact ((Blk.new _ _ _).alloc _).drew | exact (Blk.new1 _ _ _ _).drew) S _ n (encSs l) (by rfl) (HROW.out.nob (by repeat (first | exact Fr.refl _ _ | exact H3.out | exact H2.out | refine Fr.alloc ?_ _ | refine Fr.drew ?_))) (encSs_one _) (by unfold maxLen; omega) (by omega) ?_
           intro v1 w2 ho hfr hat
           have H2 := Lib.hid (show Fr Nob wq w2 from Fr.trans0 (by repeat (first | exact Fr.refl _ _ | exact H3.out | exact H2.out | refine Fr.alloc ?_ _ | refine Fr.drew ?_)) hfr)
           have HV2 := Lib.hid (show NewV wq v1 from fun b hb => by rcases hat with h | h <;> rw [h] at hb <;> cases hb <;> first | (simp; done) | (simp; omega))
           have HO2 := Lib.hid ho
           have HFR := Lib.hid hfr
           obtain ⟨r0, r1, r2, r3, r4, r5, r6, r7, r8⟩ := HS.out w2 H2.out
           have mw1 : w1.heap.size < w2.heap.size := (HBQ.out.nob H2.out).lt
           have mg1 : g < w2.heap.size := (HRQ.out.nob H2.out).lt
           clear ho hfr hat)
        | (refine step_app rfl (.tmp 60) (.tmp 62) 32 rfl 43 i0 _ 7 56 Try.underlying32 hi.out hz0.out hz1.out hz2.out rfl (by decide) _ n (encSs l) (by rfl) (HO2.out.nob (by repeat (first | exact Fr.refl _ _ | refine Fr.alloc ?_ _ | refine Fr.drew ?_))) _ _ 1 (encSs [moveS a]) (by rfl) (Blk.sgs (l := [moveS a]) (by first | exact (Blk.new w2 _ _).drew | exact ((Blk.new1 _ _ _ _).drew).nob HFR.out | exact (((Blk.new _ _ _).alloc _).drew).nob HFR.out) (by simp)) (encSs_one _) (by unfold maxLen; omega) (by omega) ?_
           intro v3 w3 ho hfr hat _
           have H3 := Lib.hid (fr_of_app hfr (by repeat (first | exact Fr.refl _ _ | exact H3.out | exact H2.out | refine Fr.alloc ?_ _ | refine Fr.drew ?_)) HV2.out)
           have HV3 := Lib.hid (new_of_app hat (by repeat (first | exact Fr.refl _ _ | exact H3.out | exact H2.out | refine Fr.alloc ?_ _ | refine Fr.drew ?_)) HV2.out)
           have HO3 := Lib.hid ho
           obtain ⟨A3, cap3, rfl, _, _⟩ := ho.form
           obtain ⟨k0, k1, _⟩ := HS.out w3 H3.out
           clear ho hfr hat)))
    all_goals
      go_wp2_with fail
      go_ret
      exact ⟨rfl, (RqTo.put (l := l ++ [moveS a]) H3.out HO3.out (by simp [HN.out]) (by simp [encSs_append]) HV3.out).after HW.out⟩
  · have hc1 := hc _ HQ.out
    have e0 : (n : Int) - 1 = m := by omega
    have i1 : (m : Int) < n := by omega
    have i0' : (0 : Int) ≤ m := by omega
    have wm : IntKind.i64.wrap (m : Int) = m := IntWalk.i64_in _ (by omega)
    have dn : decide (0 < n) = true := decide_eq_true (by omega)
    clear hc h0
    go_wp2_with fail
    generalize (w1.alloc (.cells #[.int .i64 1, .int .i64 a.x, .int .i64 a.y, .int .i64 0, .int .i64 0, .int .i64 0, .int .i64 0] 43)) = wq at *
    clear z0 z1 c1 q0 q1 f1 d1 dn wn hc1 e0 i1 i0' wm hkd
    obtain ⟨p0, p1, p2, p3, p4, p5, p6, p7, p8⟩ := HS.out wq (Fr.refl _ _)
    have ng1 : g < wq.heap.size := HRQ.out.lt
    have ng2 : g < wq.heap.size + 1 := by omega
    have nw1 : w1.heap.size < wq.heap.size := HBQ.out.lt
    have nw2 : w1.heap.size < wq.heap.size + 1 := by omega
    go_region_law
      ((first
        | (refine step_app0 _ rfl (.tmp 55) (.tmp 59) 32 rfl 43 i0 _ 7 56 Try.underlying32 hi.out hz0.out hz1.out hz2.out rfl (by decide) _ (by rfl) (by first | exact (Blk.new _ _ _).drew | exact ((Blk.new _ _ _).alloc _).drew | exact (Blk.new1 _ _ _ _).drew) S _ n (encSs l) (by rfl) (HROW.out.nob (by repeat (first | exact Fr.refl _ _ | exact H3.out | exact H2.out | refine Fr.alloc ?_ _ | refine Fr.drew ?_))) (encSs_one _) (by unfold maxLen; omega) (by omega) ?_
           intro v1 w2 ho hfr hat
           have H2 := Lib.hid (show Fr Nob wq w2 from Fr.trans0 (by repeat (first | exact Fr.refl _ _ | exact H3.out | exact H2.out | refine Fr.alloc ?_ _ | refine Fr.drew ?_)) hfr)
           have HV2 := Lib.hid (show NewV wq v1 from fun b hb => by rcases hat with h | h <;> rw [h] at hb <;> cases hb <;> first | (simp; done) | (simp; omega))
           have HO2 := Lib.hid ho
           have HFR := Lib.hid hfr
           obtain ⟨r0, r1, r2, r3, r4, r5, r6, r7, r8⟩ := HS.out w2 H2.out
           have mw1 : w1.heap.size < w2.heap.size := (HBQ.out.nob H2.out).lt
           have mg1 : g < w2.heap.size := (HRQ.out.nob H2.out).lt
           clear ho hfr hat)
        | (refine step_app rfl (.tmp 60) (.tmp 62) 32 rfl 43 i0 _ 7 56 Try.underlying32 hi.out hz0.out hz1.out hz2.out rfl (by decide) _ n (encSs l) (by rfl) (HO2.out.nob (by repeat (first | exact Fr.refl _ _ | refine Fr.alloc ?_ _ | refine Fr.drew ?_))) _ _ 1 (encSs [moveS a]) (by rfl) (Blk.sgs (l := [moveS a]) (by first | exact (Blk.new w2 _ _).drew | exact ((Blk.new1 _ _ _ _).drew).nob HFR.out | exact (((Blk.new _ _ _).alloc _).drew).nob HFR.out) (by simp)) (encSs_one _) (by unfold maxLen; omega) (by omega) ?_
           intro v3 w3 ho hfr hat _
           have H3 := Lib.hid (fr_of_app hfr (by repeat (first | exact Fr.refl _ _ | exact H3.out | exact H2.out | refine Fr.alloc ?_ _ | refine Fr.drew ?_)) HV2.out)
           have HV3 := Lib.hid (new_of_app hat (by repeat (first | exact Fr.refl _ _ | exact H3.out | exact H2.out | refine Fr.alloc ?_ _ | refine Fr.drew ?_)) HV2.out)
           have HO3 := Lib.hid ho
           obtain ⟨A3, cap3, rfl, _, _⟩ := ho.form
           obtain ⟨k0, k1, _⟩ := HS.out w3 H3.out
           clear ho hfr hat)))
    all_goals
      go_wp2_with fail
      go_ret
      exact ⟨rfl, (RqTo.put (l := l ++ [moveS a]) H3.out HO3.out (by simp [HN.out]) (by simp [encSs_append]) HV3.out).after HW.out⟩
end Go.Proofs.Ytkkejjfmidgciaa
