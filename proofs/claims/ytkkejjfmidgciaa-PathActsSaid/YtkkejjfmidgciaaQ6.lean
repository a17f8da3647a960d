/-
  The walks of the reference's draw, Line, Curve, Close.
-/
import Derived.Test.YtkkejjfmidgciaaQ5
namespace Go.Proofs.Ytkkejjfmidgciaa
open Go.RowKit
set_option linter.unusedVariables false
set_option linter.unusedSimpArgs false
theorem Blk.sgs2 {w : World} {g : Nat} {l : List Sg} (h : Blk w g (encSs l).toArray 43) {n : Nat} (hn : n = l.length) (hl : l.length ≤ 10) : RowIn w (fun k => k = g) 7 (.slice (some ⟨g, 0, none⟩) n n) n (encSs l) := by subst hn; exact h.sgs hl
set_option maxRecDepth 8000 in
set_option maxHeartbeats 6400000 in
theorem rdraw_none (S : Nat → Prop) (g o : Nat) (v : Value) (most : Int) (l : List Sg) (s : Sg) (w : World) (h : Rq w S g o v most l) (h0 : l.length = 0) :
    Calls Try.prog 67 #[.pointer (some ⟨g, o, none⟩), sgV s] w fun e w' => e = .returned (.int .i64 10) ∧ Fr Nob w w' := by
  have hf : Fr Nob w (w.alloc (.cells #[.int .i64 s.kind, .int .i64 s.a.x, .int .i64 s.a.y, .int .i64 s.b.x, .int .i64 s.b.y, .int .i64 s.c.x, .int .i64 s.c.y] 43)) := (Fr.refl Nob w).alloc _
  have HR := Lib.hid (h.nob hf)
  have HF := Lib.hid hf
  have HV := Lib.hid (show rcurV l = .tuple #[ptV oo, .bool false] by simp [rcurV, h0])
  clear h hf h0
  unfold sgV
  go_enter Try.func67, Try.ntmps67
  go_wp2_with fail
  refine (rcur_any S g o v most l _ HR.out).mono ?_
  rw [HV.out]
  unfold ptV oo
  rintro e w1 ⟨rfl, hf1⟩
  have H1 := Lib.hid (HF.out.trans0 hf1)
  clear hf1
  go_wp2_with fail
  go_ret
  exact ⟨rfl, H1.out.alloc _⟩
set_option maxRecDepth 8000 in
set_option maxHeartbeats 6400000 in
theorem rdraw_one_full (S : Nat → Prop) (g o : Nat) (v : Value) (most : Int) (l : List Sg) (s : Sg) (w : World) (h : Rq w S g o v most l) (hmo : -9223372036854775808 ≤ most ∧ most ≤ 9223372036854775807) (hlen : l.length ≤ 1000000000) (h0 : 0 < l.length) (h4 : ¬ lastK l = 4) (hlim : most < l.length + 1) :
    Calls Try.prog 67 #[.pointer (some ⟨g, o, none⟩), sgV s] w fun e w' => e = .returned (.int .i64 9) ∧ Fr Nob w w' := by
  obtain ⟨i0, hi, hz0, hz1, hz2⟩ := info_parts info43
  replace hi := Lib.hid hi
  replace hz0 := Lib.hid hz0
  replace hz1 := Lib.hid hz1
  replace hz2 := Lib.hid hz2
  have hf : Fr Nob w (w.alloc (.cells #[.int .i64 s.kind, .int .i64 s.a.x, .int .i64 s.a.y, .int .i64 s.b.x, .int .i64 s.b.y, .int .i64 s.c.x, .int .i64 s.c.y] 43)) := (Fr.refl Nob w).alloc _
  have hb : Blk (w.alloc (.cells #[.int .i64 s.kind, .int .i64 s.a.x, .int .i64 s.a.y, .int .i64 s.b.x, .int .i64 s.b.y, .int .i64 s.c.x, .int .i64 s.c.y] 43)) w.heap.size (encS s).toArray 43 := Blk.new w _ _
  have HR := Lib.hid (h.nob hf)
  have HF := Lib.hid hf
  have HB := Lib.hid hb
  have HV := Lib.hid (show rcurV l = .tuple #[ptV (curR l), .bool true] by unfold rcurV; rw [if_neg (by omega)])
  obtain ⟨A, cap, rfl, ha1, ha2⟩ := h.row.form
  have x1 := hmo.1
  have x2 := hmo.2
  clear hmo
  have hk := lastK_getD l
  obtain ⟨n, hn⟩ : ∃ n, n = l.length := ⟨_, rfl⟩
  have HN := Lib.hid hn
  obtain ⟨m, hm⟩ : ∃ m, m = n - 1 := ⟨_, rfl⟩
  have HG : Hid (∀ w', Fr Nob w w' → w'.cell? ⟨g, o, none⟩ = some (.int .i64 most) ∧ w'.cell? ⟨g, o + 1, none⟩ = some (.slice A n cap) ∧ w'.frozen? ⟨g, o + 1, none⟩ = false ∧ RowIn w' S 7 (.slice A n cap) n (encSs l)) := by
    intro w' hw'
    have hr := h.nob hw'
    rw [← hn] at hr
    exact ⟨hr.c0, hr.c1, hr.f1, by have := hr.row; rwa [← hn] at this⟩
  obtain ⟨b, off, kd, hA, hkd, hc⟩ : ∃ b off kd, A = some ⟨b, off, none⟩ ∧ kd = lastK l ∧ ∀ w', Fr Nob w w' → w'.cell? ⟨b, off + m * 7, none⟩ = some (.int .i64 kd) := by
    obtain ⟨b, off, cap', hv, _, _, _, hc⟩ := h.row.sg h0
    cases hv
    have hs := hc m (by omega)
    refine ⟨b, off, _, rfl, ?_, fun w' hw' => cell_nob hs.c0 hw'⟩
    rw [hk, getD_at (by omega)]
    congr 1
    congr 1
    omega
  subst hA
  rw [← hkd] at h4
  have q4 : (kd == (4 : Int)) = false := by simpa using h4
  have HC := Lib.hid hc
  have e0 : (n : Int) - 1 = m := by omega
  have i1 : (m : Int) < n := by omega
  have i0' : (0 : Int) ≤ m := by omega
  have hnl : n ≤ 1000000000 := by omega
  have wm : IntKind.i64.wrap (m : Int) = m := IntWalk.i64_in _ (by omega)
  have d1 : decide (most < (n : Int) + 1) = true := by simp; omega
  clear h hf hb hk h4 hm hkd hlim h0 hn hc
  obtain ⟨cu, hcu⟩ : ∃ cu, curR l = cu := ⟨_, rfl⟩
  have HCU := Lib.hid hcu
  rw [hcu] at HV
  clear hcu
  unfold sgV
  go_enter Try.func67, Try.ntmps67
  go_wp2_with fail
  refine (rcur_any S g o _ most l _ HR.out).mono ?_
  rw [HV.out]
  unfold ptV
  rintro e w1 ⟨rfl, hf1⟩
  have hfa : Fr Nob w1 (w1.alloc (.cells #[.int .i64 cu.x, .int .i64 cu.y] 23)) := (Fr.refl Nob w1).alloc _
  have hba : Blk (w1.alloc (.cells #[.int .i64 cu.x, .int .i64 cu.y] 23)) w1.heap.size #[.int .i64 cu.x, .int .i64 cu.y] 23 := Blk.new w1 _ _
  have hsa := SgAt.own ((HB.out.nob hf1).nob hfa)
  obtain ⟨s0, s1, s2, s3, s4, s5, s6⟩ := hsa
  have H1 := Lib.hid (HF.out.trans0 hf1)
  have HA := Lib.hid hba
  have hfb : Fr Nob (w1.alloc (.cells #[.int .i64 cu.x, .int .i64 cu.y] 23)) ((w1.alloc (.cells #[.int .i64 cu.x, .int .i64 cu.y] 23)).alloc (.cells #[.int .i64 s.kind, .int .i64 s.a.x, .int .i64 s.a.y, .int .i64 s.b.x, .int .i64 s.b.y, .int .i64 s.c.x, .int .i64 s.c.y] 43)) := (Fr.refl Nob _).alloc _
  have hbb : Blk ((w1.alloc (.cells #[.int .i64 cu.x, .int .i64 cu.y] 23)).alloc (.cells #[.int .i64 s.kind, .int .i64 s.a.x, .int .i64 s.a.y, .int .i64 s.b.x, .int .i64 s.b.y, .int .i64 s.c.x, .int .i64 s.c.y] 43)) (w1.heap.size + 1) (encSs [s]).toArray 43 := Blk.new1 w1 _ _ _
  have H2 := Lib.hid (H1.out.trans0 (hfa.trans0 hfb))
  have HA2 := Lib.hid (hba.nob hfb)
  have HS2 := Lib.hid ((HB.out.nob hf1).nob (hfa.trans0 hfb))
  have HM2 := Lib.hid hbb
  clear hf1 hfa hba hfb hbb
  go_wp2_with fail
  generalize (w1.alloc (.cells #[.int .i64 cu.x, .int .i64 cu.y] 23)).alloc (.cells #[.int .i64 s.kind, .int .i64 s.a.x, .int .i64 s.a.y, .int .i64 s.b.x, .int .i64 s.b.y, .int .i64 s.c.x, .int .i64 s.c.y] 43) = wb at *
  clear s0 s1 s2 s3 s4 s5 s6 HA
  obtain ⟨c0, c1, f1, _⟩ := HG.out wb H2.out
  have cc := HC.out wb H2.out
  go_quiet (fail)
  have HD := Lib.hid (H2.out.drewN nq)
  have HM := Lib.hid (HM2.out.drewN nq)
  clear HA2 HS2 HM2
  generalize wb.drewN nq = wd at *
  go_wp2_with fail
  clear c0 c1 f1
  obtain ⟨c0, c1, f1, _⟩ := HG.out _ HD.out
  have wn : IntKind.i64.wrap ((n : Int) + 1) = (n : Int) + 1 := IntWalk.i64_in _ (by omega)
  go_quiet (fail)
  go_wp2_with fail
  go_ret
  exact ⟨rfl, HD.out.drewN _⟩
set_option maxRecDepth 8000 in
set_option maxHeartbeats 6400000 in
theorem rdraw_one_more (S : Nat → Prop) (g o : Nat) (v : Value) (most : Int) (l : List Sg) (s : Sg) (w : World) (h : Rq w S g o v most l) (hmo : -9223372036854775808 ≤ most ∧ most ≤ 9223372036854775807) (hlen : l.length ≤ 1000000000) (h0 : 0 < l.length) (h4 : ¬ lastK l = 4) (hlim : ¬ most < l.length + 1) :
    Calls Try.prog 67 #[.pointer (some ⟨g, o, none⟩), sgV s] w fun e w' => e = .returned (.int .i64 0) ∧ RqTo w S g o (l ++ [s]) w' := by
  obtain ⟨i0, hi, hz0, hz1, hz2⟩ := info_parts info43
  replace hi := Lib.hid hi
  replace hz0 := Lib.hid hz0
  replace hz1 := Lib.hid hz1
  replace hz2 := Lib.hid hz2
  have hf : Fr Nob w (w.alloc (.cells #[.int .i64 s.kind, .int .i64 s.a.x, .int .i64 s.a.y, .int .i64 s.b.x, .int .i64 s.b.y, .int .i64 s.c.x, .int .i64 s.c.y] 43)) := (Fr.refl Nob w).alloc _
  have hb : Blk (w.alloc (.cells #[.int .i64 s.kind, .int .i64 s.a.x, .int .i64 s.a.y, .int .i64 s.b.x, .int .i64 s.b.y, .int .i64 s.c.x, .int .i64 s.c.y] 43)) w.heap.size (encS s).toArray 43 := Blk.new w _ _
  have HR := Lib.hid (h.nob hf)
  have HF := Lib.hid hf
  have HB := Lib.hid hb
  have HV := Lib.hid (show rcurV l = .tuple #[ptV (curR l), .bool true] by unfold rcurV; rw [if_neg (by omega)])
  obtain ⟨A, cap, rfl, ha1, ha2⟩ := h.row.form
  have x1 := hmo.1
  have x2 := hmo.2
  clear hmo
  have hk := lastK_getD l
  obtain ⟨n, hn⟩ : ∃ n, n = l.length := ⟨_, rfl⟩
  have HN := Lib.hid hn
  obtain ⟨m, hm⟩ : ∃ m, m = n - 1 := ⟨_, rfl⟩
  have HG : Hid (∀ w', Fr Nob w w' → w'.cell? ⟨g, o, none⟩ = some (.int .i64 most) ∧ w'.cell? ⟨g, o + 1, none⟩ = some (.slice A n cap) ∧ w'.frozen? ⟨g, o + 1, none⟩ = false ∧ RowIn w' S 7 (.slice A n cap) n (encSs l)) := by
    intro w' hw'
    have hr := h.nob hw'
    rw [← hn] at hr
    exact ⟨hr.c0, hr.c1, hr.f1, by have := hr.row; rwa [← hn] at this⟩
  obtain ⟨b, off, kd, hA, hkd, hc⟩ : ∃ b off kd, A = some ⟨b, off, none⟩ ∧ kd = lastK l ∧ ∀ w', Fr Nob w w' → w'.cell? ⟨b, off + m * 7, none⟩ = some (.int .i64 kd) := by
    obtain ⟨b, off, cap', hv, _, _, _, hc⟩ := h.row.sg h0
    cases hv
    have hs := hc m (by omega)
    refine ⟨b, off, _, rfl, ?_, fun w' hw' => cell_nob hs.c0 hw'⟩
    rw [hk, getD_at (by omega)]
    congr 1
    congr 1
    omega
  subst hA
  rw [← hkd] at h4
  have q4 : (kd == (4 : Int)) = false := by simpa using h4
  have HC := Lib.hid hc
  have e0 : (n : Int) - 1 = m := by omega
  have i1 : (m : Int) < n := by omega
  have i0' : (0 : Int) ≤ m := by omega
  have hnl : n ≤ 1000000000 := by omega
  have wm : IntKind.i64.wrap (m : Int) = m := IntWalk.i64_in _ (by omega)
  have d1 : decide (most < (n : Int) + 1) = false := by simp; omega
  clear h hf hb hk h4 hm hkd hlim h0 hn hc
  obtain ⟨cu, hcu⟩ : ∃ cu, curR l = cu := ⟨_, rfl⟩
  have HCU := Lib.hid hcu
  rw [hcu] at HV
  clear hcu
  unfold sgV
  go_enter Try.func67, Try.ntmps67
  go_wp2_with fail
  refine (rcur_any S g o _ most l _ HR.out).mono ?_
  rw [HV.out]
  unfold ptV
  rintro e w1 ⟨rfl, hf1⟩
  have hfa : Fr Nob w1 (w1.alloc (.cells #[.int .i64 cu.x, .int .i64 cu.y] 23)) := (Fr.refl Nob w1).alloc _
  have hba : Blk (w1.alloc (.cells #[.int .i64 cu.x, .int .i64 cu.y] 23)) w1.heap.size #[.int .i64 cu.x, .int .i64 cu.y] 23 := Blk.new w1 _ _
  have hsa := SgAt.own ((HB.out.nob hf1).nob hfa)
  obtain ⟨s0, s1, s2, s3, s4, s5, s6⟩ := hsa
  have H1 := Lib.hid (HF.out.trans0 hf1)
  have HA := Lib.hid hba
  have hfb : Fr Nob (w1.alloc (.cells #[.int .i64 cu.x, .int .i64 cu.y] 23)) ((w1.alloc (.cells #[.int .i64 cu.x, .int .i64 cu.y] 23)).alloc (.cells #[.int .i64 s.kind, .int .i64 s.a.x, .int .i64 s.a.y, .int .i64 s.b.x, .int .i64 s.b.y, .int .i64 s.c.x, .int .i64 s.c.y] 43)) := (Fr.refl Nob _).alloc _
  have hbb : Blk ((w1.alloc (.cells #[.int .i64 cu.x, .int .i64 cu.y] 23)).alloc (.cells #[.int .i64 s.kind, .int .i64 s.a.x, .int .i64 s.a.y, .int .i64 s.b.x, .int .i64 s.b.y, .int .i64 s.c.x, .int .i64 s.c.y] 43)) (w1.heap.size + 1) (encSs [s]).toArray 43 := Blk.new1 w1 _ _ _
  have H2 := Lib.hid (H1.out.trans0 (hfa.trans0 hfb))
  have HA2 := Lib.hid (hba.nob hfb)
  have HS2 := Lib.hid ((HB.out.nob hf1).nob (hfa.trans0 hfb))
  have HM2 := Lib.hid hbb
  clear hf1 hfa hba hfb hbb
  go_wp2_with fail
  generalize (w1.alloc (.cells #[.int .i64 cu.x, .int .i64 cu.y] 23)).alloc (.cells #[.int .i64 s.kind, .int .i64 s.a.x, .int .i64 s.a.y, .int .i64 s.b.x, .int .i64 s.b.y, .int .i64 s.c.x, .int .i64 s.c.y] 43) = wb at *
  clear s0 s1 s2 s3 s4 s5 s6 HA
  obtain ⟨c0, c1, f1, _⟩ := HG.out wb H2.out
  have cc := HC.out wb H2.out
  go_quiet (fail)
  have HD := Lib.hid (H2.out.drewN nq)
  have HM := Lib.hid (HM2.out.drewN nq)
  clear HA2 HS2 HM2
  generalize wb.drewN nq = wd at *
  go_wp2_with fail
  clear c0 c1 f1
  obtain ⟨c0, c1, f1, _⟩ := HG.out _ HD.out
  have wn : IntKind.i64.wrap ((n : Int) + 1) = (n : Int) + 1 := IntWalk.i64_in _ (by omega)
  go_quiet (fail)
  have HE := Lib.hid (HD.out.drewN nq)
  have HM3 := Lib.hid (HM.out.drewN nq)
  generalize wd.drewN nq = we at *
  obtain ⟨_, _, _, krow⟩ := HG.out _ (HE.out.alloc (.cells #[] 43))
  have KR := Lib.hid krow
  have hgl : g < we.heap.size := World.block_lt_of_cell? we _ (HG.out _ HE.out).1
  clear c0 c1 f1 krow cc
  obtain ⟨_, c1, f1, _⟩ := HG.out _ HE.out
  go_wp2_with (at_builtin; refine wpList_app0 _ rfl (.tmp 50) (.tmp 54) 32 rfl 43 i0 _ 7 56 Try.underlying32 hi.out hz0.out hz1.out hz2.out rfl (by decide) we.heap.size rfl (Blk.new we _ _) S _ n (encSs l) rfl KR.out (encSs_one _) (by unfold maxLen; omega) (by omega) ?_)
  intro v1 w2 ho hfr hat
  have H4 := Lib.hid (HE.out.trans0 (((Fr.refl Nob we).alloc _).trans0 hfr))
  have HN1 := Lib.hid (show NewV w v1 from fun b hb => by have := HE.out.size; rcases hat with h | h <;> rw [h] at hb <;> cases hb <;> first | omega | (simp; omega))
  have HO1 := Lib.hid ho
  have HM4 := Lib.hid ((HM3.out.alloc _).nob hfr)
  obtain ⟨_, c1, f1, _⟩ := HG.out _ H4.out
  obtain ⟨A1, cap1, rfl, _, _⟩ := ho.form
  clear ho hfr hat
  go_wp2_with (at_builtin; refine wpList_app _ rfl (.tmp 55) (.tmp 56) 32 rfl 43 i0 _ 7 56 Try.underlying32 hi.out hz0.out hz1.out hz2.out rfl (by decide) _ n (encSs l) (by rfl) HO1.out _ _ 1 (encSs [s]) (by rfl) (HM4.out.sgs2 (n := 1) rfl (by simp)) (encSs_one _) (by unfold maxLen; omega) (by omega) ?_)
  intro v3 w3 ho hfr hat
  have H5 := Lib.hid (fr_of_app hfr H4.out HN1.out)
  have HN3 := Lib.hid (new_of_app hat H4.out HN1.out)
  have HO3 := Lib.hid ho
  obtain ⟨A3, cap3, rfl, _, _⟩ := ho.form
  obtain ⟨_, c1, f1, _⟩ := HG.out _ H5.out
  clear ho hfr hat
  go_wp2_with fail
  go_ret
  exact ⟨rfl, RqTo.put (l := l ++ [s]) H5.out HO3.out (by simp [HN.out]) (by simp [encSs_append]) HN3.out⟩
set_option maxRecDepth 8000 in
set_option maxHeartbeats 6400000 in
theorem rdraw_two_full (S : Nat → Prop) (g o : Nat) (v : Value) (most : Int) (l : List Sg) (s : Sg) (w : World) (h : Rq w S g o v most l) (hmo : -9223372036854775808 ≤ most ∧ most ≤ 9223372036854775807) (hlen : l.length ≤ 1000000000) (h0 : 0 < l.length) (h4 : lastK l = 4) (hlim : most < l.length + 2) :
    Calls Try.prog 67 #[.pointer (some ⟨g, o, none⟩), sgV s] w fun e w' => e = .returned (.int .i64 9) ∧ Fr Nob w w' := by
  obtain ⟨i0, hi, hz0, hz1, hz2⟩ := info_parts info43
  replace hi := Lib.hid hi
  replace hz0 := Lib.hid hz0
  replace hz1 := Lib.hid hz1
  replace hz2 := Lib.hid hz2
  have hf : Fr Nob w (w.alloc (.cells #[.int .i64 s.kind, .int .i64 s.a.x, .int .i64 s.a.y, .int .i64 s.b.x, .int .i64 s.b.y, .int .i64 s.c.x, .int .i64 s.c.y] 43)) := (Fr.refl Nob w).alloc _
  have hb : Blk (w.alloc (.cells #[.int .i64 s.kind, .int .i64 s.a.x, .int .i64 s.a.y, .int .i64 s.b.x, .int .i64 s.b.y, .int .i64 s.c.x, .int .i64 s.c.y] 43)) w.heap.size (encS s).toArray 43 := Blk.new w _ _
  have HR := Lib.hid (h.nob hf)
  have HF := Lib.hid hf
  have HB := Lib.hid hb
  have HV := Lib.hid (show rcurV l = .tuple #[ptV (curR l), .bool true] by unfold rcurV; rw [if_neg (by omega)])
  obtain ⟨A, cap, rfl, ha1, ha2⟩ := h.row.form
  have x1 := hmo.1
  have x2 := hmo.2
  clear hmo
  have hk := lastK_getD l
  obtain ⟨n, hn⟩ : ∃ n, n = l.length := ⟨_, rfl⟩
  have HN := Lib.hid hn
  obtain ⟨m, hm⟩ : ∃ m, m = n - 1 := ⟨_, rfl⟩
  have HG : Hid (∀ w', Fr Nob w w' → w'.cell? ⟨g, o, none⟩ = some (.int .i64 most) ∧ w'.cell? ⟨g, o + 1, none⟩ = some (.slice A n cap) ∧ w'.frozen? ⟨g, o + 1, none⟩ = false ∧ RowIn w' S 7 (.slice A n cap) n (encSs l)) := by
    intro w' hw'
    have hr := h.nob hw'
    rw [← hn] at hr
    exact ⟨hr.c0, hr.c1, hr.f1, by have := hr.row; rwa [← hn] at this⟩
  obtain ⟨b, off, kd, hA, hkd, hc⟩ : ∃ b off kd, A = some ⟨b, off, none⟩ ∧ kd = lastK l ∧ ∀ w', Fr Nob w w' → w'.cell? ⟨b, off + m * 7, none⟩ = some (.int .i64 kd) := by
    obtain ⟨b, off, cap', hv, _, _, _, hc⟩ := h.row.sg h0
    cases hv
    have hs := hc m (by omega)
    refine ⟨b, off, _, rfl, ?_, fun w' hw' => cell_nob hs.c0 hw'⟩
    rw [hk, getD_at (by omega)]
    congr 1
    congr 1
    omega
  subst hA
  rw [← hkd] at h4
  subst h4; have h4 := 0
  have HC := Lib.hid hc
  have e0 : (n : Int) - 1 = m := by omega
  have i1 : (m : Int) < n := by omega
  have i0' : (0 : Int) ≤ m := by omega
  have hnl : n ≤ 1000000000 := by omega
  have wm : IntKind.i64.wrap (m : Int) = m := IntWalk.i64_in _ (by omega)
  have d1 : decide (most < (n : Int) + 2) = true := by simp; omega
  clear h hf hb hk h4 hm hkd hlim h0 hn hc
  obtain ⟨cu, hcu⟩ : ∃ cu, curR l = cu := ⟨_, rfl⟩
  have HCU := Lib.hid hcu
  rw [hcu] at HV
  clear hcu
  unfold sgV
  go_enter Try.func67, Try.ntmps67
  go_wp2_with fail
  refine (rcur_any S g o _ most l _ HR.out).mono ?_
  rw [HV.out]
  unfold ptV
  rintro e w1 ⟨rfl, hf1⟩
  have hfa : Fr Nob w1 (w1.alloc (.cells #[.int .i64 cu.x, .int .i64 cu.y] 23)) := (Fr.refl Nob w1).alloc _
  have hba : Blk (w1.alloc (.cells #[.int .i64 cu.x, .int .i64 cu.y] 23)) w1.heap.size #[.int .i64 cu.x, .int .i64 cu.y] 23 := Blk.new w1 _ _
  have hsa := SgAt.own ((HB.out.nob hf1).nob hfa)
  obtain ⟨s0, s1, s2, s3, s4, s5, s6⟩ := hsa
  have H1 := Lib.hid (HF.out.trans0 hf1)
  have HA := Lib.hid hba
  have hfb : Fr Nob (w1.alloc (.cells #[.int .i64 cu.x, .int .i64 cu.y] 23)) ((w1.alloc (.cells #[.int .i64 cu.x, .int .i64 cu.y] 23)).alloc (.cells #[.int .i64 s.kind, .int .i64 s.a.x, .int .i64 s.a.y, .int .i64 s.b.x, .int .i64 s.b.y, .int .i64 s.c.x, .int .i64 s.c.y] 43)) := (Fr.refl Nob _).alloc _
  have hbb : Blk ((w1.alloc (.cells #[.int .i64 cu.x, .int .i64 cu.y] 23)).alloc (.cells #[.int .i64 s.kind, .int .i64 s.a.x, .int .i64 s.a.y, .int .i64 s.b.x, .int .i64 s.b.y, .int .i64 s.c.x, .int .i64 s.c.y] 43)) (w1.heap.size + 1) (encSs [s]).toArray 43 := Blk.new1 w1 _ _ _
  have H2 := Lib.hid (H1.out.trans0 (hfa.trans0 hfb))
  have HA2 := Lib.hid (hba.nob hfb)
  have HS2 := Lib.hid ((HB.out.nob hf1).nob (hfa.trans0 hfb))
  have HM2 := Lib.hid hbb
  clear hf1 hfa hba hfb hbb
  go_wp2_with fail
  generalize (w1.alloc (.cells #[.int .i64 cu.x, .int .i64 cu.y] 23)).alloc (.cells #[.int .i64 s.kind, .int .i64 s.a.x, .int .i64 s.a.y, .int .i64 s.b.x, .int .i64 s.b.y, .int .i64 s.c.x, .int .i64 s.c.y] 43) = wb at *
  clear s0 s1 s2 s3 s4 s5 s6 HA
  obtain ⟨c0, c1, f1, _⟩ := HG.out wb H2.out
  have cc := HC.out wb H2.out
  go_quiet (fail)
  have H3 := Lib.hid (H2.out.drewN nq)
  have hs3 := SgAt.own (HS2.out.drewN nq)
  have ha3 := HA2.out.drewN nq
  clear HA2 HS2 HM2
  generalize wb.drewN nq = wc at *
  obtain ⟨s0, s1, s2, s3, s4, s5, s6⟩ := hs3
  have a0 := ha3.cell 0
  have a1 := ha3.cell 1
  simp only [List.getElem?_toArray, List.getElem?_cons_succ, List.getElem?_cons_zero] at a0 a1
  have HD := Lib.hid (H3.out.alloc (.cells #[.int .i64 1, .int .i64 cu.x, .int .i64 cu.y, .int .i64 0, .int .i64 0, .int .i64 0, .int .i64 0, .int .i64 s.kind, .int .i64 s.a.x, .int .i64 s.a.y, .int .i64 s.b.x, .int .i64 s.b.y, .int .i64 s.c.x, .int .i64 s.c.y] 43))
  have HM := Lib.hid (show Blk (wc.alloc (.cells #[.int .i64 1, .int .i64 cu.x, .int .i64 cu.y, .int .i64 0, .int .i64 0, .int .i64 0, .int .i64 0, .int .i64 s.kind, .int .i64 s.a.x, .int .i64 s.a.y, .int .i64 s.b.x, .int .i64 s.b.y, .int .i64 s.c.x, .int .i64 s.c.y] 43)) wc.heap.size (encSs [moveS cu, s]).toArray 43 from Blk.new wc _ _)
  clear ha3
  go_wp2_with fail
  generalize wc.alloc (.cells #[.int .i64 1, .int .i64 cu.x, .int .i64 cu.y, .int .i64 0, .int .i64 0, .int .i64 0, .int .i64 0, .int .i64 s.kind, .int .i64 s.a.x, .int .i64 s.a.y, .int .i64 s.b.x, .int .i64 s.b.y, .int .i64 s.c.x, .int .i64 s.c.y] 43) = wd at *
  clear s0 s1 s2 s3 s4 s5 s6 a0 a1
  clear c0 c1 f1
  obtain ⟨c0, c1, f1, _⟩ := HG.out _ HD.out
  have wn : IntKind.i64.wrap ((n : Int) + 2) = (n : Int) + 2 := IntWalk.i64_in _ (by omega)
  go_quiet (fail)
  go_wp2_with fail
  go_ret
  exact ⟨rfl, HD.out.drewN _⟩
set_option maxRecDepth 8000 in
set_option maxHeartbeats 6400000 in
theorem rdraw_two_more (S : Nat → Prop) (g o : Nat) (v : Value) (most : Int) (l : List Sg) (s : Sg) (w : World) (h : Rq w S g o v most l) (hmo : -9223372036854775808 ≤ most ∧ most ≤ 9223372036854775807) (hlen : l.length ≤ 1000000000) (h0 : 0 < l.length) (h4 : lastK l = 4) (hlim : ¬ most < l.length + 2) :
    Calls Try.prog 67 #[.pointer (some ⟨g, o, none⟩), sgV s] w fun e w' => e = .returned (.int .i64 0) ∧ RqTo w S g o (l ++ [moveS (curR l), s]) w' := by
  obtain ⟨i0, hi, hz0, hz1, hz2⟩ := info_parts info43
  replace hi := Lib.hid hi
  replace hz0 := Lib.hid hz0
  replace hz1 := Lib.hid hz1
  replace hz2 := Lib.hid hz2
  have hf : Fr Nob w (w.alloc (.cells #[.int .i64 s.kind, .int .i64 s.a.x, .int .i64 s.a.y, .int .i64 s.b.x, .int .i64 s.b.y, .int .i64 s.c.x, .int .i64 s.c.y] 43)) := (Fr.refl Nob w).alloc _
  have hb : Blk (w.alloc (.cells #[.int .i64 s.kind, .int .i64 s.a.x, .int .i64 s.a.y, .int .i64 s.b.x, .int .i64 s.b.y, .int .i64 s.c.x, .int .i64 s.c.y] 43)) w.heap.size (encS s).toArray 43 := Blk.new w _ _
  have HR := Lib.hid (h.nob hf)
  have HF := Lib.hid hf
  have HB := Lib.hid hb
  have HV := Lib.hid (show rcurV l = .tuple #[ptV (curR l), .bool true] by unfold rcurV; rw [if_neg (by omega)])
  obtain ⟨A, cap, rfl, ha1, ha2⟩ := h.row.form
  have x1 := hmo.1
  have x2 := hmo.2
  clear hmo
  have hk := lastK_getD l
  obtain ⟨n, hn⟩ : ∃ n, n = l.length := ⟨_, rfl⟩
  have HN := Lib.hid hn
  obtain ⟨m, hm⟩ : ∃ m, m = n - 1 := ⟨_, rfl⟩
  have HG : Hid (∀ w', Fr Nob w w' → w'.cell? ⟨g, o, none⟩ = some (.int .i64 most) ∧ w'.cell? ⟨g, o + 1, none⟩ = some (.slice A n cap) ∧ w'.frozen? ⟨g, o + 1, none⟩ = false ∧ RowIn w' S 7 (.slice A n cap) n (encSs l)) := by
    intro w' hw'
    have hr := h.nob hw'
    rw [← hn] at hr
    exact ⟨hr.c0, hr.c1, hr.f1, by have := hr.row; rwa [← hn] at this⟩
  obtain ⟨b, off, kd, hA, hkd, hc⟩ : ∃ b off kd, A = some ⟨b, off, none⟩ ∧ kd = lastK l ∧ ∀ w', Fr Nob w w' → w'.cell? ⟨b, off + m * 7, none⟩ = some (.int .i64 kd) := by
    obtain ⟨b, off, cap', hv, _, _, _, hc⟩ := h.row.sg h0
    cases hv
    have hs := hc m (by omega)
    refine ⟨b, off, _, rfl, ?_, fun w' hw' => cell_nob hs.c0 hw'⟩
    rw [hk, getD_at (by omega)]
    congr 1
    congr 1
    omega
  subst hA
  rw [← hkd] at h4
  subst h4; have h4 := 0
  have HC := Lib.hid hc
  have e0 : (n : Int) - 1 = m := by omega
  have i1 : (m : Int) < n := by omega
  have i0' : (0 : Int) ≤ m := by omega
  have hnl : n ≤ 1000000000 := by omega
  have wm : IntKind.i64.wrap (m : Int) = m := IntWalk.i64_in _ (by omega)
  have d1 : decide (most < (n : Int) + 2) = false := by simp; omega
  clear h hf hb hk h4 hm hkd hlim h0 hn hc
  obtain ⟨cu, hcu⟩ : ∃ cu, curR l = cu := ⟨_, rfl⟩
  have HCU := Lib.hid hcu
  rw [hcu] at HV
  clear hcu
  unfold sgV
  go_enter Try.func67, Try.ntmps67
  go_wp2_with fail
  refine (rcur_any S g o _ most l _ HR.out).mono ?_
  rw [HV.out]
  unfold ptV
  rintro e w1 ⟨rfl, hf1⟩
  have hfa : Fr Nob w1 (w1.alloc (.cells #[.int .i64 cu.x, .int .i64 cu.y] 23)) := (Fr.refl Nob w1).alloc _
  have hba : Blk (w1.alloc (.cells #[.int .i64 cu.x, .int .i64 cu.y] 23)) w1.heap.size #[.int .i64 cu.x, .int .i64 cu.y] 23 := Blk.new w1 _ _
  have hsa := SgAt.own ((HB.out.nob hf1).nob hfa)
  obtain ⟨s0, s1, s2, s3, s4, s5, s6⟩ := hsa
  have H1 := Lib.hid (HF.out.trans0 hf1)
  have HA := Lib.hid hba
  have hfb : Fr Nob (w1.alloc (.cells #[.int .i64 cu.x, .int .i64 cu.y] 23)) ((w1.alloc (.cells #[.int .i64 cu.x, .int .i64 cu.y] 23)).alloc (.cells #[.int .i64 s.kind, .int .i64 s.a.x, .int .i64 s.a.y, .int .i64 s.b.x, .int .i64 s.b.y, .int .i64 s.c.x, .int .i64 s.c.y] 43)) := (Fr.refl Nob _).alloc _
  have hbb : Blk ((w1.alloc (.cells #[.int .i64 cu.x, .int .i64 cu.y] 23)).alloc (.cells #[.int .i64 s.kind, .int .i64 s.a.x, .int .i64 s.a.y, .int .i64 s.b.x, .int .i64 s.b.y, .int .i64 s.c.x, .int .i64 s.c.y] 43)) (w1.heap.size + 1) (encSs [s]).toArray 43 := Blk.new1 w1 _ _ _
  have H2 := Lib.hid (H1.out.trans0 (hfa.trans0 hfb))
  have HA2 := Lib.hid (hba.nob hfb)
  have HS2 := Lib.hid ((HB.out.nob hf1).nob (hfa.trans0 hfb))
  have HM2 := Lib.hid hbb
  clear hf1 hfa hba hfb hbb
  go_wp2_with fail
  generalize (w1.alloc (.cells #[.int .i64 cu.x, .int .i64 cu.y] 23)).alloc (.cells #[.int .i64 s.kind, .int .i64 s.a.x, .int .i64 s.a.y, .int .i64 s.b.x, .int .i64 s.b.y, .int .i64 s.c.x, .int .i64 s.c.y] 43) = wb at *
  clear s0 s1 s2 s3 s4 s5 s6 HA
  obtain ⟨c0, c1, f1, _⟩ := HG.out wb H2.out
  have cc := HC.out wb H2.out
  go_quiet (fail)
  have H3 := Lib.hid (H2.out.drewN nq)
  have hs3 := SgAt.own (HS2.out.drewN nq)
  have ha3 := HA2.out.drewN nq
  clear HA2 HS2 HM2
  generalize wb.drewN nq = wc at *
  obtain ⟨s0, s1, s2, s3, s4, s5, s6⟩ := hs3
  have a0 := ha3.cell 0
  have a1 := ha3.cell 1
  simp only [List.getElem?_toArray, List.getElem?_cons_succ, List.getElem?_cons_zero] at a0 a1
  have HD := Lib.hid (H3.out.alloc (.cells #[.int .i64 1, .int .i64 cu.x, .int .i64 cu.y, .int .i64 0, .int .i64 0, .int .i64 0, .int .i64 0, .int .i64 s.kind, .int .i64 s.a.x, .int .i64 s.a.y, .int .i64 s.b.x, .int .i64 s.b.y, .int .i64 s.c.x, .int .i64 s.c.y] 43))
  have HM := Lib.hid (show Blk (wc.alloc (.cells #[.int .i64 1, .int .i64 cu.x, .int .i64 cu.y, .int .i64 0, .int .i64 0, .int .i64 0, .int .i64 0, .int .i64 s.kind, .int .i64 s.a.x, .int .i64 s.a.y, .int .i64 s.b.x, .int .i64 s.b.y, .int .i64 s.c.x, .int .i64 s.c.y] 43)) wc.heap.size (encSs [moveS cu, s]).toArray 43 from Blk.new wc _ _)
  clear ha3
  go_wp2_with fail
  generalize wc.alloc (.cells #[.int .i64 1, .int .i64 cu.x, .int .i64 cu.y, .int .i64 0, .int .i64 0, .int .i64 0, .int .i64 0, .int .i64 s.kind, .int .i64 s.a.x, .int .i64 s.a.y, .int .i64 s.b.x, .int .i64 s.b.y, .int .i64 s.c.x, .int .i64 s.c.y] 43) = wd at *
  clear s0 s1 s2 s3 s4 s5 s6 a0 a1
  clear c0 c1 f1
  obtain ⟨c0, c1, f1, _⟩ := HG.out _ HD.out
  have wn : IntKind.i64.wrap ((n : Int) + 2) = (n : Int) + 2 := IntWalk.i64_in _ (by omega)
  go_quiet (fail)
  have HE := Lib.hid (HD.out.drewN nq)
  have HM3 := Lib.hid (HM.out.drewN nq)
  generalize wd.drewN nq = we at *
  obtain ⟨_, _, _, krow⟩ := HG.out _ (HE.out.alloc (.cells #[] 43))
  have KR := Lib.hid krow
  have hgl : g < we.heap.size := World.block_lt_of_cell? we _ (HG.out _ HE.out).1
  clear c0 c1 f1 krow cc
  obtain ⟨_, c1, f1, _⟩ := HG.out _ HE.out
  go_wp2_with (at_builtin; refine wpList_app0 _ rfl (.tmp 50) (.tmp 54) 32 rfl 43 i0 _ 7 56 Try.underlying32 hi.out hz0.out hz1.out hz2.out rfl (by decide) we.heap.size rfl (Blk.new we _ _) S _ n (encSs l) rfl KR.out (encSs_one _) (by unfold maxLen; omega) (by omega) ?_)
  intro v1 w2 ho hfr hat
  have H4 := Lib.hid (HE.out.trans0 (((Fr.refl Nob we).alloc _).trans0 hfr))
  have HN1 := Lib.hid (show NewV w v1 from fun b hb => by have := HE.out.size; rcases hat with h | h <;> rw [h] at hb <;> cases hb <;> first | omega | (simp; omega))
  have HO1 := Lib.hid ho
  have HM4 := Lib.hid ((HM3.out.alloc _).nob hfr)
  obtain ⟨_, c1, f1, _⟩ := HG.out _ H4.out
  obtain ⟨A1, cap1, rfl, _, _⟩ := ho.form
  clear ho hfr hat
  go_wp2_with (at_builtin; refine wpList_app _ rfl (.tmp 55) (.tmp 56) 32 rfl 43 i0 _ 7 56 Try.underlying32 hi.out hz0.out hz1.out hz2.out rfl (by decide) _ n (encSs l) (by rfl) HO1.out _ _ 2 (encSs [moveS cu, s]) (by rfl) (HM4.out.sgs2 (n := 2) rfl (by simp)) (encSs_one _) (by unfold maxLen; omega) (by omega) ?_)
  intro v3 w3 ho hfr hat
  have H5 := Lib.hid (fr_of_app hfr H4.out HN1.out)
  have HN3 := Lib.hid (new_of_app hat H4.out HN1.out)
  have HO3 := Lib.hid ho
  obtain ⟨A3, cap3, rfl, _, _⟩ := ho.form
  obtain ⟨_, c1, f1, _⟩ := HG.out _ H5.out
  clear ho hfr hat
  go_wp2_with fail
  go_ret
  rw [HCU.out]
  exact ⟨rfl, RqTo.put (l := l ++ [moveS cu, s]) H5.out HO3.out (by simp [HN.out]) (by simp [encSs_append]) HN3.out⟩
end Go.Proofs.Ytkkejjfmidgciaa
