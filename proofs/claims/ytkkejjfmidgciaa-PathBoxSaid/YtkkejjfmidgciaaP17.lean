/-
  The walk of path.Box over a sound list.
-/
import Derived.Test.YtkkejjfmidgciaaP14
import Derived.BigRegion
namespace Go.Proofs.Ytkkejjfmidgciaa
open Go.RowKit
set_option linter.unusedVariables false
set_option linter.unusedSimpArgs false
attribute [local go_sem high] run_min_z run_max_z
/-- Two blocks of points: the least and the greatest. -/
structure Two (w : World) (g : Nat) (lo hi : Pt) : Prop where
  b2 : Blk w g #[.int .i64 lo.x, .int .i64 lo.y] 23
  b3 : Blk w (g + 1) #[.int .i64 hi.x, .int .i64 hi.y] 23
theorem Two.nob {w w' : World} {g : Nat} {lo hi : Pt} (h : Two w g lo hi) (hf : Fr Nob w w') : Two w' g lo hi := ⟨h.b2.fr hf fun hh => hh, h.b3.fr hf fun hh => hh⟩
theorem Two.put {w : World} {g : Nat} {lo hi : Pt} (h : Two w g lo hi) (p q : Pt) :
    Two ((((w.setCell ⟨g, 0, none⟩ (.int .i64 p.x)).setCell ⟨g, 1, none⟩ (.int .i64 p.y)).setCell ⟨g + 1, 0, none⟩ (.int .i64 q.x)).setCell ⟨g + 1, 1, none⟩ (.int .i64 q.y)) g p q :=
  ⟨((((h.b2.set 0 _).set 1 _).far (p := ⟨g + 1, 0, none⟩) (by simp) _).far (p := ⟨g + 1, 1, none⟩) (by simp) _),
   ((((h.b3.far (p := ⟨g, 0, none⟩) (by simp) _).far (p := ⟨g, 1, none⟩) (by simp) _).set 0 _).set 1 _)⟩
theorem two_fr {w : World} {g : Nat} (p q : Pt) (w0 : World) (h : Fr Nob w0 w) (hg : w0.heap.size ≤ g) :
    Fr Nob w0 ((((w.setCell ⟨g, 0, none⟩ (.int .i64 p.x)).setCell ⟨g, 1, none⟩ (.int .i64 p.y)).setCell ⟨g + 1, 0, none⟩ (.int .i64 q.x)).setCell ⟨g + 1, 1, none⟩ (.int .i64 q.y)) :=
  (((h.setCell (p := ⟨g, 0, none⟩) (.inr hg) _).setCell (p := ⟨g, 1, none⟩) (.inr hg) _).setCell (p := ⟨g + 1, 0, none⟩) (.inr (by simp; omega)) _).setCell (p := ⟨g + 1, 1, none⟩) (.inr (by simp; omega)) _
set_option maxRecDepth 8000 in
set_option maxHeartbeats 4000000 in
theorem box_some (v : Value) (l : List Sg) (S : Nat → Prop) (w : World) (h : RowIn w S 7 v l.length (encSs l)) (hS : SoundP l) (hne : 0 < l.length) :
    Calls Try.prog 18 #[v] w fun e w' => e = .returned (.tuple #[ptV (loF l), ptV (hiF l), .bool true]) ∧ Fr Nob w w' := by
  obtain ⟨wa, hwa⟩ : ∃ wa, (w.alloc (.cells #[.int .i64 0, .int .i64 0] 23)).alloc (.cells #[.int .i64 0, .int .i64 0] 23) = wa := ⟨_, rfl⟩
  have b1 : Blk wa w.heap.size #[.int .i64 0, .int .i64 0] 23 := by rw [← hwa]; exact (Blk.new w _ _).alloc _
  have b2 : Blk wa (w.heap.size + 1) #[.int .i64 0, .int .i64 0] 23 := by
    have := Blk.new (w.alloc (.cells #[.int .i64 0, .int .i64 0] 23)) #[.int .i64 0, .int .i64 0] 23
    rw [← hwa]; simpa using this
  have hf : Fr Nob w wa := by rw [← hwa]; exact ((Fr.refl Nob w).alloc _).alloc _
  have HW := Lib.hid hwa
  have B1 := Lib.hid (show Two wa w.heap.size oo oo from ⟨b1, b2⟩)
  have HF := Lib.hid hf
  have HX := Lib.hid (h.fr hf fun _ _ hf => hf)
  have hlen := h.len_le
  clear hwa b1 b2 hf
  have HQ := Lib.hid (decide_eq_true hS)
  have HSd := Lib.hid hS
  have HLO := Lib.hid (rfl : loF l = loF l)
  obtain ⟨LO, hLO⟩ : ∃ p, loF l = p := ⟨_, rfl⟩
  obtain ⟨HI, hHI⟩ : ∃ p, hiF l = p := ⟨_, rfl⟩
  rw [hLO, hHI]
  replace hLO := Lib.hid hLO
  replace hHI := Lib.hid hHI
  obtain ⟨b, off, cap, rfl, h1, h2, _, hA⟩ := (show RowIn w S 7 v l.length (encSs l) from h).sg hne
  have HA := Lib.hid hA
  clear h hA hS HLO
  unfold ptV
  go_enter Try.func18, Try.ntmps18
  go_wp2_with fail
  rw [HW.out]
  refine (sound_any _ l _ _ HX.out).mono ?_
  rw [HQ.out]
  rintro e w1 ⟨rfl, hf1⟩
  have D1 := Lib.hid (B1.out.nob hf1)
  have HF1 := Lib.hid (HF.out.trans0 hf1)
  have hwl := HF.out.size
  obtain ⟨s0, s1, s2, s3, s4, s5, s6⟩ := (HA.out 0 hne).fr HF1.out fun hh => hh
  rw [Nat.zero_mul] at s0 s1 s2 s3 s4 s5 s6
  simp only [Nat.add_zero] at s0 s1 s2 s3 s4 s5 s6
  have hs0 := Lib.hid (show (l.getD 0 sgZ).a = l[0].a by rw [getD_at hne])
  generalize l[0] = s at *
  have z1 := D1.out.b2.cell 0
  have z2 := D1.out.b2.cell 1
  have z3 := D1.out.b3.cell 0
  have z4 := D1.out.b3.cell 1
  have y1 := D1.out.b2.free 0
  have y2 := D1.out.b2.free 1
  have y3 := D1.out.b3.free 0
  have y4 := D1.out.b3.free 1
  simp only [List.getElem?_toArray, List.getElem?_cons_succ, List.getElem?_cons_zero] at z1 z2 z3 z4
  have hbw : b < w.heap.size := by
    have := (HA.out 0 hne).c0
    exact World.block_lt_of_cell? w _ this
  have n1 : b ≠ w.heap.size := by omega
  have n2 : b ≠ w.heap.size + 1 := by omega
  have j0 : (0 : Int) < l.length := by omega
  have e0 : ((l.length : Int) == 0) = false := beq_eq_false_iff_ne.2 (by omega)
  clear hf1
  go_wp2_with fail
  go_region
  have T2 := Lib.hid (show Two ((((w1.setCell ⟨w.heap.size, 0, none⟩ (.int .i64 s.a.x)).setCell ⟨w.heap.size, 1, none⟩ (.int .i64 s.a.y)).setCell ⟨w.heap.size + 1, 0, none⟩ (.int .i64 s.a.x)).setCell ⟨w.heap.size + 1, 1, none⟩ (.int .i64 s.a.y)).drew w.heap.size s.a s.a from (D1.out.put s.a s.a).nob ((Fr.refl Nob _).drew))
  have F2 := Lib.hid (show Fr Nob w ((((w1.setCell ⟨w.heap.size, 0, none⟩ (.int .i64 s.a.x)).setCell ⟨w.heap.size, 1, none⟩ (.int .i64 s.a.y)).setCell ⟨w.heap.size + 1, 0, none⟩ (.int .i64 s.a.x)).setCell ⟨w.heap.size + 1, 1, none⟩ (.int .i64 s.a.y)).drew from (two_fr s.a s.a w HF1.out (Nat.le_refl _)).drew)
  generalize ((((w1.setCell ⟨w.heap.size, 0, none⟩ (.int .i64 s.a.x)).setCell ⟨w.heap.size, 1, none⟩ (.int .i64 s.a.y)).setCell ⟨w.heap.size + 1, 0, none⟩ (.int .i64 s.a.x)).setCell ⟨w.heap.size + 1, 1, none⟩ (.int .i64 s.a.y)).drew = w2 at *
  clear s0 s1 s2 s3 s4 s5 s6 z1 z2 z3 z4 y1 y2 y3 y4 D1 HF1
  have hs0' := Lib.hid (show (l.getD 0 sgZ).a = s.a from hs0.out)
  clear hs0
  generalize s.a = a0 at *
  clear j0 e0
  go_wp2_with fail
  go_loopw [31] (fun q wr => ∃ k : Nat, k ≤ l.length ∧ q = .int .i64 k ∧ Hid (Two wr w.heap.size ((allPts (l.take k)).foldl minP a0) ((allPts (l.take k)).foldl maxP a0)) ∧ Hid (Fr Nob w wr)) (fun q _ => l.length - (intOf q).toNat)
  case atStart => exact ⟨0, by omega, rfl, T2.out, F2.out⟩
  case round =>
    obtain ⟨k, hk, rfl, HT, HF2⟩ := hrel
    by_cases hlt : k < l.length
    · have hc := (HA.out k hlt).fr HF2.out fun hh => hh
      have hsk := HSd.out.2 k hlt
      have hlo := allPts_succ l k hlt
      unfold snd1 at hsk
      rw [getD_at hlt] at hsk
      generalize l[k] = s at *
      have hn3 : ptsK s.kind = 0 ∨ ptsK s.kind = 1 ∨ ptsK s.kind = 3 := by
        simp only [Bool.and_eq_true, sgOk, decide_eq_true_eq] at hsk
        have h0 := hsk.2.1
        rcases ptsK_cases s.kind with h | h | h | h
        · omega
        · exact .inl h
        · exact .inr (.inl h)
        · exact .inr (.inr h)
      have HP := Lib.hid (points_any s.kind)
      obtain ⟨n, hn⟩ : ∃ n : Nat, ptsK s.kind = n := ⟨(ptsK s.kind).toNat, by omega⟩
      have hsp : segPts s = (pts s).take n := by unfold segPts; rw [hn]; rfl
      have hsl : (segPts s).length = n := by rw [hsp]; simp [pts]; omega
      have hnn : n ≤ 3 := by omega
      obtain ⟨lo, hlo0⟩ : ∃ lo, (allPts (l.take k)).foldl minP a0 = lo := ⟨_, rfl⟩
      obtain ⟨hi, hhi0⟩ : ∃ hi, (allPts (l.take k)).foldl maxP a0 = hi := ⟨_, rfl⟩
      rw [hlo0, hhi0] at HT
      have HE := Lib.hid (show (allPts (l.take (k + 1))).foldl minP a0 = (segPts s).foldl minP lo ∧ (allPts (l.take (k + 1))).foldl maxP a0 = (segPts s).foldl maxP hi by rw [hlo, List.foldl_append, List.foldl_append, hlo0, hhi0]; exact ⟨rfl, rfl⟩)
      have HSP := Lib.hid (And.intro hsp hsl)
      have HN := Lib.hid hn
      clear hsk hlo hlo0 hhi0 hsp hsl hn hn3
      have i2 : (k : Int) < l.length := by omega
      obtain ⟨wo, rfl⟩ : ∃ wo : World, wo = wr := ⟨_, rfl⟩
      obtain ⟨s0, s1, s2, s3, s4, s5, s6⟩ := hc
      obtain ⟨w6, hw6⟩ : ∃ w1, wo.alloc (.cells (encS s).toArray 43) = w1 := ⟨_, rfl⟩
      have hf6 : Fr Nob wo w6 := by rw [← hw6]; exact (Fr.refl Nob wo).alloc _
      have hb6 : Blk w6 wo.heap.size (encS s).toArray 43 := by rw [← hw6]; exact Blk.new wo _ _
      simp only [encS] at hw6
      obtain ⟨t0, t1, t2, t3, t4, t5, t6⟩ := SgAt.own hb6
      have B6 := Lib.hid (SgAt.own hb6)
      have HT6 := Lib.hid (HT.out.nob hf6)
      have HF6 := Lib.hid (HF2.out.trans0 hf6)
      have hgo := HF2.out.size
      clear hf6 hb6
      have hm3 : (n : Int) ≤ 3 := by omega
      go_wp2_with fail
      refine (HP.out w6).mono ?_
      rw [HN.out]
      rintro e w7 ⟨rfl, rfl⟩
      clear s0 s1 s2 s3 s4 s5 s6 t0 t1 t2 t3 t4 t5 t6
      go_wp2_with fail
      go_loopw [41] (fun q wr => ∃ j : Nat, j ≤ n ∧ q = .int .i64 j ∧ Hid (Two wr w.heap.size (((segPts s).take j).foldl minP lo) (((segPts s).take j).foldl maxP hi)) ∧ Hid (SgAt wr wo.heap.size 0 s) ∧ Hid (Fr Nob w wr)) (fun q _ => n - (intOf q).toNat)
      case atStart => exact ⟨0, by omega, rfl, HT6.out, B6.out, HF6.out⟩
      case round =>
        obtain ⟨j, hj, rfl, HTj, HBj, HFj⟩ := hrel
        by_cases hjl : j < n
        · have hjs : j < (segPts s).length := by rw [HSP.out.2]; exact hjl
          have hjp : j < (pts s).length := by show j < 3; omega
          obtain ⟨p0, p1⟩ := sgPt HBj.out j hjp
          have hpe : (segPts s)[j] = (pts s)[j] := by
            have := HSP.out.1
            simp only [this, List.getElem_take]
          have HM := Lib.hid (And.intro (fold_more minP lo (segPts s) j hjs) (fold_more maxP hi (segPts s) j hjs))
          rw [hpe] at HM
          clear hpe hjs
          generalize (pts s)[j] = q at *
          generalize ((segPts s).take j).foldl minP lo = lj at *
          generalize ((segPts s).take j).foldl maxP hi = hj' at *
          have ij : (j : Int) < n := by omega
          obtain ⟨w8, hw8⟩ : ∃ w1, wr.alloc (.cells #[.int .i64 q.x, .int .i64 q.y] 23) = w1 := ⟨_, rfl⟩
          have hf8 : Fr Nob wr w8 := by rw [← hw8]; exact (Fr.refl Nob wr).alloc _
          have hb8 : Blk w8 wr.heap.size #[.int .i64 q.x, .int .i64 q.y] 23 := by rw [← hw8]; exact Blk.new wr _ _
          have T8 := Lib.hid (HTj.out.nob hf8)
          have B8 := Lib.hid (HBj.out.fr hf8 fun hh => hh)
          have F8 := Lib.hid (HFj.out.trans0 hf8)
          have q0 := hb8.cell 0
          have q1 := hb8.cell 1
          have z1 := T8.out.b2.cell 0
          have z2 := T8.out.b2.cell 1
          have z3 := T8.out.b3.cell 0
          have z4 := T8.out.b3.cell 1
          have y1 := T8.out.b2.free 0
          have y2 := T8.out.b2.free 1
          have y3 := T8.out.b3.free 0
          have y4 := T8.out.b3.free 1
          simp only [List.getElem?_toArray, List.getElem?_cons_succ, List.getElem?_cons_zero] at z1 z2 z3 z4 q0 q1
          have hgr := HTj.out.b3.lt
          have m1 : w.heap.size ≠ wr.heap.size := by omega
          have m2 : w.heap.size + 1 ≠ wr.heap.size := by omega
          have m3 : wo.heap.size ≠ w.heap.size := by have := HT.out.b3.lt; omega
          have m4 : wo.heap.size ≠ w.heap.size + 1 := by have := HT.out.b3.lt; omega
          clear hf8 hb8
          go_wp2_with fail
          go_roundw
          case rel =>
            refine ⟨j + 1, by omega, by go_num, ?_, ?_, ?_⟩
            · show Two _ _ _ _
              rw [HM.out.1, HM.out.2]
              exact T8.out.put (minP lj q) (maxP hj' q)
            · have hff : Fr (fun k => k = w.heap.size ∨ k = w.heap.size + 1) w8 _ := ((((Fr.refl (fun k => k = w.heap.size ∨ k = w.heap.size + 1) w8).setCell (p := ⟨w.heap.size, 0, none⟩) (.inl (.inl rfl)) (.int .i64 (minP lj q).x)).setCell (p := ⟨w.heap.size, 1, none⟩) (.inl (.inl rfl)) (.int .i64 (minP lj q).y)).setCell (p := ⟨w.heap.size + 1, 0, none⟩) (.inl (.inr rfl)) (.int .i64 (maxP hj' q).x)).setCell (p := ⟨w.heap.size + 1, 1, none⟩) (.inl (.inr rfl)) (.int .i64 (maxP hj' q).y)
              exact B8.out.fr hff fun hh => hh.elim m3 m4
            · exact two_fr (minP lj q) (maxP hj' q) w F8.out (Nat.le_refl _)
          case measure => simp [intOf]; omega
        · have hje : n ≤ j := by omega
          have hte : (segPts s).take j = segPts s := List.take_of_length_le (by rw [HSP.out.2]; omega)
          rw [hte] at HTj
          have HT9 := Lib.hid (show Two wr w.heap.size ((allPts (l.take (k + 1))).foldl minP a0) ((allPts (l.take (k + 1))).foldl maxP a0) by rw [HE.out.1, HE.out.2]; exact HTj.out)
          clear hte HTj
          go_wp2_with fail
          go_roundw
          case rel => exact ⟨k + 1, by omega, by go_num, HT9.out, HFj.out⟩
          case measure => simp [intOf]; omega
    · have hge : l.length ≤ k := by omega
      have hte : l.take k = l := List.take_of_length_le hge
      rw [hte] at HT
      have hlo : (allPts l).foldl minP a0 = LO := by rw [← hLO.out, loF, hs0'.out]
      have hhi : (allPts l).foldl maxP a0 = HI := by rw [← hHI.out, hiF, hs0'.out]
      rw [hlo, hhi] at HT
      have z1 := HT.out.b2.cell 0
      have z2 := HT.out.b2.cell 1
      have z3 := HT.out.b3.cell 0
      have z4 := HT.out.b3.cell 1
      have y1 := HT.out.b2.free 0
      have y2 := HT.out.b2.free 1
      have y3 := HT.out.b3.free 0
      have y4 := HT.out.b3.free 1
      simp only [List.getElem?_toArray, List.getElem?_cons_succ, List.getElem?_cons_zero] at z1 z2 z3 z4
      clear hte hlo hhi
      go_wp2_with fail
      go_region
      go_wp2_with fail
      have HTF := (HT.out.put LO HI).nob ((Fr.refl Nob _).drew)
      refine bodyPost_ret (results_cct rfl _ _ _ _ 23 _ _ _ rfl HTF.b2 rfl HTF.b3 Try.underlying23 rfl (by kernel_rfl) rfl) rfl ⟨rfl, ?_⟩
      exact (two_fr LO HI w HF2.out (Nat.le_refl _)).drew
end Go.Proofs.Ytkkejjfmidgciaa
