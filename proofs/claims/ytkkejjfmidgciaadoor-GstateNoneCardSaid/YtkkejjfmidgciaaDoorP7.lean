/-
  The walks of Move, Curve.
-/
import Derived.Test.YtkkejjfmidgciaaDoorP6
namespace Go.Proofs.YtkkejjfmidgciaaDoor
open Go.RowKit
set_option linter.unusedVariables false
set_option linter.unusedSimpArgs false
/-- A segment is stored into a place of a list. -/
theorem OwnS.setSg {w : World} {v : Value} {n b : Nat} {l : List Sg} (h : OwnS w 91 7 v n (encSs l)) (hv : v.ownBlock = some b) (hl : l.length = n) (k : Nat) (hk : k < l.length) (x : Sg) :
    OwnS (((((((w.setCell ⟨b, k * 7, none⟩ (.int .i64 x.kind)).setCell ⟨b, k * 7 + 1, none⟩ (.int .i64 x.a.x)).setCell ⟨b, k * 7 + 2, none⟩ (.int .i64 x.a.y)).setCell ⟨b, k * 7 + 3, none⟩ (.int .i64 x.b.x)).setCell ⟨b, k * 7 + 4, none⟩ (.int .i64 x.b.y)).setCell ⟨b, k * 7 + 5, none⟩ (.int .i64 x.c.x)).setCell ⟨b, k * 7 + 6, none⟩ (.int .i64 x.c.y)) 91 7 v n (encSs (l.set k x)) := by
  subst hl
  have h8 := (((((((h.store hv (k * 7) (by omega) (.int .i64 x.kind)).store hv (k * 7 + 1) (by omega) (.int .i64 x.a.x)).store hv (k * 7 + 2) (by omega) (.int .i64 x.a.y)).store hv (k * 7 + 3) (by omega) (.int .i64 x.b.x)).store hv (k * 7 + 4) (by omega) (.int .i64 x.b.y)).store hv (k * 7 + 5) (by omega) (.int .i64 x.c.x)).store hv (k * 7 + 6) (by omega) (.int .i64 x.c.y))
  have e : ((((((((encSs l).set (k * 7) (.int .i64 x.kind)).set (k * 7 + 1) (.int .i64 x.a.x)).set (k * 7 + 2) (.int .i64 x.a.y)).set (k * 7 + 3) (.int .i64 x.b.x)).set (k * 7 + 4) (.int .i64 x.b.y)).set (k * 7 + 5) (.int .i64 x.c.x)).set (k * 7 + 6) (.int .i64 x.c.y)) = encSs (l.set k x) := by
    clear h h8 hv
    induction l generalizing k with
    | nil => simp at hk
    | cons a r ih =>
      cases k with
      | zero => simp [encSs, encS]
      | succ k =>
        have hr := ih k (by simpa using hk)
        rw [List.set_cons_succ, encSs_cons, encSs_cons, ← hr]
        have hs : ∀ (i : Nat) (u : Value) (t : List Value), (encS a ++ t).set ((k + 1) * 7 + i) u = encS a ++ t.set (k * 7 + i) u := fun i u t => by
          rw [List.set_append_right _ _ (by simp [encS]; omega)]
          congr 2
          simp [encS]; omega
        have h0 := hs 0
        simp only [Nat.add_zero] at h0
        rw [h0, hs, hs, hs, hs, hs, hs]
  rw [e] at h8
  exact h8
theorem sg_set_fr (w : World) (b o : Nat) (x : Sg) : Fr (fun k => k = b) w (((((((w.setCell ⟨b, o, none⟩ (.int .i64 x.kind)).setCell ⟨b, o + 1, none⟩ (.int .i64 x.a.x)).setCell ⟨b, o + 2, none⟩ (.int .i64 x.a.y)).setCell ⟨b, o + 3, none⟩ (.int .i64 x.b.x)).setCell ⟨b, o + 4, none⟩ (.int .i64 x.b.y)).setCell ⟨b, o + 5, none⟩ (.int .i64 x.c.x)).setCell ⟨b, o + 6, none⟩ (.int .i64 x.c.y)) :=
  ((((((((Fr.refl (fun k => k = b) w).setCell (p := ⟨b, o, none⟩) (.inl rfl) _).setCell (p := ⟨b, o + 1, none⟩) (.inl rfl) _).setCell (p := ⟨b, o + 2, none⟩) (.inl rfl) _).setCell (p := ⟨b, o + 3, none⟩) (.inl rfl) _).setCell (p := ⟨b, o + 4, none⟩) (.inl rfl) _).setCell (p := ⟨b, o + 5, none⟩) (.inl rfl) _).setCell (p := ⟨b, o + 6, none⟩) (.inl rfl) _)
def moveF (p : PS) (a : Pt) : Int × PS :=
  if fitP a then
    if lastK p.list = 1 then (0, { p with list := p.list.set (p.list.length - 1) (moveS a), start := a, now := a })
    else if p.most < p.list.length + 1 then (9, p) else (0, { p with list := p.list ++ [moveS a], start := a, now := a })
  else (11, p)
set_option maxRecDepth 8000 in
set_option maxHeartbeats 1600000 in
theorem move_any (g : Nat) (v : Value) (p : PS) (a : Pt) (w : World) (h : Pth w g v p) (hb : PB p) :
    Calls Tryd.prog 64 #[.pointer (some ⟨g, 0, none⟩), ptV a] w fun e w' => e = .returned (.int .i64 (moveF p a).1) ∧ PthTo w g v (moveF p a).2 w' := by
  obtain ⟨ws, hws⟩ : ∃ ws, w.alloc (.cells #[.int .i64 a.x, .int .i64 a.y] 56) = ws := ⟨_, rfl⟩
  have b1 : Blk ws w.heap.size (encP a).toArray 56 := by rw [← hws]; exact Blk.new w _ _
  have hf : Fr Nob w ws := by rw [← hws]; exact (Fr.refl Nob w).alloc _
  have c0 := b1.cell 0
  have c1 := b1.cell 1
  simp only [List.getElem?_toArray, encP, List.getElem?_cons_succ, List.getElem?_cons_zero] at c0 c1
  have hsz : ws.heap.size = w.heap.size + 1 := by rw [← hws]; simp
  have HZ := Lib.hid hsz
  have HL := Lib.hid h.lt
  have HH := Lib.hid (h.nob hf)
  have B1 := Lib.hid b1
  have HF := Lib.hid hf
  have HW := Lib.hid hws
  have HPB := Lib.hid hb
  clear h b1 hf hws hsz hb
  obtain ⟨r, hr⟩ : ∃ r, moveF p a = r := ⟨_, rfl⟩
  rw [hr]
  unfold ptV
  have e1 : [a].all fitP = fitP a := by simp
  by_cases h0 : fitP a
  · rw [h0] at e1
    have E1 := Lib.hid e1
    clear e1
    by_cases h1 : lastK p.list = 1
    · have hr2 : (0, { p with list := p.list.set (p.list.length - 1) (moveS a), start := a, now := a }) = r := by rw [← hr]; simp [moveF, h0, h1]
      have hr' := Lib.hid hr2
      have H1 := Lib.hid h1
      clear hr hr2 h0 h1
      go_enter Tryd.func64, Tryd.ntmps64
      go_wp2_with fail
      rw [HW.out, ← HZ.out]
      refine (fits_any _ [a] _ _ (RowIn.pts ws [a] (by simp))).mono ?_
      rw [E1.out]
      rintro e w1 ⟨rfl, hf⟩
      have hf1 := ((Fr.refl Nob ws).alloc (.cells (encPs [a]).toArray 56)).trans0 hf
      have d0 := cell_nob c0 hf1
      have d1 := cell_nob c1 hf1
      have HF1 := Lib.hid hf1
      clear hf hf1 c0 c1
      go_wp2_with fail
      obtain ⟨w2, hw2⟩ : ∃ w2, w1.alloc (.cells #[.int .i64 1, .int .i64 a.x, .int .i64 a.y, .int .i64 0, .int .i64 0, .int .i64 0, .int .i64 0] 91) = w2 := ⟨_, rfl⟩
      rw [hw2]
      have hf2 : Fr Nob w1 w2 := by rw [← hw2]; exact (Fr.refl Nob w1).alloc _
      have hb2 : Blk w2 w1.heap.size (encS (moveS a)).toArray 91 := by rw [← hw2]; exact Blk.new w1 _ _
      clear hw2
      refine (last_any g v p _ ((HH.out.nob HF1.out).nob hf2)).mono ?_
      rw [H1.out]
      rintro e w3 ⟨rfl, hf3⟩
      have hf13 := HF1.out.trans0 (hf2.trans0 hf3)
      have hb3 := hb2.fr hf3 fun hh => hh
      have hp3 := HH.out.nob hf13
      have hn0 : 0 < p.list.length := by
        rcases Nat.eq_zero_or_pos p.list.length with h | h
        · have := H1.out
          simp [lastK, h] at this
        · exact h
      obtain ⟨b, cap, hv, k1, k2, hsg⟩ := hp3.2.sg rfl hn0
      subst hv
      obtain ⟨m, hm⟩ : ∃ m, p.list.length = m + 1 := ⟨p.list.length - 1, by omega⟩
      obtain ⟨g0, g1, g2, g3, g4, g5, g6⟩ := hsg m (by omega)
      obtain ⟨s0, s1, s2, s3, s4, s5, s6⟩ := SgAt.own hb3
      have x1 := hp3.cells.c1
      have hgb := hp3.2.ne hp3.1 (by decide) b rfl
      have hfz : ∀ j, w3.frozen? ⟨b, j, none⟩ = false := by
        obtain ⟨_, ⟨h0, _⟩ | ⟨g', cap', cur, hv, hb, _⟩⟩ := hp3.2
        · cases h0
        · cases hv; exact hb.free
      have q0 := hfz (m * 7); have q1 := hfz (m * 7 + 1); have q2 := hfz (m * 7 + 2); have q3 := hfz (m * 7 + 3); have q4 := hfz (m * 7 + 4); have q5 := hfz (m * 7 + 5); have q6 := hfz (m * 7 + 6)
      have e0 : ((p.list.length : Nat) : Int) - 1 = m := by omega
      have i1 : (m : Int) < p.list.length := by omega
      have HM := Lib.hid hm
      have HP3 := Lib.hid hp3
      have HB3 := Lib.hid hb3
      have HF3 := Lib.hid hf13
      clear hp3 hb3 hf13 hf3 hf2 hb2 hsg hfz d0 d1
      generalize p.list[m] = y at *
      clear hm
      unfold moveS oo at *
      have wm : IntKind.i64.wrap (m : Int) = m := IntWalk.i64_in _ (by omega)
      go_wp2_with fail
      go_still_tail 12, (by kernel_rfl)
      change wpList _ _ _ _ _ w3.drew
      go_wp2_with fail
      have hfs : Fr (fun k => k = b) w3 (((((((w3.setCell ⟨b, m * 7, none⟩ (.int .i64 1)).setCell ⟨b, m * 7 + 1, none⟩ (.int .i64 a.x)).setCell ⟨b, m * 7 + 2, none⟩ (.int .i64 a.y)).setCell ⟨b, m * 7 + 3, none⟩ (.int .i64 0)).setCell ⟨b, m * 7 + 4, none⟩ (.int .i64 0)).setCell ⟨b, m * 7 + 5, none⟩ (.int .i64 0)).setCell ⟨b, m * 7 + 6, none⟩ (.int .i64 0)).drew := (sg_set_fr w3 b (m * 7) ⟨1, a, ⟨0, 0⟩, ⟨0, 0⟩⟩).drew
      have hos : OwnS (((((((w3.setCell ⟨b, m * 7, none⟩ (.int .i64 1)).setCell ⟨b, m * 7 + 1, none⟩ (.int .i64 a.x)).setCell ⟨b, m * 7 + 2, none⟩ (.int .i64 a.y)).setCell ⟨b, m * 7 + 3, none⟩ (.int .i64 0)).setCell ⟨b, m * 7 + 4, none⟩ (.int .i64 0)).setCell ⟨b, m * 7 + 5, none⟩ (.int .i64 0)).setCell ⟨b, m * 7 + 6, none⟩ (.int .i64 0)).drew 91 7 (.slice (some ⟨b, 0, none⟩) p.list.length cap) p.list.length (encSs (p.list.set m ⟨1, a, ⟨0, 0⟩, ⟨0, 0⟩⟩)) := (HP3.out.2.setSg rfl rfl m (by have := HM.out; omega) ⟨1, a, ⟨0, 0⟩, ⟨0, 0⟩⟩).fr ((Fr.refl Nob _).drew) fun _ _ hf => hf
      generalize (((((((w3.setCell ⟨b, m * 7, none⟩ (.int .i64 1)).setCell ⟨b, m * 7 + 1, none⟩ (.int .i64 a.x)).setCell ⟨b, m * 7 + 2, none⟩ (.int .i64 a.y)).setCell ⟨b, m * 7 + 3, none⟩ (.int .i64 0)).setCell ⟨b, m * 7 + 4, none⟩ (.int .i64 0)).setCell ⟨b, m * 7 + 5, none⟩ (.int .i64 0)).setCell ⟨b, m * 7 + 6, none⟩ (.int .i64 0)).drew = w4 at *
      have hbl := HL.out b (.inr rfl)
      have hgl := HL.out g (.inl rfl)
      have hb4 : Blk w4 w.heap.size (encP a).toArray 56 := (B1.out.fr HF3.out fun hh => hh).fr hfs fun e => by omega
      have hp4 := HP3.out.1.fr hfs fun e => hgb e.symm
      have y0 := hb4.cell 0
      have y1 := hb4.cell 1
      have z2 := hp4.free 2
      have z3 := hp4.free 3
      have z4 := hp4.free 4
      have z5 := hp4.free 5
      have v2 := hp4.cell 2
      have v3 := hp4.cell 3
      have v4 := hp4.cell 4
      have v5 := hp4.cell 5
      simp only [List.getElem?_toArray, encP, List.getElem?_cons_succ, List.getElem?_cons_zero] at y0 y1 v2 v3 v4 v5
      have hgw : g ≠ w.heap.size := by omega
      have HP4 := Lib.hid hp4
      have HO4 := Lib.hid hos
      have HF4 := Lib.hid ((((HF.out.trans0 HF3.out).mono (T := ptB g (.slice (some ⟨b, 0, none⟩) p.list.length cap)) fun _ hf => hf.elim).trans hfs fun k e => .inl (.inr (by subst e; rfl))))
      clear hp4 hos hfs hb4 g0 g1 g2 g3 g4 g5 g6 q0 q1 q2 q3 q4 q5 q6 s0 s1 s2 s3 s4 s5 s6 x1
      go_region
      go_wp2_with fail
      go_ret
      refine ⟨by rw [← hr'.out]; rfl, .slice (some ⟨b, 0, none⟩) p.list.length cap, ?_, ((((HF4.out.setCell (.inl (.inl rfl)) _).setCell (.inl (.inl rfl)) _).setCell (.inl (.inl rfl)) _).setCell (.inl (.inl rfl)) _).drew, fun b hb => .inl hb⟩
      have hfin : Fr (fun k => k = g) w4 _ := ((((((Fr.refl (fun k => k = g) w4).setCell (p := ⟨g, 2, none⟩) (.inl rfl) (.int .i64 a.x)).setCell (p := ⟨g, 3, none⟩) (.inl rfl) (.int .i64 a.y)).setCell (p := ⟨g, 4, none⟩) (.inl rfl) (.int .i64 a.x)).setCell (p := ⟨g, 5, none⟩) (.inl rfl) (.int .i64 a.y))).drew
      have hlast : p.list.length - 1 = m := by have := HM.out; omega
      rw [← hr'.out]
      refine ⟨((((HP4.out.set 2 _).set 3 _).set 4 _).set 5 _).drew, ?_⟩
      show OwnS _ 91 7 _ (p.list.set (p.list.length - 1) ⟨1, a, oo, oo⟩).length (encSs (p.list.set (p.list.length - 1) ⟨1, a, oo, oo⟩))
      rw [hlast, List.length_set]
      exact HO4.out.fr hfin fun k hk e => by cases hk; exact hgb e
    · have hne : (lastK p.list == 1) = false := by simpa using h1
      have hp' := HPB.out.len
      by_cases h2 : p.most < p.list.length + 1
      · have ha0 : addF p a [moveS a] = (9, p) := by simp [addF, h2]
        have hr2 : (9, p) = r := by rw [← hr]; simp [moveF, h0, h1, h2]
        subst hr2
        have HA0 := Lib.hid ha0
        clear hr h0 h1 h2 ha0
        go_enter Tryd.func64, Tryd.ntmps64
        go_wp2_with fail
        rw [HW.out, ← HZ.out]
        refine (fits_any _ [a] _ _ (RowIn.pts ws [a] (by simp))).mono ?_
        rw [E1.out]
        rintro e w1 ⟨rfl, hf⟩
        have hf1 := ((Fr.refl Nob ws).alloc (.cells (encPs [a]).toArray 56)).trans0 hf
        have d0 := cell_nob c0 hf1
        have d1 := cell_nob c1 hf1
        have HF1 := Lib.hid hf1
        clear hf hf1 c0 c1
        go_wp2_with fail
        obtain ⟨w2, hw2⟩ : ∃ w2, w1.alloc (.cells #[.int .i64 1, .int .i64 a.x, .int .i64 a.y, .int .i64 0, .int .i64 0, .int .i64 0, .int .i64 0] 91) = w2 := ⟨_, rfl⟩
        rw [hw2]
        have hf2 : Fr Nob w1 w2 := by rw [← hw2]; exact (Fr.refl Nob w1).alloc _
        have hb2 : Blk w2 w1.heap.size (encS (moveS a)).toArray 91 := by rw [← hw2]; exact Blk.new w1 _ _
        clear hw2
        refine (last_any g v p _ ((HH.out.nob HF1.out).nob hf2)).mono ?_
        rintro e w3 ⟨rfl, hf3⟩
        have hf13 := HF1.out.trans0 (hf2.trans0 hf3)
        have d2 := cell_nob d0 (hf2.trans0 hf3)
        have d3 := cell_nob d1 (hf2.trans0 hf3)
        obtain ⟨s0, s1, s2, s3, s4, s5, s6⟩ := SgAt.own (hb2.fr hf3 fun hh => hh)
        have HF3 := Lib.hid hf13
        clear hf2 hb2 hf3 hf13 d0 d1
        go_wp2_with fail
        have hr := RowIn.sgs w3 [moveS a] (by simp)
        have ha := (Fr.refl Nob w3).alloc (.cells (encSs [moveS a]).toArray 91)
        refine (add_any g v p a _ [moveS a] _ _ ((HH.out.nob HF3.out).nob ha) hr (fun k hk hb => ?_) HPB.out (by simp)).mono ?_
        · have := HL.out k hb
          have := HF.out.size
          have := HF3.out.size
          omega
        rw [HA0.out]
        rintro e w4 ⟨rfl, hq⟩
        have HQ := Lib.hid ((hq.after (HF3.out.trans0 ha)).after HF.out)
        clear hq ha hr
        go_wp2_with fail
        go_ret
        exact ⟨rfl, HQ.out⟩
      · have ha0 : addF p a [moveS a] = (0, { p with list := p.list ++ [moveS a], now := a }) := by simp [addF, h2]
        have hr2 : (0, { p with list := p.list ++ [moveS a], start := a, now := a }) = r := by rw [← hr]; simp [moveF, h0, h1, h2]
        have HA0 := Lib.hid ha0
        have hr' := Lib.hid hr2
        clear hr hr2 h0 h1 h2 ha0
        go_enter Tryd.func64, Tryd.ntmps64
        go_wp2_with fail
        rw [HW.out, ← HZ.out]
        refine (fits_any _ [a] _ _ (RowIn.pts ws [a] (by simp))).mono ?_
        rw [E1.out]
        rintro e w1 ⟨rfl, hf⟩
        have hf1 := ((Fr.refl Nob ws).alloc (.cells (encPs [a]).toArray 56)).trans0 hf
        have d0 := cell_nob c0 hf1
        have d1 := cell_nob c1 hf1
        have HF1 := Lib.hid hf1
        clear hf hf1 c0 c1
        go_wp2_with fail
        obtain ⟨w2, hw2⟩ : ∃ w2, w1.alloc (.cells #[.int .i64 1, .int .i64 a.x, .int .i64 a.y, .int .i64 0, .int .i64 0, .int .i64 0, .int .i64 0] 91) = w2 := ⟨_, rfl⟩
        rw [hw2]
        have hf2 : Fr Nob w1 w2 := by rw [← hw2]; exact (Fr.refl Nob w1).alloc _
        have hb2 : Blk w2 w1.heap.size (encS (moveS a)).toArray 91 := by rw [← hw2]; exact Blk.new w1 _ _
        clear hw2
        refine (last_any g v p _ ((HH.out.nob HF1.out).nob hf2)).mono ?_
        rintro e w3 ⟨rfl, hf3⟩
        have hf13 := HF1.out.trans0 (hf2.trans0 hf3)
        have d2 := cell_nob d0 (hf2.trans0 hf3)
        have d3 := cell_nob d1 (hf2.trans0 hf3)
        obtain ⟨s0, s1, s2, s3, s4, s5, s6⟩ := SgAt.own (hb2.fr hf3 fun hh => hh)
        have HF3 := Lib.hid hf13
        clear hf2 hb2 hf3 hf13 d0 d1
        go_wp2_with fail
        have hr := RowIn.sgs w3 [moveS a] (by simp)
        have ha := (Fr.refl Nob w3).alloc (.cells (encSs [moveS a]).toArray 91)
        refine (add_any g v p a _ [moveS a] _ _ ((HH.out.nob HF3.out).nob ha) hr (fun k hk hb => ?_) HPB.out (by simp)).mono ?_
        · have := HL.out k hb
          have := HF.out.size
          have := HF3.out.size
          omega
        rw [HA0.out]
        rintro e w4 ⟨rfl, v', hp4, hf4, hv4⟩
        have hwl := HL.out
        have hb4 : Blk w4 w.heap.size (encP a).toArray 56 := ((B1.out.fr (HF3.out.trans0 ha) fun hh => hh)).fr hf4 fun hk => by have := hwl _ hk; omega
        have y0 := hb4.cell 0
        have y1 := hb4.cell 1
        have z2 := hp4.1.free 2
        have z3 := hp4.1.free 3
        have v2 := hp4.1.cell 2
        have v3 := hp4.1.cell 3
        simp only [List.getElem?_toArray, encP, List.getElem?_cons_succ, List.getElem?_cons_zero] at y0 y1 v2 v3
        have hgw : g ≠ w.heap.size := by have := hwl g (.inl rfl); omega
        have HP4 := Lib.hid hp4
        have HQ := Lib.hid (show Fr (ptB g v) w w4 from ((HF.out.trans0 (HF3.out.trans0 ha)).mono fun _ hf => hf.elim).trans hf4 fun k hk => .inl hk)
        have HV := Lib.hid (show ∀ b, v'.ownBlock = some b → v.ownBlock = some b ∨ w.heap.size ≤ b from fun b hb => by
          rcases hv4 b hb with h | h
          · exact .inl h
          · exact .inr (Nat.le_trans (HF.out.trans0 (HF3.out.trans0 ha)).size h))
        clear hp4 hf4 hv4 ha hr hb4 hwl d2 d3 s0 s1 s2 s3 s4 s5 s6
        go_wp2_with fail
        go_ret
        refine ⟨by rw [← hr'.out]; rfl, v', ?_, (HQ.out.setCell (.inl (.inl rfl)) _).setCell (.inl (.inl rfl)) _, HV.out⟩
        rw [← hr'.out]
        have hfin : Fr (fun k => k = g) w4 _ := ((Fr.refl (fun k => k = g) w4).setCell (p := ⟨g, 2, none⟩) (.inl rfl) (.int .i64 a.x)).setCell (p := ⟨g, 3, none⟩) (.inl rfl) (.int .i64 a.y)
        exact ⟨(HP4.out.1.set 2 _).set 3 _, HP4.out.2.fr hfin fun k hk e => HP4.out.2.ne HP4.out.1 (by decide) k hk e⟩
  · have hr2 : r = (11, p) := by rw [← hr]; simp [moveF, h0]
    subst hr2
    rw [show fitP a = false by simpa using h0] at e1
    have E1 := Lib.hid e1
    clear hr h0 e1
    go_enter Tryd.func64, Tryd.ntmps64
    go_wp2_with fail
    rw [HW.out, ← HZ.out]
    refine (fits_any _ [a] _ _ (RowIn.pts ws [a] (by simp))).mono ?_
    rw [E1.out]
    rintro e w1 ⟨rfl, hf⟩
    have HF1 := Lib.hid (((Fr.refl Nob ws).alloc (.cells (encPs [a]).toArray 56)).trans0 hf)
    clear hf
    go_wp2_with fail
    go_ret
    exact ⟨rfl, (PthTo.same HH.out HF1.out).after HF.out⟩
end Go.Proofs.YtkkejjfmidgciaaDoor
