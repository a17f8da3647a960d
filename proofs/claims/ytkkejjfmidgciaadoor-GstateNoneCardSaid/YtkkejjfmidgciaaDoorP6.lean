/-
  The walks of draw, Line, Curve.
-/
import Derived.Test.YtkkejjfmidgciaaDoorP5
import Derived.Deep.RegionWith
import Derived.BigRegion
namespace Go.Proofs.YtkkejjfmidgciaaDoor
open Go.RowKit
set_option linter.unusedVariables false
set_option linter.unusedSimpArgs false
theorem PthTo.after {w w2 w3 : World} {g : Nat} {v : Value} {p : PS} (h : PthTo w2 g v p w3) (hf : Fr Nob w w2) : PthTo w g v p w3 := by
  obtain ⟨v', hp, hfr, hv⟩ := h
  exact ⟨v', hp, (hf.mono fun _ hf => hf.elim).trans hfr fun k hk => .inl hk, fun b hb => by
    rcases hv b hb with h | h
    · exact .inl h
    · exact .inr (Nat.le_trans hf.size h)⟩
def sgV (s : Sg) : Value := .agg #[.int .i64 s.kind, .int .i64 s.a.x, .int .i64 s.a.y, .int .i64 s.b.x, .int .i64 s.b.y, .int .i64 s.c.x, .int .i64 s.c.y]
def drawF (p : PS) (s : Sg) (to : Pt) : Int × PS := if lastK p.list = 0 then (10, p) else if lastK p.list = 4 then addF p to [moveS p.now, s] else addF p to [s]
/-- A segment in a block of its own. -/
theorem SgAt.own {w : World} {g : Nat} {s : Sg} (h : Blk w g (encS s).toArray 91) : SgAt w g 0 s := ⟨h.cell 0, h.cell 1, h.cell 2, h.cell 3, h.cell 4, h.cell 5, h.cell 6⟩
set_option maxRecDepth 8000 in
set_option maxHeartbeats 1600000 in
theorem draw_any (g : Nat) (v : Value) (p : PS) (s : Sg) (to : Pt) (w : World) (h : Pth w g v p) (hb : PB p) :
    Calls Tryd.prog 119 #[.pointer (some ⟨g, 0, none⟩), sgV s, ptV to] w fun e w' => e = .returned (.int .i64 (drawF p s to).1) ∧ PthTo w g v (drawF p s to).2 w' := by
  obtain ⟨ws, hws⟩ : ∃ ws, ws = (w.alloc (.cells (encS s).toArray 91)).alloc (.cells (encP to).toArray 56) := ⟨_, rfl⟩
  have b1 : Blk ws w.heap.size (encS s).toArray 91 := by rw [hws]; exact (Blk.new w _ _).alloc _
  have b2 : Blk ws (w.heap.size + 1) (encP to).toArray 56 := by
    have := Blk.new (w.alloc (.cells (encS s).toArray 91)) (encP to).toArray 56
    rw [hws]; simpa using this
  have hf : Fr Nob w ws := by rw [hws]; exact ((Fr.refl Nob w).alloc _).alloc _
  have HH := Lib.hid (h.nob hf)
  have HL := Lib.hid h.lt
  have B1 := Lib.hid b1
  have B2 := Lib.hid b2
  have HF := Lib.hid hf
  have HB := Lib.hid hb
  clear h b1 b2 hf hb
  unfold sgV ptV
  obtain ⟨r, hr⟩ : ∃ r, drawF p s to = r := ⟨_, rfl⟩
  rw [hr]
  have hws' : (w.alloc (.cells #[.int .i64 s.kind, .int .i64 s.a.x, .int .i64 s.a.y, .int .i64 s.b.x, .int .i64 s.b.y, .int .i64 s.c.x, .int .i64 s.c.y] 91)).alloc (.cells #[.int .i64 to.x, .int .i64 to.y] 56) = ws := hws.symm
  replace hws := Lib.hid hws'
  clear hws'
  by_cases h0 : lastK p.list = 0
  · have hr2 : r = (10, p) := by rw [← hr]; simp [drawF, h0]
    subst hr2
    clear hr
    go_enter Tryd.func119, Tryd.ntmps119
    go_wp2_with fail
    rw [hws.out]
    refine (last_any g v p _ HH.out).mono ?_
    rw [h0]
    rintro e w1 ⟨rfl, hf⟩
    have HF1 := Lib.hid hf
    clear hf
    go_wp2_with fail
    go_ret
    exact ⟨rfl, (PthTo.same HH.out HF1.out).after HF.out⟩
  have e0 : (lastK p.list == 0) = false := by simpa using h0
  by_cases h4 : lastK p.list = 4
  · have hr2 : addF p to [moveS p.now, s] = r := by rw [← hr]; simp [drawF, h4]
    have hr' := Lib.hid hr2
    have H4 := Lib.hid h4
    clear hr2 hr h0 h4
    go_enter Tryd.func119, Tryd.ntmps119
    go_wp2_with fail
    rw [hws.out]
    refine (last_any g v p _ HH.out).mono ?_
    rw [H4.out]
    rintro e w1 ⟨rfl, hf⟩
    have hp1 := HH.out.nob hf
    have hc := hp1.cells
    have c4 := hc.c4
    have c5 := hc.c5
    have hs := SgAt.own (B1.out.fr hf fun hh => hh)
    obtain ⟨s0, s1, s2, s3, s4, s5, s6⟩ := hs
    have t0 := (B2.out.fr hf fun hh => hh).cell 0
    have t1 := (B2.out.fr hf fun hh => hh).cell 1
    simp only [List.getElem?_toArray, encP, List.getElem?_cons_succ, List.getElem?_cons_zero] at t0 t1
    have HF1 := Lib.hid hf
    have HP := Lib.hid hp1
    clear hf hc hp1
    go_wp2_with fail
    have ha := (Fr.refl Nob w1).alloc (.cells #[.int .i64 1, .int .i64 p.now.x, .int .i64 p.now.y, .int .i64 0, .int .i64 0, .int .i64 0, .int .i64 0, .int .i64 s.kind, .int .i64 s.a.x, .int .i64 s.a.y, .int .i64 s.b.x, .int .i64 s.b.y, .int .i64 s.c.x, .int .i64 s.c.y] 91)
    have hr : RowIn (w1.alloc (.cells #[.int .i64 1, .int .i64 p.now.x, .int .i64 p.now.y, .int .i64 0, .int .i64 0, .int .i64 0, .int .i64 0, .int .i64 s.kind, .int .i64 s.a.x, .int .i64 s.a.y, .int .i64 s.b.x, .int .i64 s.b.y, .int .i64 s.c.x, .int .i64 s.c.y] 91)).drew (fun k => k = w1.heap.size) 7 (.slice (some ⟨w1.heap.size, 0, none⟩) 2 2) 2 (encSs [moveS p.now, s]) := (RowIn.sgs w1 [moveS p.now, s] (by simp)).fr ((Fr.refl Nob _).drew) fun _ _ hf => hf
    have hA := add_any g v p to _ [moveS p.now, s] _ _ (HP.out.nob ha.drew) hr (fun k hk hb => by
      have := HL.out k hb
      have := HF.out.size
      have := HF1.out.size
      omega) HB.out (by simp)
    rw [hr'.out] at hA
    unfold ptV at hA
    have HA := Lib.hid hA
    have HX := Lib.hid (HF1.out.trans0 ha.drew)
    have u0 := cell_nob t0 ha
    have u1 := cell_nob t1 ha
    clear ha hr hA
    go_region_with (go_at_call 107; refine HA.out.mono ?_; rintro e w3 ⟨rfl, hq⟩)
    all_goals
      have HQ := Lib.hid ((hq.after HX.out).after HF.out)
      clear hq
      go_wp2_with fail
      go_ret
      exact ⟨rfl, HQ.out⟩
  · have e4 : (lastK p.list == 4) = false := by simpa using h4
    have hr2 : addF p to [s] = r := by rw [← hr]; simp [drawF, h0, h4]
    have hr' := Lib.hid hr2
    clear hr hr2 h0 h4
    go_enter Tryd.func119, Tryd.ntmps119
    go_wp2_with fail
    rw [hws.out]
    refine (last_any g v p _ HH.out).mono ?_
    rintro e w1 ⟨rfl, hf⟩
    have hp1 := HH.out.nob hf
    have hs := SgAt.own (B1.out.fr hf fun hh => hh)
    obtain ⟨s0, s1, s2, s3, s4, s5, s6⟩ := hs
    have t0 := (B2.out.fr hf fun hh => hh).cell 0
    have t1 := (B2.out.fr hf fun hh => hh).cell 1
    simp only [List.getElem?_toArray, encP, List.getElem?_cons_succ, List.getElem?_cons_zero] at t0 t1
    have HF1 := Lib.hid hf
    have HP := Lib.hid hp1
    clear hf hp1
    go_wp2_with fail
    have hr := RowIn.sgs w1 [s] (by simp)
    have ha := (Fr.refl Nob w1).alloc (.cells (encSs [s]).toArray 91)
    refine (add_any g v p to _ [s] _ _ (HP.out.nob ha) hr (fun k hk hb => ?_) HB.out (by simp)).mono ?_
    · have := HL.out k hb
      have := HF.out.size
      have := HF1.out.size
      omega
    rw [hr'.out]
    rintro e w3 ⟨rfl, hq⟩
    have HQ := Lib.hid ((hq.after (HF1.out.trans0 ha)).after HF.out)
    clear hq ha hr
    go_wp2_with fail
    go_ret
    exact ⟨rfl, HQ.out⟩
def lineF (p : PS) (a : Pt) : Int × PS := if fitP a then drawF p (lineS a) a else (11, p)
def curveF (p : PS) (a b c : Pt) : Int × PS := if [a, b, c].all fitP then drawF p ⟨3, a, b, c⟩ c else (11, p)
theorem RowIn.pts (w : World) (l : List Pt) (hl : l.length ≤ 3) : RowIn (w.alloc (.cells (encPs l).toArray 56)) (fun k => k = w.heap.size) 2 (.slice (some ⟨w.heap.size, 0, none⟩) l.length l.length) l.length (encPs l) := by
  have := RowIn.lit w 56 2 (encPs l).toArray l.length (by simp [encPs_len]) (by unfold maxLen; omega)
  simpa using this
set_option maxRecDepth 8000 in
set_option maxHeartbeats 1600000 in
theorem line_any (g : Nat) (v : Value) (p : PS) (a : Pt) (w : World) (h : Pth w g v p) (hb : PB p) :
    Calls Tryd.prog 82 #[.pointer (some ⟨g, 0, none⟩), ptV a] w fun e w' => e = .returned (.int .i64 (lineF p a).1) ∧ PthTo w g v (lineF p a).2 w' := by
  obtain ⟨ws, hws⟩ : ∃ ws, w.alloc (.cells #[.int .i64 a.x, .int .i64 a.y] 56) = ws := ⟨_, rfl⟩
  have b1 : Blk ws w.heap.size (encP a).toArray 56 := by rw [← hws]; exact Blk.new w _ _
  have hf : Fr Nob w ws := by rw [← hws]; exact (Fr.refl Nob w).alloc _
  have hsz : ws.heap.size = w.heap.size + 1 := by rw [← hws]; simp
  have HZ := Lib.hid hsz
  clear hsz
  have c0 := b1.cell 0
  have c1 := b1.cell 1
  simp only [List.getElem?_toArray, encP, List.getElem?_cons_succ, List.getElem?_cons_zero] at c0 c1
  have HH := Lib.hid (h.nob hf)
  have B1 := Lib.hid b1
  have HF := Lib.hid hf
  have HW := Lib.hid hws
  clear h b1 hf hws
  obtain ⟨r, hr⟩ : ∃ r, lineF p a = r := ⟨_, rfl⟩
  rw [hr]
  unfold ptV
  have e1 : [a].all fitP = fitP a := by simp
  by_cases h0 : fitP a
  · have hr2 : drawF p (lineS a) a = r := by rw [← hr]; simp [lineF, h0]
    have hr' := Lib.hid hr2
    rw [h0] at e1
    have E1 := Lib.hid e1
    clear hr hr2 h0 e1
    go_enter Tryd.func82, Tryd.ntmps82
    go_wp2_with fail
    rw [HW.out, ← HZ.out]
    refine (fits_any _ [a] _ _ (RowIn.pts ws [a] (by simp))).mono ?_
    rw [E1.out]
    rintro e w1 ⟨rfl, hf⟩
    have hf1 := ((Fr.refl Nob ws).alloc (.cells (encPs [a]).toArray 56)).trans0 hf
    have d0 := cell_nob c0 hf1
    have d1 := cell_nob c1 hf1
    have HF1 := Lib.hid hf1
    clear hf hf1 c0 c1
    go_wp2_with fail
    refine (draw_any g v p (lineS a) a _ (HH.out.nob HF1.out) hb).mono ?_
    rw [hr'.out]
    rintro e w3 ⟨rfl, hq⟩
    have HQ := Lib.hid ((hq.after HF1.out).after HF.out)
    clear hq
    go_wp2_with fail
    go_ret
    exact ⟨rfl, HQ.out⟩
  · have hr2 : r = (11, p) := by rw [← hr]; simp [lineF, h0]
    subst hr2
    rw [show fitP a = false by simpa using h0] at e1
    have E1 := Lib.hid e1
    clear hr h0 e1
    go_enter Tryd.func82, Tryd.ntmps82
    go_wp2_with fail
    rw [HW.out, ← HZ.out]
    refine (fits_any _ [a] _ _ (RowIn.pts ws [a] (by simp))).mono ?_
    rw [E1.out]
    rintro e w1 ⟨rfl, hf⟩
    have HF1 := Lib.hid (((Fr.refl Nob ws).alloc (.cells (encPs [a]).toArray 56)).trans0 hf)
    clear hf
    go_wp2_with fail
    go_ret
    exact ⟨rfl, (PthTo.same HH.out HF1.out).after HF.out⟩
end Go.Proofs.YtkkejjfmidgciaaDoor
