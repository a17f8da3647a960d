/-
  Texts joined in build order: What the laws of chapter 14 are handed: numbers, matrices, calls. The walk of Restore. The walks of SetMatrix, SetFont, Unclip. The walk of SetColor. The walk of SetDash.
-/
import Derived.Test.YtkkejjfmidgciaaDoorJSNone6
import Derived.OpenShut
import Derived.Deep.RegionHeld3
/- What the laws of chapter 14 are handed: numbers, matrices, calls. -/
namespace Go.Proofs.YtkkejjfmidgciaaDoor
open Go.RowKit
set_option linter.unusedVariables false
set_option linter.unusedSimpArgs false
theorem cellsM6 : Tryd.prog.cellsOf 33 = 6 := by kernel_rfl
theorem cellsInts : Tryd.prog.cellsOf 30 = 1 := by kernel_rfl
theorem cellsAct14 : Tryd.prog.cellsOf 76 = 11 := by kernel_rfl
theorem read_ints {H : Type} {enc' : TypeId × Value → H} {w : World} {base : Nat} {spare : Nat → Bool} {held : Bool} {fuel : Nat} {v : Value} {x : DataW H × List MemPlace}
    (h : DataW.trod enc' Tryd.prog w base spare held fuel 30 [v] = some x) : ∃ l : List Int, RowIn w (Lt w) 1 v l.length (ints l) := by
  obtain ⟨xs, h1, h2⟩ := read_slice Tryd.underlying30 1 (by kernel_rfl) (by omega) (fun (z : Int) cs => cs = [.int .i64 z]) (fun n cs y h => by
    obtain ⟨z, hz, _⟩ := DataW.trod_int Tryd.underlying3 h
    exact ⟨z, hz⟩) h
  have e : xs.flatMap (·.2) = ints (xs.map (·.1)) := by
    clear h1
    induction xs with
    | nil => rfl
    | cons a r ih =>
      rw [List.flatMap_cons, (h2 a (by simp)).1, ih fun y hy => h2 y (by simp [hy])]
      simp [ints]
  rw [e] at h1
  exact ⟨xs.map (·.1), by simpa using h1⟩
theorem list6 {cs : List Value} (h : cs.length = 6) : ∃ a b c d e f, cs = [a, b, c, d, e, f] := by
  match cs, h with
  | [a, b, c, d, e, f], _ => exact ⟨a, b, c, d, e, f, rfl⟩
theorem list11 {cs : List Value} (h : cs.length = 11) : ∃ a b c d e f g h i j k, cs = [a, b, c, d, e, f, g, h, i, j, k] := by
  match cs, h with
  | [a, b, c, d, e, f, g, h, i, j, k], _ => exact ⟨a, b, c, d, e, f, g, h, i, j, k, rfl⟩
theorem read_m6 {H : Type} {enc' : TypeId × Value → H} {w : World} {base : Nat} {spare : Nat → Bool} {held : Bool} {n : Nat} {cs : List Value} {y : DataW H × List MemPlace}
    (h : DataW.trod enc' Tryd.prog w base spare held n 33 cs = some y) : ∃ m : M6, cs = encM m := by
  obtain ⟨ys, k, rfl, _, hl, hy3, hel⟩ := DataW.trod_array Tryd.underlying33 h
  rw [cellsM6] at hl
  obtain ⟨c0, c1, c2, c3, c4, c5, rfl⟩ := list6 hl
  have ht : ∀ i (hi : i < 6), ∃ z : Int, (([c0, c1, c2, c3, c4, c5] : List Value).drop (i * 1)).take 1 = [.int .i64 z] := fun i hi => by
    have := hel i hi
    rw [cells3, List.getElem?_eq_getElem (by omega)] at this
    obtain ⟨z, hz, _⟩ := DataW.trod_int Tryd.underlying3 this
    exact ⟨z, hz⟩
  obtain ⟨a, ha⟩ := ht 0 (by omega)
  obtain ⟨b, hb⟩ := ht 1 (by omega)
  obtain ⟨c, hc⟩ := ht 2 (by omega)
  obtain ⟨d, hd⟩ := ht 3 (by omega)
  obtain ⟨e, he⟩ := ht 4 (by omega)
  obtain ⟨f, hf⟩ := ht 5 (by omega)
  simp at ha hb hc hd he hf
  exact ⟨⟨a, b, c, d, e, f⟩, by simp [encM, ha, hb, hc, hd, he, hf]⟩
structure Act14 where
  d : Int
  n : Int
  m : M6
  l : List Int
  px : Int
  py : Int
def encA (a : Act14) (v : Value) : List Value := [.int .i64 a.d, .int .i64 a.n, .int .i64 a.m.a, .int .i64 a.m.b, .int .i64 a.m.c, .int .i64 a.m.d, .int .i64 a.m.e, .int .i64 a.m.f, v, .int .i64 a.px, .int .i64 a.py]
theorem read_act14 {H : Type} {enc' : TypeId × Value → H} {w : World} {base : Nat} {spare : Nat → Bool} {held : Bool} (n : Nat) (cs : List Value) (y : DataW H × List MemPlace)
    (h : DataW.trod enc' Tryd.prog w base spare held n 76 cs = some y) : ∃ a : Act14 × Value, cs = encA a.1 a.2 ∧ RowIn w (Lt w) 1 a.2 a.1.l.length (ints a.1.l) := by
  obtain ⟨xs, n, _, rfl, hl, hlen, hf⟩ := DataW.trod_struct Tryd.underlying76 h
  rw [cellsAct14] at hl
  have hx : xs.length = 5 := hlen
  obtain ⟨z0, h0, _⟩ := field_int (hf 0 _ rfl) (by omega) Tryd.underlying3 cells3
  obtain ⟨z1, h1, _⟩ := field_int (hf 1 _ rfl) (by omega) Tryd.underlying3 cells3
  have h2 : DataW.trod enc' Tryd.prog w base spare held n 33 ((cs.drop 2).take (Tryd.prog.cellsOf 33)) = xs[2]? := hf 2 _ rfl
  have h3 : DataW.trod enc' Tryd.prog w base spare held n 30 ((cs.drop 8).take (Tryd.prog.cellsOf 30)) = xs[3]? := hf 3 _ rfl
  have h4 : DataW.trod enc' Tryd.prog w base spare held n 56 ((cs.drop 9).take (Tryd.prog.cellsOf 56)) = xs[4]? := hf 4 _ rfl
  rw [cellsM6] at h2
  rw [cellsInts] at h3
  rw [cells23] at h4
  obtain ⟨c0, c1, c2, c3, c4, c5, c6, c7, c8, c9, c10, rfl⟩ := list11 hl
  rw [List.getElem?_eq_getElem (by omega)] at h2 h3 h4
  obtain ⟨m, hm⟩ := read_m6 (cs := [c2, c3, c4, c5, c6, c7]) h2
  obtain ⟨l, hl1⟩ := read_ints (v := c8) h3
  obtain ⟨p, hp⟩ := read_pt _ [c9, c10] _ h4
  simp at h0 h1
  simp [encM] at hm
  simp [encP] at hp
  exact ⟨(⟨z0, z1, m, l, p.x, p.y⟩, c8), by simp [encA, h0, h1, hm, hp], hl1⟩
end Go.Proofs.YtkkejjfmidgciaaDoor
/- The walk of Restore. -/
namespace Go.Proofs.YtkkejjfmidgciaaDoor
open Go.RowKit
set_option linter.unusedVariables false
set_option linter.unusedSimpArgs false
/-- A saved level's cells. -/
theorem GsX.at {w : World} {g : Nat} {F : Nat → Prop} {s : GS} {lab : Nat → Nat} {x : LvG} {sv : Value} {xs : List (Lv × LvG)} (h : GsX w g F s lab x sv xs) (hn : 0 < xs.length) :
    ∃ b cap, sv = .slice (some ⟨b, 0, none⟩) xs.length cap ∧ xs.length ≤ cap ∧ cap ≤ 9223372036854775807 ∧ ∀ k (hk : k < xs.length), w.rangeAt b (k * 27) (encL xs[k].1 xs[k].2) := by
  rcases h.o.2 with ⟨_, h0⟩ | ⟨b, cap, cur, hv, hb, h1, h2, h3, h4⟩
  · omega
  · refine ⟨b, cap, hv, h1, h2, fun k hk => hb.range _ _ ?_⟩
    have e : cur.toList = (encLs xs) ++ cur.toList.drop (xs.length * 27) := by rw [← h4, List.take_append_drop]
    have hl := encLs_len xs
    have e2 : (cur.toList.drop (k * 27)).take 27 = encL xs[k].1 xs[k].2 := by
      rw [e, List.drop_append_of_le_length (by omega), List.take_append_of_le_length (by rw [List.length_drop]; omega)]
      exact encLs_at xs k hk
    exact e2
/-- The last level is the one that is. -/
theorem GsX.pop {w w' : World} {g : Nat} {F : Nat → Prop} {s : GS} {lab : Nat → Nat} {x : LvG} {sv : Value} {xs : List (Lv × LvG)} {m : Nat} (h : GsX w g F s lab x sv xs) (hm : xs.length = m + 1) (hf : Fr (fun k => k = g) w w')
    (hb : Blk w' g (encL (xs[m]'(by omega)).1 (xs[m]'(by omega)).2 ++ [.int .i64 s.most, .int .i64 s.segs, takeV sv m]).toArray 124) : GsTo w g F { s with cur := (xs[m]'(by omega)).1, saved := s.saved.take m } w' := by
  have hk0 : ∀ k, k = g → lab k = 1 := fun k e => e ▸ h.g1.2
  obtain ⟨ho, hob⟩ := h.o.takeV m (by omega)
  rw [encLs_take xs m (by omega)] at ho
  have hof : OwnS w' 121 27 (takeV sv m) m (encLs (xs.take m)) := ho.fr hf fun k hk e => ho.ne h.b (by decide) k hk e
  have hfl : ∀ i (hi : i < xs.length), LvIn w' (fun k => F k ∧ lab k = 0) (fun k => F k ∧ lab k = i + 3) xs[i].1 xs[i].2 := fun i hi =>
    (h.s i hi).fr hf (fun k hk e => by have := hk0 k e; have := hk.2; omega) fun k hk e => by have := hk0 k e; have := hk.2; omega
  refine ⟨⟨fun k => if lab k = m + 3 then 2 else if lab k = 2 then 0 else lab k, (xs[m]'(by omega)).2, takeV sv m, xs.take m, by simp [h.l], hb, ⟨.inl h.g1.1, ?_⟩, by rw [List.length_take, Nat.min_eq_left (by omega)]; exact hof, fun k hk => ?_, ?_, fun i hi => ?_⟩, hf.mono fun k hk => hk ▸ h.g1.1⟩
  · have := h.g1.2
    simp [this]
  · rw [hob] at hk
    have := h.o1 k hk
    exact ⟨.inl this.1, by simp [this.2]⟩
  · refine (hfl m (by omega)).mono (fun k hk => ⟨.inl hk.1, ?_⟩) fun k hk _ => ⟨.inl hk.1, ?_⟩
    · rw [if_neg (by omega), if_neg (by omega)]; exact hk.2
    · rw [if_pos hk.2]
  · rw [List.length_take] at hi
    have h1 := hfl i (by omega)
    simp only [List.getElem_take]
    refine h1.mono (fun k hk => ⟨.inl hk.1, ?_⟩) fun k hk _ => ⟨.inl hk.1, ?_⟩
    · rw [if_neg (by omega), if_neg (by omega)]; exact hk.2
    · rw [if_neg (by omega), if_neg (by omega)]; exact hk.2
def restF (s : GS) : GS := if h : 0 < s.saved.length then { s with cur := s.saved[s.saved.length - 1], saved := s.saved.take (s.saved.length - 1) } else s
set_option maxRecDepth 8000 in
set_option maxHeartbeats 1600000 in
theorem grestore_any (g : Nat) (F : Nat → Prop) (s : GS) (w : World) (h : Gs w g F s) (hb : s.saved.length ≤ 1000) :
    Calls Tryd.prog 37 #[.pointer (some ⟨g, 0, none⟩)] w fun e w' => e = .returned (.tuple #[]) ∧ GsTo w g F (restF s) w' := by
  have HD := Lib.hid (gdepth_any g F s w h)
  by_cases h0 : 0 < s.saved.length
  · obtain ⟨lab, x, sv, xs, h⟩ := h
    have hl := h.len
    obtain ⟨m, hm⟩ : ∃ m, xs.length = m + 1 := ⟨xs.length - 1, by omega⟩
    have hr : restF s = { s with cur := (xs[m]'(by omega)).1, saved := s.saved.take m } := by
      unfold restF
      rw [dif_pos h0]
      have e1 : s.saved.length - 1 = m := by omega
      have e2 : s.saved[m]'(by omega) = (xs[m]'(by omega)).1 := by simp [← h.l]
      simp only [e1, e2]
    rw [hr]
    obtain ⟨i0, hi, hz0, hz1, hz2⟩ := info_parts infoLevel
    obtain ⟨b, cap, hsv, hc1, hc2, hat⟩ := h.at (by omega)
    have HAT := Lib.hid (hat m (by omega))
    have HP := Lib.hid (fun w' hf hb => h.pop (w' := w') hm hf hb)
    obtain ⟨⟨Ad, cd, hdv, _⟩, Ac, cc, hcv, _⟩ := And.intro (h.s m (by omega)).g.d.form (h.s m (by omega)).g.c.form
    have HONE := Lib.hid (encL_one (xs[m]'(by omega)).1 (xs[m]'(by omega)).2 ⟨_, _, _, hdv⟩ ⟨_, _, _, hcv⟩)
    generalize (xs[m]'(by omega)).1 = lv at *
    generalize (xs[m]'(by omega)).2 = xv at *
    subst hsv
    have HB := Lib.hid h.cells
    have hne := h.ne
    have c29 := h.cells.cell 29
    simp only [List.getElem?_toArray, List.getElem?_cons_succ, List.getElem?_cons_zero] at c29
    rw [← hl] at HD hb
    clear h h0 hl hr hdv hcv hat hne
    generalize xs.length = n at *
    have e0 : (n : Int) - 1 = m := by omega
    have i1 : (m : Int) < n := by omega
    have i2 : (0 : Int) ≤ m := by omega
    have hmN := Lib.hid hm
    have hcm : m ≤ cap := by omega
    have wm : IntKind.i64.wrap (m : Int) = m := IntWalk.i64_in _ (by omega)
    have i3 : (0 : Int) < n := by omega
    have i4 : decide (0 < n) = true := by simp; omega
    clear hm
    go_enter Tryd.func37, Tryd.ntmps37
    go_wp2_with fail
    refine HD.out.mono ?_
    rintro e w1 ⟨rfl, rfl⟩
    go_wp2_with (first
      | (refine wpList_getAt rfl 121 (.tmp 14) rfl b (m * 27) (by rfl) (encL lv xv) _ HAT.out Tryd.underlying121 rfl sizeL ?_)
      | refine wpList_putAt rfl 121 (.tmp 17) (.tmp 15) rfl g 0 (encL lv xv) (by rfl) (by rfl) 124 _ HB.out (show 27 ≤ 30 by omega) sizeL HONE.out ?_)
    intro w2 hb2 hf2
    replace hb2 : Blk w2 g (encL lv xv ++ [Value.int .i64 s.most, Value.int .i64 s.segs, Value.slice (some ⟨b, 0, none⟩) n cap]).toArray 124 := hb2
    have d29 : w2.cell? ⟨g, 29, none⟩ = some (.slice (some ⟨b, 0, none⟩) n cap) := hb2.cell 29
    have q29 := hb2.free 29
    have HB2 := Lib.hid hb2
    have HF2 := Lib.hid hf2
    have kt : ∀ w : World, (Instr.slice 122 (.slice (some ⟨b, 0, none⟩) n cap) none (some (.int .i64 (m : Int))) none).run Tryd.prog w = .ok (.slice (some ⟨b, 0, none⟩) m cap) w := fun w => run_takeV Tryd.underlying122 hi _ n cap m (by omega) w
    clear hb2 hf2 c29
    go_wp2_with fail
    go_end0
    exact ⟨rfl, HP.out _ (HF2.out.setCell (p := ⟨g, 29, none⟩) (.inl rfl) _) (HB2.out.set 29 _)⟩
  · rw [show restF s = s by unfold restF; rw [dif_neg h0]]
    have e0 : s.saved.length = 0 := by omega
    rw [e0] at HD
    have HH := Lib.hid h
    clear h h0 e0 hb
    go_enter Tryd.func37, Tryd.ntmps37
    go_wp2_with fail
    refine HD.out.mono ?_
    rintro e w1 ⟨rfl, rfl⟩
    go_wp2_with fail
    go_end0
    exact ⟨rfl, GsTo.same HH.out (Fr.refl _ _)⟩
end Go.Proofs.YtkkejjfmidgciaaDoor
/- The walks of SetMatrix, SetFont, Unclip. -/
namespace Go.Proofs.YtkkejjfmidgciaaDoor
open Go.RowKit
set_option linter.unusedVariables false
set_option linter.unusedSimpArgs false
def m6L (m : M6) : List Int := [m.a, m.b, m.c, m.d, m.e, m.f]
theorem sizeM6 : (Tryd.prog.info? 33).map (·.size) = some 6 := by kernel_rfl
theorem encM_one (m : M6) : ∀ u ∈ encM m, u.oneCell' = true := by
  intro u hu
  simp only [encM, List.mem_cons, List.not_mem_nil, or_false] at hu
  rcases hu with rfl | rfl | rfl | rfl | rfl | rfl <;> rfl
theorem Blk.m6 {w : World} {g : Nat} {m : M6} {t : TypeId} (h : Blk w g (encM m).toArray t) : RowIn w (fun k => k = g) 1 (.slice (some ⟨g, 0, none⟩) 6 6) (m6L m).length (YtkkejjfmidgciaaDoor.ints (m6L m)) := h.row (n := 6) (size := 1) rfl (by decide)
/-- Lists anew: what is made since w0 is never written again. -/
theorem GsX.putN {w w1 w' : World} {g : Nat} {F : Nat → Prop} {s : GS} {lab : Nat → Nat} {x : LvG} {sv : Value} {xs : List (Lv × LvG)} (h : GsX w g F s lab x sv xs) (hN : Fr Nob w w1) (hf : Fr (fun k => k = g) w1 w') (st : Gst) (dv cv : Value)
    (hG : GIn w1 (fun k => (F k ∧ lab k = 0) ∨ w.heap.size ≤ k) dv cv st)
    (hb : Blk w' g #[.int .i64 st.ctm.a, .int .i64 st.ctm.b, .int .i64 st.ctm.c, .int .i64 st.ctm.d, .int .i64 st.ctm.e, .int .i64 st.ctm.f, .int .i64 st.col.sp, .int .i64 st.col.p0, .int .i64 st.col.p1, .int .i64 st.col.p2, .int .i64 st.col.p3, .int .i64 st.width, .int .i64 st.cap, .int .i64 st.join, .int .i64 st.miter, dv, .int .i64 st.phase, .int .i64 st.font, .int .i64 st.fm.a, .int .i64 st.fm.b, .int .i64 st.fm.c, .int .i64 st.fm.d, .int .i64 st.fm.e, .int .i64 st.fm.f, cv, .bool st.dark, .pointer (some ⟨x.pg, 0, none⟩), .int .i64 s.most, .int .i64 s.segs, sv] 124) : GsTo w g F { s with cur := { s.cur with st := st } } w' := by
  have hF : Fr F w w' := (hN.mono (T := F) fun _ hh => hh.elim).trans hf fun k hk => .inl (hk ▸ h.g1.1)
  have h2 := h.lab (F' := Ext F w w') (fun k => if k < w.heap.size then lab k else 0) (fun k hk _ => .inl hk) fun k hk => by simp [hk]
  have h3 := h2.nob hN fun _ _ hh => hh
  have hz := hf.size
  refine ⟨⟨_, _, sv, xs, h3.upd st dv cv hb hf (((hG.lts).fr hf fun k hk e => ?_).mono fun k hk => ?_)⟩, hF⟩
  · subst e
    rcases hk.1 with hk | hk
    · have := h.g1.2; omega
    · have := h.b.lt; omega
  · by_cases hkw : k < w.heap.size
    · rcases hk.1 with h1 | h1
      · exact ⟨.inl h1.1, by simp only [hkw, if_true]; exact h1.2⟩
      · omega
    · exact ⟨.inr ⟨by omega, Nat.lt_of_lt_of_le hk.2 hz⟩, by simp only [hkw, if_false]⟩
def matrixF (m : M6) (st : Gst) : Int × Gst := if (m6L m).all fitZ then (0, { st with ctm := m }) else (11, st)
theorem chkI_no {l : List Int} (h : ¬ l.all fitZ = true) : chkI l = 11 := by unfold chkI; rw [if_neg h]
theorem chkI_ok {l : List Int} (h : l.all fitZ = true) : chkI l = 0 := by unfold chkI; rw [if_pos h]
theorem gmatrix_any (g : Nat) (F : Nat → Prop) (s : GS) (m : M6) (w : World) (h : Gs w g F s) :
    Calls Tryd.prog 61 #[.pointer (some ⟨g, 0, none⟩), mV m] w fun e w' => e = .returned (.int .i64 (matrixF m s.cur.st).1) ∧ GsTo w g F { s with cur := { s.cur with st := (matrixF m s.cur.st).2 } } w' := by
  have hf : Fr Nob w (w.alloc (.cells (encM m).toArray 33)) := (Fr.refl Nob w).alloc _
  have HI := Lib.hid (check_any ⟨g, 0, none⟩ (m6L m) _ _ (w.alloc (.cells (encM m).toArray 33)) (Blk.new w (encM m).toArray 33).m6)
  have HF := Lib.hid hf
  unfold matrixF mV
  by_cases h1 : (m6L m).all fitZ = true
  · rw [if_pos h1]
    rw [chkI_ok h1] at HI
    obtain ⟨lab, x, sv, xs, h⟩ := h
    have HB := Lib.hid (h.cells.nob hf)
    have HM := Lib.hid (Blk.new w (encM m).toArray 33)
    have HH := Lib.hid h
    clear h h1 hf
    go_enter Tryd.func61, Tryd.ntmps61
    go_wp2_with fail
    refine HI.out.mono ?_
    rintro e w1 ⟨rfl, rfl⟩
    generalize w.alloc (.cells (encM m).toArray 33) = wa at *
    go_wp2_with (first
      | (refine wpList_getAt rfl 33 (.tmp 3) rfl w.heap.size 0 (by rfl) (encM m) _ (HM.out.range 0 _ (by rfl)) Tryd.underlying33 rfl sizeM6 ?_)
      | (refine wpList_putAt rfl 33 (.tmp 16) (.tmp 12) rfl g 0 (encM m) (by rfl) (by rfl) 124 _ HB.out (show 6 ≤ 30 by omega) sizeM6 (encM_one m) ?_))
    intro w2 hb2 hf2
    have HB2 := Lib.hid hb2
    have HF2 := Lib.hid hf2
    clear hb2 hf2
    go_wp2_with fail
    go_ret
    exact ⟨rfl, HH.out.put HF.out HF2.out { s.cur.st with ctm := m } rfl rfl HB2.out⟩
  · rw [if_neg h1]
    rw [chkI_no h1] at HI
    have HH := Lib.hid h
    clear h h1 hf
    go_enter Tryd.func61, Tryd.ntmps61
    go_wp2_with fail
    refine HI.out.mono ?_
    rintro e w1 ⟨rfl, rfl⟩
    go_wp2_with fail
    go_ret
    exact ⟨rfl, GsTo.same HH.out HF.out⟩
theorem names_ne (n : Nat) (h : n < 14) : (nameS n).toList.isEmpty = false := by
  have hall : (List.range 14).all (fun n => !(nameS n).toList.isEmpty) = true := by decide +kernel
  simpa using List.all_eq_true.1 hall n (by simpa using h)
def fontF (i : Int) (m : M6) (st : Gst) : Int × Gst := if (m6L m).all fitZ then (if 0 ≤ i ∧ i < 14 then (0, { st with font := i, fm := m }) else (7, st)) else (11, st)
theorem gfont_any (g : Nat) (F : Nat → Prop) (s : GS) (i : Int) (m : M6) (w : World) (h : Gs w g F s) (hN : NamesIn w) :
    Calls Tryd.prog 60 #[.pointer (some ⟨g, 0, none⟩), .int .i64 i, mV m] w fun e w' => e = .returned (.int .i64 (fontF i m s.cur.st).1) ∧ GsTo w g F { s with cur := { s.cur with st := (fontF i m s.cur.st).2 } } w' := by
  have hf : Fr Nob w (w.alloc (.cells (encM m).toArray 33)) := (Fr.refl Nob w).alloc _
  have HI := Lib.hid (check_any ⟨g, 0, none⟩ (m6L m) _ _ (w.alloc (.cells (encM m).toArray 33)) (Blk.new w (encM m).toArray 33).m6)
  have HF := Lib.hid hf
  have HNM := Lib.hid (name_any i _ (hN.nob hf))
  clear hN
  unfold fontF mV
  by_cases h1 : (m6L m).all fitZ = true
  · rw [if_pos h1]
    rw [chkI_ok h1] at HI
    by_cases h2 : 0 ≤ i ∧ i < 14
    · rw [if_pos h2]
      obtain ⟨n, rfl⟩ : ∃ n : Nat, i = n := ⟨i.toNat, by omega⟩
      have hne := names_ne n (by omega)
      rw [show nameF (n : Int) = nameS n by simp only [nameF]; rw [if_neg (by omega)]; rfl] at HNM
      generalize nameS n = nm at *
      have hne2 : (!nm.toList.isEmpty) = true := by simp [hne]
      obtain ⟨lab, x, sv, xs, h⟩ := h
      have hB := h.cells.nob hf
      have c17 := hB.cell 17
      have q17 := hB.free 17
      simp only [List.getElem?_toArray, List.getElem?_cons_succ, List.getElem?_cons_zero] at c17
      have hgw : g ≠ w.heap.size := by have := h.b.lt; omega
      have HB := Lib.hid (hB.set 17 (.int .i64 (n : Int)))
      have HM0 := Lib.hid (Blk.new w (encM m).toArray 33)
      have HM := Lib.hid ((Blk.new w (encM m).toArray 33).far (p := ⟨g, 17, none⟩) (fun e => hgw e.symm) (.int .i64 (n : Int)))
      have HFS := Lib.hid ((Fr.refl (fun k => k = g) (w.alloc (.cells (encM m).toArray 33))).setCell (p := ⟨g, 17, none⟩) (.inl rfl) (.int .i64 (n : Int)))
      have HH := Lib.hid h
      clear h h1 h2 hf hB
      go_enter Tryd.func60, Tryd.ntmps60
      go_wp2_with fail
      refine HI.out.mono ?_
      rintro e w1 ⟨rfl, rfl⟩
      generalize w.alloc (.cells (encM m).toArray 33) = wa at *
      go_wp2_with fail
      refine HNM.out.mono ?_
      rintro e w1 ⟨rfl, rfl⟩
      go_wp2_with (first
        | (refine wpList_getAt rfl 33 (.tmp 5) rfl w.heap.size 0 (by rfl) (encM m) _ (HM0.out.range 0 _ (by rfl)) Tryd.underlying33 rfl sizeM6 ?_)
        | (refine wpList_putAt rfl 33 (.tmp 28) (.tmp 20) rfl g 18 (encM m) (by rfl) (by rfl) 124 _ HB.out (show 24 ≤ 30 by omega) sizeM6 (encM_one m) ?_))
      intro w2 hb2 hf2
      have HB2 := Lib.hid hb2
      have HF2 := Lib.hid (HFS.out.trans hf2 fun k hk => .inl hk)
      clear hb2 hf2
      go_wp2_with fail
      go_ret
      exact ⟨rfl, HH.out.put HF.out HF2.out { s.cur.st with font := n, fm := m } rfl rfl HB2.out⟩
    · rw [if_neg h2]
      rw [show nameF i = ⟨#[]⟩ by unfold nameF; rw [if_pos (by omega)]] at HNM
      have HH := Lib.hid h
      clear h h1 h2 hf
      go_enter Tryd.func60, Tryd.ntmps60
      go_wp2_with fail
      refine HI.out.mono ?_
      rintro e w1 ⟨rfl, rfl⟩
      go_wp2_with fail
      refine HNM.out.mono ?_
      rintro e w1 ⟨rfl, rfl⟩
      go_wp2_with fail
      go_ret
      exact ⟨rfl, GsTo.same HH.out HF.out⟩
  · rw [if_neg h1]
    rw [chkI_no h1] at HI
    have HH := Lib.hid h
    clear h h1 hf
    go_enter Tryd.func60, Tryd.ntmps60
    go_wp2_with fail
    refine HI.out.mono ?_
    rintro e w1 ⟨rfl, rfl⟩
    go_wp2_with fail
    go_ret
    exact ⟨rfl, GsTo.same HH.out HF.out⟩
theorem gunclip_any (g : Nat) (F : Nat → Prop) (s : GS) (w : World) (h : Gs w g F s) :
    Calls Tryd.prog 80 #[.pointer (some ⟨g, 0, none⟩)] w fun e w' => e = .returned (.tuple #[]) ∧ GsTo w g F { s with cur := { s.cur with st := { s.cur.st with clips := [], dark := false } } } w' := by
  obtain ⟨lab, x, sv, xs, h⟩ := h
  have hB := h.cells
  have c24 := hB.cell 24
  have q24 := hB.free 24
  have c25 := hB.cell 25
  have q25 := hB.free 25
  simp only [List.getElem?_toArray, List.getElem?_cons_succ, List.getElem?_cons_zero] at c24 c25
  have HH := Lib.hid h
  obtain ⟨A, c, hcv, _⟩ := h.c.g.c.form
  clear h hB
  go_enter Tryd.func80, Tryd.ntmps80
  go_wp2_with fail
  go_end0
  exact ⟨rfl, HH.out.putN (Fr.refl _ _) (((Fr.refl (fun k => k = g) _).setCell (p := ⟨g, 24, none⟩) (.inl rfl) _).setCell (p := ⟨g, 25, none⟩) (.inl rfl) _) { s.cur.st with clips := [], dark := false } x.dv (.slice none 0 0) ⟨HH.out.c.g.d.mono fun k hk => .inl hk, Clps.nil _ _⟩ ((HH.out.cells.set 24 _).set 25 _)⟩
end Go.Proofs.YtkkejjfmidgciaaDoor
/- The walk of SetColor. -/
namespace Go.Proofs.YtkkejjfmidgciaaDoor
open Go.RowKit
set_option linter.unusedVariables false
set_option linter.unusedSimpArgs false
def clampC (x : Int) : Int := if 65536 < (if x < 0 then 0 else x) then 65536 else if x < 0 then 0 else x
def partC (l : List Int) (k : Nat) : Int := match l[k]? with
  | some x => clampC x
  | none => 0
def colOf (l : List Int) : Col := ⟨l.length, partC l 0, partC l 1, partC l 2, partC l 3⟩
def colorF (l : List Int) (st : Gst) : Int × Gst := if l.all fitZ then (if l.length = 1 ∨ l.length = 3 ∨ l.length = 4 then (0, { st with col := colOf l }) else (11, st)) else (11, st)
theorem partC_in {l : List Int} {k : Nat} (h : k < l.length) : partC l k = clampC l[k] := by simp [partC, h]
theorem partC_out {l : List Int} {k : Nat} (h : l.length ≤ k) : partC l k = 0 := by simp [partC, h]
def upC (l : List Int) (k j : Nat) : Int := if j < k then partC l j else 0
theorem upC_all {l : List Int} {k j : Nat} (h : l.length ≤ k) : upC l k j = partC l j := by
  unfold upC
  by_cases hj : j < k
  · rw [if_pos hj]
  · rw [if_neg hj, partC_out (by omega)]
theorem sizeCol : (Tryd.prog.info? 28).map (·.size) = some 5 := by kernel_rfl
def encC (c : Col) : List Value := [.int .i64 c.sp, .int .i64 c.p0, .int .i64 c.p1, .int .i64 c.p2, .int .i64 c.p3]
theorem encC_one (m : Col) : ∀ u ∈ encC m, u.oneCell' = true := by
  intro u hu
  simp only [encC, List.mem_cons, List.not_mem_nil, or_false] at hu
  rcases hu with rfl | rfl | rfl | rfl | rfl <;> rfl
def colA (l : List Int) (k : Nat) : Array Value := #[.int .i64 l.length, .int .i64 (upC l k 0), .int .i64 (upC l k 1), .int .i64 (upC l k 2), .int .i64 (upC l k 3)]
theorem Blk.col0 {w : World} {b : Nat} {l : List Int} {x : Int} {t : TypeId} (h : Blk w b (colA l 0) t) (hx : partC l 0 = clampC x) : Blk (w.setCell ⟨b, 1, none⟩ (.int .i64 (clampC x))) b (colA l 1) t := by
  have := h.set 1 (.int .i64 (clampC x))
  rw [← hx] at this ⊢
  exact this
theorem Blk.col1 {w : World} {b : Nat} {l : List Int} {x : Int} {t : TypeId} (h : Blk w b (colA l 1) t) (hx : partC l 1 = clampC x) : Blk (w.setCell ⟨b, 2, none⟩ (.int .i64 (clampC x))) b (colA l 2) t := by
  have := h.set 2 (.int .i64 (clampC x))
  rw [← hx] at this ⊢
  exact this
theorem Blk.col2 {w : World} {b : Nat} {l : List Int} {x : Int} {t : TypeId} (h : Blk w b (colA l 2) t) (hx : partC l 2 = clampC x) : Blk (w.setCell ⟨b, 3, none⟩ (.int .i64 (clampC x))) b (colA l 3) t := by
  have := h.set 3 (.int .i64 (clampC x))
  rw [← hx] at this ⊢
  exact this
theorem Blk.col3 {w : World} {b : Nat} {l : List Int} {x : Int} {t : TypeId} (h : Blk w b (colA l 3) t) (hx : partC l 3 = clampC x) : Blk (w.setCell ⟨b, 4, none⟩ (.int .i64 (clampC x))) b (colA l 4) t := by
  have := h.set 4 (.int .i64 (clampC x))
  rw [← hx] at this ⊢
  exact this
set_option maxHeartbeats 1600000 in
theorem gcolor_in (g : Nat) (F : Nat → Prop) (s : GS) (v : Value) (l : List Int) (S : Nat → Prop) (w : World) (h : Gs w g F s) (hr : RowIn w S 1 v l.length (ints l)) (h1 : l.all fitZ = true) (h2 : l.length = 1 ∨ l.length = 3 ∨ l.length = 4) :
    Calls Tryd.prog 75 #[.pointer (some ⟨g, 0, none⟩), v] w fun e w' => e = .returned (.int .i64 0) ∧ GsTo w g F { s with cur := { s.cur with st := { s.cur.st with col := colOf l } } } w' := by
  have HI := Lib.hid (check_any ⟨g, 0, none⟩ l v S w hr)
  rw [chkI_ok h1] at HI
  obtain ⟨b, off, cap, rfl, hc1, hc2, _, hA⟩ := hr.int (by omega)
  have HA := Lib.hid hA
  have HL := Lib.hid h2
  have HH := Lib.hid h
  have hn0 : 0 < l.length := by omega
  have hn4 : l.length ≤ 4 := by omega
  have HC0 := Lib.hid (show Blk (w.alloc (.cells #[.int .i64 l.length, .int .i64 0, .int .i64 0, .int .i64 0, .int .i64 0] 28)) w.heap.size (colA l 0) 28 from Blk.new w _ _)
  have HF0 := Lib.hid ((Fr.refl Nob w).alloc (.cells #[.int .i64 l.length, .int .i64 0, .int .i64 0, .int .i64 0, .int .i64 0] 28))
  have g1 : ((l.length : Int) != 1) = true ∧ ((l.length : Int) != 3) = false ∨ ((l.length : Int) != 1) = true ∧ ((l.length : Int) != 3) = true ∧ ((l.length : Int) != 4) = false ∨ ((l.length : Int) != 1) = false := by
    rcases h2 with e | e | e <;> simp [e]
  clear hr h h1 h2 hA
  rcases g1 with ⟨ga, gb⟩ | ⟨ga, gb, gc⟩ | ga
  all_goals
    go_enter Tryd.func75, Tryd.ntmps75
    go_wp2_with fail
    refine HI.out.mono ?_
    rintro e w1 ⟨rfl, rfl⟩
    go_upto_region 8 with (fail)
    generalize w.alloc (.cells #[.int .i64 l.length, .int .i64 0, .int .i64 0, .int .i64 0, .int .i64 0] 28) = wa at *
    go_wp2_with fail
    go_loopw [32] (fun q wr => ∃ k : Nat, k ≤ l.length ∧ q = .int .i64 k ∧ Hid (Blk wr w.heap.size (colA l k) 28) ∧ Hid (Fr Nob w wr)) (fun q _ => l.length - (intOf q).toNat)
    case atStart => exact ⟨0, by omega, rfl, HC0.out, HF0.out⟩
    case round =>
      obtain ⟨k, hk, rfl, HC, HF⟩ := hrel
      by_cases hlt : k < l.length
      · have a0 := cell_nob (HA.out k hlt) HF.out
        have i1 : (k : Int) < l.length := by omega
        have hpart := Lib.hid (partC_in hlt)
        generalize l[k] = x at *
        have h4 : k = 0 ∨ k = 1 ∨ k = 2 ∨ k = 3 := by omega
        rcases h4 with ek | ek | ek | ek
        · have ei : (k : Int) = 0 := by omega
          have HLT := Lib.hid hlt
          rw [ek] at a0 hpart HC
          rw [Nat.add_zero] at a0
          have i1 : (0 : Int) < l.length := by omega
          have ml : l.length - 1 < l.length - 0 := by omega
          have ll : 1 ≤ l.length := by omega
          clear ek hlt hk
          have k1 : wr.cell? ⟨w.heap.size, 1, none⟩ = some (.int .i64 (upC l 0 0)) := HC.out.cell 1
          have q1 := HC.out.free 1
          go_wp2_with fail
          go_roundw
          case rel => exact ⟨1, ll, rfl, HC.out.col0 hpart.out, HF.out.setCell (.inr (Nat.le_refl _)) _⟩
          case measure => simpa [intOf, ei] using ml
        · have ei : (k : Int) = 1 := by omega
          have HLT := Lib.hid hlt
          rw [ek] at a0 hpart HC
          skip
          have i1 : (1 : Int) < l.length := by omega
          have ml : l.length - 2 < l.length - 1 := by omega
          have ll : 2 ≤ l.length := by omega
          clear ek hlt hk
          have k1 : wr.cell? ⟨w.heap.size, 2, none⟩ = some (.int .i64 (upC l 1 1)) := HC.out.cell 2
          have q1 := HC.out.free 2
          go_wp2_with fail
          go_roundw
          case rel => exact ⟨2, ll, rfl, HC.out.col1 hpart.out, HF.out.setCell (.inr (Nat.le_refl _)) _⟩
          case measure => simpa [intOf, ei] using ml
        · have ei : (k : Int) = 2 := by omega
          have HLT := Lib.hid hlt
          rw [ek] at a0 hpart HC
          skip
          have i1 : (2 : Int) < l.length := by omega
          have ml : l.length - 3 < l.length - 2 := by omega
          have ll : 3 ≤ l.length := by omega
          clear ek hlt hk
          have k1 : wr.cell? ⟨w.heap.size, 3, none⟩ = some (.int .i64 (upC l 2 2)) := HC.out.cell 3
          have q1 := HC.out.free 3
          go_wp2_with fail
          go_roundw
          case rel => exact ⟨3, ll, rfl, HC.out.col2 hpart.out, HF.out.setCell (.inr (Nat.le_refl _)) _⟩
          case measure => simpa [intOf, ei] using ml
        · have ei : (k : Int) = 3 := by omega
          have HLT := Lib.hid hlt
          rw [ek] at a0 hpart HC
          skip
          have i1 : (3 : Int) < l.length := by omega
          have ml : l.length - 4 < l.length - 3 := by omega
          have ll : 4 ≤ l.length := by omega
          clear ek hlt hk
          have k1 : wr.cell? ⟨w.heap.size, 4, none⟩ = some (.int .i64 (upC l 3 3)) := HC.out.cell 4
          have q1 := HC.out.free 4
          go_wp2_with fail
          go_roundw
          case rel => exact ⟨4, ll, rfl, HC.out.col3 hpart.out, HF.out.setCell (.inr (Nat.le_refl _)) _⟩
          case measure => simpa [intOf, ei] using ml
      · have hge : l.length ≤ k := by omega
        have HCE := Lib.hid (show Blk wr w.heap.size (encC (colOf l)).toArray 28 from by
          have := HC.out
          unfold colA at this
          rw [upC_all hge, upC_all hge, upC_all hge, upC_all hge] at this
          exact this)
        obtain ⟨lab, x, sv, xs, h⟩ := HH.out
        have HB := Lib.hid (h.cells.nob HF.out)
        have HX := Lib.hid h
        clear h
        have ge : ¬ (k : Int) < l.length := by omega
        go_wp2_with (first
          | (refine wpList_getAt rfl 28 (.tmp 7) rfl w.heap.size 0 (by rfl) (encC (colOf l)) _ (HCE.out.range 0 _ (by rfl)) Tryd.underlying28 rfl sizeCol ?_)
          | (refine wpList_putAt rfl 28 (.tmp 49) (.tmp 45) rfl g 6 (encC (colOf l)) (by rfl) (by rfl) 124 _ HB.out (show 11 ≤ 30 by omega) sizeCol (encC_one _) ?_))
        intro w2 hb2 hf2
        have HB2 := Lib.hid hb2
        have HF2 := Lib.hid hf2
        clear hb2 hf2
        go_wp2_with fail
        go_ret
        exact ⟨rfl, HX.out.put HF.out HF2.out { s.cur.st with col := colOf l } rfl rfl HB2.out⟩
theorem gcolor_any (g : Nat) (F : Nat → Prop) (s : GS) (v : Value) (l : List Int) (S : Nat → Prop) (w : World) (h : Gs w g F s) (hr : RowIn w S 1 v l.length (ints l)) :
    Calls Tryd.prog 75 #[.pointer (some ⟨g, 0, none⟩), v] w fun e w' => e = .returned (.int .i64 (colorF l s.cur.st).1) ∧ GsTo w g F { s with cur := { s.cur with st := (colorF l s.cur.st).2 } } w' := by
  unfold colorF
  by_cases h1 : l.all fitZ = true
  · rw [if_pos h1]
    by_cases h2 : l.length = 1 ∨ l.length = 3 ∨ l.length = 4
    · rw [if_pos h2]
      exact gcolor_in g F s v l S w h hr h1 h2
    · rw [if_neg h2]
      have HI := Lib.hid (check_any ⟨g, 0, none⟩ l v S w hr)
      rw [chkI_ok h1] at HI
      obtain ⟨A, cap, rfl, _⟩ := hr.form
      have HH := Lib.hid h
      have g1 : ((l.length : Int) != 1) = true := by simp; omega
      have g2 : ((l.length : Int) != 3) = true := by simp; omega
      have g3 : ((l.length : Int) != 4) = true := by simp; omega
      clear h h1 h2 hr
      go_enter Tryd.func75, Tryd.ntmps75
      go_wp2_with fail
      refine HI.out.mono ?_
      rintro e w1 ⟨rfl, rfl⟩
      go_wp2_with fail
      go_ret
      exact ⟨rfl, GsTo.same HH.out (Fr.refl _ _)⟩
  · rw [if_neg h1]
    have HI := Lib.hid (check_any ⟨g, 0, none⟩ l v S w hr)
    rw [chkI_no h1] at HI
    obtain ⟨A, cap, rfl, _⟩ := hr.form
    have HH := Lib.hid h
    clear h h1 hr
    go_enter Tryd.func75, Tryd.ntmps75
    go_wp2_with fail
    refine HI.out.mono ?_
    rintro e w1 ⟨rfl, rfl⟩
    go_wp2_with fail
    go_ret
    exact ⟨rfl, GsTo.same HH.out (Fr.refl _ _)⟩
end Go.Proofs.YtkkejjfmidgciaaDoor
/- The walk of SetDash. -/
namespace Go.Proofs.YtkkejjfmidgciaaDoor
open Go.RowKit
set_option linter.unusedVariables false
set_option linter.unusedSimpArgs false
def posI (n : Int) : Int := if n < 0 then 0 else n
def sumK (l : List Int) (k : Nat) : Int := ((l.take k).map posI).sum
theorem sumK_succ {l : List Int} {k : Nat} (h : k < l.length) : sumK l (k + 1) = sumK l k + posI l[k] := by
  unfold sumK
  rw [List.take_succ_eq_append_getElem h, List.map_append, List.sum_append]
  simp
theorem sumK_zero (l : List Int) : sumK l 0 = 0 := by simp [sumK]
theorem fitZ_le {n : Int} (h : fitZ n = true) : -2147483648 ≤ n ∧ n ≤ 2147483647 := by simpa [fitZ] using h
theorem sumK_le {l : List Int} (h : l.all fitZ = true) (k : Nat) (hk : k ≤ l.length) : 0 ≤ sumK l k ∧ sumK l k ≤ 2147483647 * k := by
  induction k with
  | zero => rw [sumK_zero]; omega
  | succ k ih =>
    have h1 := ih (by omega)
    rw [sumK_succ (by omega)]
    have h2 := fitZ_le (List.all_eq_true.1 h _ (List.getElem_mem (show k < l.length by omega)))
    unfold posI
    split <;> omega
def dashF (l : List Int) (ph : Int) (st : Gst) : Int × Gst :=
  if (ph :: l).all fitZ then (if 11 < l.length then (9, st) else if ph < 0 ∨ l.any (fun n => decide (n < 0)) = true ∨ (0 < l.length ∧ sumK l l.length = 0) then (11, st) else (0, { st with dash := l, phase := ph })) else (11, st)
theorem wrap_sum {l : List Int} {k : Nat} (h : l.all fitZ = true) (hl : l.length ≤ 1000) (hk : k < l.length) : IntKind.i64.wrap (sumK l k + (if l[k] < 0 then 0 else l[k])) = sumK l (k + 1) := by
  have h1 := sumK_le h (k + 1) (by omega)
  rw [sumK_succ hk] at h1 ⊢
  exact IntWalk.i64_in _ (by unfold posI at h1; omega)
set_option maxRecDepth 8000 in
set_option maxHeartbeats 1600000 in
theorem gdash_no (g : Nat) (F : Nat → Prop) (s : GS) (v : Value) (l : List Int) (ph : Int) (S : Nat → Prop) (w : World) (h : Gs w g F s) (hr : RowIn w S 1 v l.length (ints l)) (hl : l.length ≤ 1000) (h1 : ¬ (ph :: l).all fitZ = true) :
    Calls Tryd.prog 76 #[.pointer (some ⟨g, 0, none⟩), v, .int .i64 ph] w fun e w' => e = .returned (.int .i64 11) ∧ GsTo w g F s w' := by
  obtain ⟨i0, hi, hz0, hz1, hz2⟩ := info_parts infoInt
  obtain ⟨A, cap, rfl, hc1, hc2⟩ := hr.form
  unfold maxLen at hc2
  have hf : Fr Nob w (w.alloc (.cells #[.int .i64 ph] 3)) := (Fr.refl Nob w).alloc _
  have HR := Lib.hid (hr.nob hf)
  have HR0 := Lib.hid hr
  have HO := Lib.hid (OwnS.one w ph)
  have HF := Lib.hid hf
  have HH := Lib.hid h
  have HFIT := Lib.hid h1
  clear h hr hf h1
  go_enter Tryd.func76, Tryd.ntmps76
  go_wp2_with (at_builtin; refine wpList_app _ rfl _ _ 30 rfl 3 i0 _ 1 8 Tryd.underlying30 hi hz0 hz1 hz2 rfl (by decide) _ 1 (ints [ph]) rfl HO.out S _ l.length (ints l) rfl HR.out (ints_one l) (by unfold maxLen; omega) (by omega) ?_)
  intro v' w1 hown hfr hat
  have HF1 := Lib.hid (HF.out.trans hfr fun k hk => .inr (by simp [inB, Value.ownBlock] at hk; omega))
  have HRN := Lib.hid (show RowIn w1 (inB v') 1 v' (ph :: l).length (ints (ph :: l)) from (show 1 + l.length = (ph :: l).length by simp [Nat.add_comm]) ▸ hown.row)
  obtain ⟨A1, c1, rfl, _⟩ := hown.form
  have HI := Lib.hid (check_any ⟨g, 0, none⟩ (ph :: l) _ _ w1 HRN.out)
  rw [chkI_no HFIT.out] at HI
  clear hown hfr hat
  go_wp2_with fail
  refine HI.out.mono ?_
  rintro e w2 ⟨rfl, rfl⟩
  go_wp2_with fail
  go_ret
  exact ⟨rfl, GsTo.same HH.out HF1.out⟩
set_option maxRecDepth 8000 in
set_option maxHeartbeats 1600000 in
theorem gdash_long (g : Nat) (F : Nat → Prop) (s : GS) (v : Value) (l : List Int) (ph : Int) (S : Nat → Prop) (w : World) (h : Gs w g F s) (hr : RowIn w S 1 v l.length (ints l)) (hl : l.length ≤ 1000) (hpos : 0 < l.length) (h1 : (ph :: l).all fitZ = true) (h2 : 11 < l.length) :
    Calls Tryd.prog 76 #[.pointer (some ⟨g, 0, none⟩), v, .int .i64 ph] w fun e w' => e = .returned (.int .i64 9) ∧ GsTo w g F s w' := by
  have i2 : (11 : Int) < l.length := by omega
  obtain ⟨i0, hi, hz0, hz1, hz2⟩ := info_parts infoInt
  obtain ⟨b, off, cap, rfl, hc1, hc2, _, hA⟩ := hr.int hpos
  have HA := Lib.hid hA
  have hf : Fr Nob w (w.alloc (.cells #[.int .i64 ph] 3)) := (Fr.refl Nob w).alloc _
  have HR := Lib.hid (hr.nob hf)
  have HR0 := Lib.hid hr
  have HO := Lib.hid (OwnS.one w ph)
  have HF := Lib.hid hf
  have HH := Lib.hid h
  have HFIT := Lib.hid h1
  clear h hr hf h1 hA
  go_enter Tryd.func76, Tryd.ntmps76
  go_wp2_with (at_builtin; refine wpList_app _ rfl _ _ 30 rfl 3 i0 _ 1 8 Tryd.underlying30 hi hz0 hz1 hz2 rfl (by decide) _ 1 (ints [ph]) rfl HO.out S _ l.length (ints l) rfl HR.out (ints_one l) (by unfold maxLen; omega) (by omega) ?_)
  intro v' w1 hown hfr hat
  have HF1 := Lib.hid (HF.out.trans hfr fun k hk => .inr (by simp [inB, Value.ownBlock] at hk; omega))
  have HRN := Lib.hid (show RowIn w1 (inB v') 1 v' (ph :: l).length (ints (ph :: l)) from (show 1 + l.length = (ph :: l).length by simp [Nat.add_comm]) ▸ hown.row)
  obtain ⟨A1, c1, rfl, _⟩ := hown.form
  have HI := Lib.hid (check_any ⟨g, 0, none⟩ (ph :: l) _ _ w1 HRN.out)
  rw [chkI_ok HFIT.out] at HI
  clear hown hfr hat
  go_wp2_with fail
  refine HI.out.mono ?_
  rintro e w2 ⟨rfl, rfl⟩
  have HA1 := Lib.hid (fun k hk => cell_nob (HA.out k hk) HF1.out)
  have HFL := Lib.hid (show l.all fitZ = true by have := HFIT.out; simp only [List.all_cons, Bool.and_eq_true] at this; exact this.2)
  go_wp2_with fail
  go_loopw [8, 22] (fun sm q wr => ∃ k : Nat, k ≤ l.length ∧ q = .int .i64 k ∧ sm = .int .i64 (sumK l k) ∧ wr = w1) (fun _ q _ => l.length - (intOf q).toNat)
  case atStart => exact ⟨0, by omega, rfl, by rw [sumK_zero], rfl⟩
  case round =>
    obtain ⟨k, hk, rfl, rfl, rfl⟩ := hrel
    by_cases hlt : k < l.length
    · have a0 := HA1.out k hlt
      have i1 : (k : Int) < l.length := by omega
      have hw := wrap_sum HFL.out hl hlt
      generalize l[k] = x at *
      go_wp2_with fail
      go_roundw
      case rel => exact ⟨k + 1, by omega, by go_num, rfl, by first | rfl | trivial⟩
      case measure => simp [intOf]; omega
    · obtain rfl : k = l.length := by omega
      go_wp2_with fail
      go_ret
      exact ⟨rfl, GsTo.same HH.out HF1.out⟩
set_option maxRecDepth 8000 in
set_option maxHeartbeats 1600000 in
theorem gdash_neg (g : Nat) (F : Nat → Prop) (s : GS) (v : Value) (l : List Int) (ph : Int) (S : Nat → Prop) (w : World) (h : Gs w g F s) (hr : RowIn w S 1 v l.length (ints l)) (hl : l.length ≤ 1000) (hpos : 0 < l.length) (h1 : (ph :: l).all fitZ = true) (h2 : ¬ 11 < l.length) (h3 : ph < 0) :
    Calls Tryd.prog 76 #[.pointer (some ⟨g, 0, none⟩), v, .int .i64 ph] w fun e w' => e = .returned (.int .i64 11) ∧ GsTo w g F s w' := by
  have i2 : ¬ (11 : Int) < l.length := by omega
  have i3 : (0 : Int) < l.length := by omega
  obtain ⟨i0, hi, hz0, hz1, hz2⟩ := info_parts infoInt
  obtain ⟨b, off, cap, rfl, hc1, hc2, _, hA⟩ := hr.int hpos
  have HA := Lib.hid hA
  have hf : Fr Nob w (w.alloc (.cells #[.int .i64 ph] 3)) := (Fr.refl Nob w).alloc _
  have HR := Lib.hid (hr.nob hf)
  have HR0 := Lib.hid hr
  have HO := Lib.hid (OwnS.one w ph)
  have HF := Lib.hid hf
  have HH := Lib.hid h
  have HFIT := Lib.hid h1
  clear h hr hf h1 hA
  go_enter Tryd.func76, Tryd.ntmps76
  go_wp2_with (at_builtin; refine wpList_app _ rfl _ _ 30 rfl 3 i0 _ 1 8 Tryd.underlying30 hi hz0 hz1 hz2 rfl (by decide) _ 1 (ints [ph]) rfl HO.out S _ l.length (ints l) rfl HR.out (ints_one l) (by unfold maxLen; omega) (by omega) ?_)
  intro v' w1 hown hfr hat
  have HF1 := Lib.hid (HF.out.trans hfr fun k hk => .inr (by simp [inB, Value.ownBlock] at hk; omega))
  have HRN := Lib.hid (show RowIn w1 (inB v') 1 v' (ph :: l).length (ints (ph :: l)) from (show 1 + l.length = (ph :: l).length by simp [Nat.add_comm]) ▸ hown.row)
  obtain ⟨A1, c1, rfl, _⟩ := hown.form
  have HI := Lib.hid (check_any ⟨g, 0, none⟩ (ph :: l) _ _ w1 HRN.out)
  rw [chkI_ok HFIT.out] at HI
  clear hown hfr hat
  go_wp2_with fail
  refine HI.out.mono ?_
  rintro e w2 ⟨rfl, rfl⟩
  have HA1 := Lib.hid (fun k hk => cell_nob (HA.out k hk) HF1.out)
  have HFL := Lib.hid (show l.all fitZ = true by have := HFIT.out; simp only [List.all_cons, Bool.and_eq_true] at this; exact this.2)
  go_wp2_with fail
  go_loopw [8, 22] (fun sm q wr => ∃ k : Nat, k ≤ l.length ∧ q = .int .i64 k ∧ sm = .int .i64 (sumK l k) ∧ wr = w1) (fun _ q _ => l.length - (intOf q).toNat)
  case atStart => exact ⟨0, by omega, rfl, by rw [sumK_zero], rfl⟩
  case round =>
    obtain ⟨k, hk, rfl, rfl, rfl⟩ := hrel
    by_cases hlt : k < l.length
    · have a0 := HA1.out k hlt
      have i1 : (k : Int) < l.length := by omega
      have hw := wrap_sum HFL.out hl hlt
      generalize l[k] = x at *
      go_wp2_with fail
      go_roundw
      case rel => exact ⟨k + 1, by omega, by go_num, rfl, by first | rfl | trivial⟩
      case measure => simp [intOf]; omega
    · obtain rfl : k = l.length := by omega
      go_wp2_with fail
      go_ret
      exact ⟨rfl, GsTo.same HH.out HF1.out⟩
set_option maxRecDepth 8000 in
set_option maxHeartbeats 1600000 in
theorem gdash_some (g : Nat) (F : Nat → Prop) (s : GS) (v : Value) (l : List Int) (ph : Int) (S : Nat → Prop) (w : World) (h : Gs w g F s) (hr : RowIn w S 1 v l.length (ints l)) (hl : l.length ≤ 1000) (hpos : 0 < l.length) (h1 : (ph :: l).all fitZ = true) (h2 : ¬ 11 < l.length) (h3 : ¬ ph < 0) (hany : l.any (fun n => decide (n < 0)) = true) :
    Calls Tryd.prog 76 #[.pointer (some ⟨g, 0, none⟩), v, .int .i64 ph] w fun e w' => e = .returned (.int .i64 11) ∧ GsTo w g F s w' := by
  have i2 : ¬ (11 : Int) < l.length := by omega
  have i3 : (0 : Int) < l.length := by omega
  obtain ⟨i0, hi, hz0, hz1, hz2⟩ := info_parts infoInt
  obtain ⟨b, off, cap, rfl, hc1, hc2, _, hA⟩ := hr.int hpos
  have HA := Lib.hid hA
  have hf : Fr Nob w (w.alloc (.cells #[.int .i64 ph] 3)) := (Fr.refl Nob w).alloc _
  have HR := Lib.hid (hr.nob hf)
  have HR0 := Lib.hid hr
  have HO := Lib.hid (OwnS.one w ph)
  have HF := Lib.hid hf
  have HH := Lib.hid h
  have HFIT := Lib.hid h1
  clear h hr hf h1 hA
  go_enter Tryd.func76, Tryd.ntmps76
  go_wp2_with (at_builtin; refine wpList_app _ rfl _ _ 30 rfl 3 i0 _ 1 8 Tryd.underlying30 hi hz0 hz1 hz2 rfl (by decide) _ 1 (ints [ph]) rfl HO.out S _ l.length (ints l) rfl HR.out (ints_one l) (by unfold maxLen; omega) (by omega) ?_)
  intro v' w1 hown hfr hat
  have HF1 := Lib.hid (HF.out.trans hfr fun k hk => .inr (by simp [inB, Value.ownBlock] at hk; omega))
  have HRN := Lib.hid (show RowIn w1 (inB v') 1 v' (ph :: l).length (ints (ph :: l)) from (show 1 + l.length = (ph :: l).length by simp [Nat.add_comm]) ▸ hown.row)
  obtain ⟨A1, c1, rfl, _⟩ := hown.form
  have HI := Lib.hid (check_any ⟨g, 0, none⟩ (ph :: l) _ _ w1 HRN.out)
  rw [chkI_ok HFIT.out] at HI
  clear hown hfr hat
  go_wp2_with fail
  refine HI.out.mono ?_
  rintro e w2 ⟨rfl, rfl⟩
  have HA1 := Lib.hid (fun k hk => cell_nob (HA.out k hk) HF1.out)
  have HFL := Lib.hid (show l.all fitZ = true by have := HFIT.out; simp only [List.all_cons, Bool.and_eq_true] at this; exact this.2)
  go_wp2_with fail
  go_loopw [8, 22] (fun sm q wr => ∃ k : Nat, k ≤ l.length ∧ q = .int .i64 k ∧ sm = .int .i64 (sumK l k) ∧ wr = w1) (fun _ q _ => l.length - (intOf q).toNat)
  case atStart => exact ⟨0, by omega, rfl, by rw [sumK_zero], rfl⟩
  case round =>
    obtain ⟨k, hk, rfl, rfl, rfl⟩ := hrel
    by_cases hlt : k < l.length
    · have a0 := HA1.out k hlt
      have i1 : (k : Int) < l.length := by omega
      have hw := wrap_sum HFL.out hl hlt
      generalize l[k] = x at *
      go_wp2_with fail
      go_roundw
      case rel => exact ⟨k + 1, by omega, by go_num, rfl, by first | rfl | trivial⟩
      case measure => simp [intOf]; omega
    · obtain rfl : k = l.length := by omega
      have HCN := Lib.hid (conti_any 116 _ (.inr rfl) asks_dash _ l S wr (HR0.out.nob HF1.out))
      rw [hany] at HCN
      go_wp2_with fail
      refine HCN.out.mono ?_
      rintro e w3 ⟨rfl, rfl⟩
      go_wp2_with fail
      go_ret
      exact ⟨rfl, GsTo.same HH.out HF1.out⟩
set_option maxRecDepth 8000 in
set_option maxHeartbeats 1600000 in
theorem gdash_zero (g : Nat) (F : Nat → Prop) (s : GS) (v : Value) (l : List Int) (ph : Int) (S : Nat → Prop) (w : World) (h : Gs w g F s) (hr : RowIn w S 1 v l.length (ints l)) (hl : l.length ≤ 1000) (hpos : 0 < l.length) (h1 : (ph :: l).all fitZ = true) (h2 : ¬ 11 < l.length) (h3 : ¬ ph < 0) (hany : l.any (fun n => decide (n < 0)) = false) (hs : sumK l l.length = 0) :
    Calls Tryd.prog 76 #[.pointer (some ⟨g, 0, none⟩), v, .int .i64 ph] w fun e w' => e = .returned (.int .i64 11) ∧ GsTo w g F s w' := by
  have i2 : ¬ (11 : Int) < l.length := by omega
  have i3 : (0 : Int) < l.length := by omega
  obtain ⟨i0, hi, hz0, hz1, hz2⟩ := info_parts infoInt
  obtain ⟨b, off, cap, rfl, hc1, hc2, _, hA⟩ := hr.int hpos
  have HA := Lib.hid hA
  have hf : Fr Nob w (w.alloc (.cells #[.int .i64 ph] 3)) := (Fr.refl Nob w).alloc _
  have HR := Lib.hid (hr.nob hf)
  have HR0 := Lib.hid hr
  have HO := Lib.hid (OwnS.one w ph)
  have HF := Lib.hid hf
  have HH := Lib.hid h
  have HFIT := Lib.hid h1
  clear h hr hf h1 hA
  go_enter Tryd.func76, Tryd.ntmps76
  go_wp2_with (at_builtin; refine wpList_app _ rfl _ _ 30 rfl 3 i0 _ 1 8 Tryd.underlying30 hi hz0 hz1 hz2 rfl (by decide) _ 1 (ints [ph]) rfl HO.out S _ l.length (ints l) rfl HR.out (ints_one l) (by unfold maxLen; omega) (by omega) ?_)
  intro v' w1 hown hfr hat
  have HF1 := Lib.hid (HF.out.trans hfr fun k hk => .inr (by simp [inB, Value.ownBlock] at hk; omega))
  have HRN := Lib.hid (show RowIn w1 (inB v') 1 v' (ph :: l).length (ints (ph :: l)) from (show 1 + l.length = (ph :: l).length by simp [Nat.add_comm]) ▸ hown.row)
  obtain ⟨A1, c1, rfl, _⟩ := hown.form
  have HI := Lib.hid (check_any ⟨g, 0, none⟩ (ph :: l) _ _ w1 HRN.out)
  rw [chkI_ok HFIT.out] at HI
  clear hown hfr hat
  go_wp2_with fail
  refine HI.out.mono ?_
  rintro e w2 ⟨rfl, rfl⟩
  have HA1 := Lib.hid (fun k hk => cell_nob (HA.out k hk) HF1.out)
  have HFL := Lib.hid (show l.all fitZ = true by have := HFIT.out; simp only [List.all_cons, Bool.and_eq_true] at this; exact this.2)
  go_wp2_with fail
  go_loopw [8, 22] (fun sm q wr => ∃ k : Nat, k ≤ l.length ∧ q = .int .i64 k ∧ sm = .int .i64 (sumK l k) ∧ wr = w1) (fun _ q _ => l.length - (intOf q).toNat)
  case atStart => exact ⟨0, by omega, rfl, by rw [sumK_zero], rfl⟩
  case round =>
    obtain ⟨k, hk, rfl, rfl, rfl⟩ := hrel
    by_cases hlt : k < l.length
    · have a0 := HA1.out k hlt
      have i1 : (k : Int) < l.length := by omega
      have hw := wrap_sum HFL.out hl hlt
      generalize l[k] = x at *
      go_wp2_with fail
      go_roundw
      case rel => exact ⟨k + 1, by omega, by go_num, rfl, by first | rfl | trivial⟩
      case measure => simp [intOf]; omega
    · obtain rfl : k = l.length := by omega
      have HCN := Lib.hid (conti_any 116 _ (.inr rfl) asks_dash _ l S wr (HR0.out.nob HF1.out))
      rw [hany] at HCN
      go_wp2_with fail
      refine HCN.out.mono ?_
      rintro e w3 ⟨rfl, rfl⟩
      go_wp2_with fail
      go_ret
      exact ⟨rfl, GsTo.same HH.out HF1.out⟩
set_option maxRecDepth 8000 in
set_option maxHeartbeats 1600000 in
theorem gdash_ok (g : Nat) (F : Nat → Prop) (s : GS) (v : Value) (l : List Int) (ph : Int) (S : Nat → Prop) (w : World) (h : Gs w g F s) (hr : RowIn w S 1 v l.length (ints l)) (hl : l.length ≤ 1000) (hpos : 0 < l.length) (h1 : (ph :: l).all fitZ = true) (h2 : ¬ 11 < l.length) (h3 : ¬ ph < 0) (hany : l.any (fun n => decide (n < 0)) = false) (hs : ¬ sumK l l.length = 0) :
    Calls Tryd.prog 76 #[.pointer (some ⟨g, 0, none⟩), v, .int .i64 ph] w fun e w' => e = .returned (.int .i64 0) ∧ GsTo w g F { s with cur := { s.cur with st := { s.cur.st with dash := l, phase := ph } } } w' := by
  have i2 : ¬ (11 : Int) < l.length := by omega
  have i3 : (0 : Int) < l.length := by omega
  have hs2 : (sumK l l.length == 0) = false := by simpa using hs
  obtain ⟨i0, hi, hz0, hz1, hz2⟩ := info_parts infoInt
  obtain ⟨b, off, cap, rfl, hc1, hc2, _, hA⟩ := hr.int hpos
  have HA := Lib.hid hA
  have hf : Fr Nob w (w.alloc (.cells #[.int .i64 ph] 3)) := (Fr.refl Nob w).alloc _
  have HR := Lib.hid (hr.nob hf)
  have HR0 := Lib.hid hr
  have HO := Lib.hid (OwnS.one w ph)
  have HF := Lib.hid hf
  have HH := Lib.hid h
  have HFIT := Lib.hid h1
  clear h hr hf h1 hA
  go_enter Tryd.func76, Tryd.ntmps76
  go_wp2_with (at_builtin; refine wpList_app _ rfl _ _ 30 rfl 3 i0 _ 1 8 Tryd.underlying30 hi hz0 hz1 hz2 rfl (by decide) _ 1 (ints [ph]) rfl HO.out S _ l.length (ints l) rfl HR.out (ints_one l) (by unfold maxLen; omega) (by omega) ?_)
  intro v' w1 hown hfr hat
  have HF1 := Lib.hid (HF.out.trans hfr fun k hk => .inr (by simp [inB, Value.ownBlock] at hk; omega))
  have HRN := Lib.hid (show RowIn w1 (inB v') 1 v' (ph :: l).length (ints (ph :: l)) from (show 1 + l.length = (ph :: l).length by simp [Nat.add_comm]) ▸ hown.row)
  obtain ⟨A1, c1, rfl, _⟩ := hown.form
  have HI := Lib.hid (check_any ⟨g, 0, none⟩ (ph :: l) _ _ w1 HRN.out)
  rw [chkI_ok HFIT.out] at HI
  clear hown hfr hat
  go_wp2_with fail
  refine HI.out.mono ?_
  rintro e w2 ⟨rfl, rfl⟩
  have HA1 := Lib.hid (fun k hk => cell_nob (HA.out k hk) HF1.out)
  have HFL := Lib.hid (show l.all fitZ = true by have := HFIT.out; simp only [List.all_cons, Bool.and_eq_true] at this; exact this.2)
  go_wp2_with fail
  go_loopw [8, 22] (fun sm q wr => ∃ k : Nat, k ≤ l.length ∧ q = .int .i64 k ∧ sm = .int .i64 (sumK l k) ∧ wr = w1) (fun _ q _ => l.length - (intOf q).toNat)
  case atStart => exact ⟨0, by omega, rfl, by rw [sumK_zero], rfl⟩
  case round =>
    obtain ⟨k, hk, rfl, rfl, rfl⟩ := hrel
    by_cases hlt : k < l.length
    · have a0 := HA1.out k hlt
      have i1 : (k : Int) < l.length := by omega
      have hw := wrap_sum HFL.out hl hlt
      generalize l[k] = x at *
      go_wp2_with fail
      go_roundw
      case rel => exact ⟨k + 1, by omega, by go_num, rfl, by first | rfl | trivial⟩
      case measure => simp [intOf]; omega
    · obtain rfl : k = l.length := by omega
      have HCN := Lib.hid (conti_any 116 _ (.inr rfl) asks_dash _ l S wr (HR0.out.nob HF1.out))
      rw [hany] at HCN
      go_wp2_with fail
      refine HCN.out.mono ?_
      rintro e w3 ⟨rfl, rfl⟩
      go_wp2_with fail
      refine (clonei_any _ l S wr (HR0.out.nob HF1.out) (by omega)).mono ?_
      rintro e w4 ⟨vo, rfl, ho, hf4, hn4⟩
      obtain ⟨lab, x, sv, xs, hx⟩ := HH.out
      have HX := Lib.hid hx
      have HN4 := Lib.hid (HF1.out.trans0 hf4)
      have hB := hx.cells.nob HN4.out
      have k15 := hB.cell 15
      have q15 := hB.free 15
      have k16 := hB.cell 16
      have q16 := hB.free 16
      simp only [List.getElem?_toArray, List.getElem?_cons_succ, List.getElem?_cons_zero] at k15 k16
      have HB := Lib.hid hB
      have HO4 := Lib.hid (ho.rowIn (S := fun k => (F k ∧ lab k = 0) ∨ w.heap.size ≤ k) fun k hk => .inr (Nat.le_trans HF1.out.size (hn4 k hk)))
      have HCL := Lib.hid ((hx.c.g.c.fr HN4.out fun _ _ hh => hh).mono (T := fun k => (F k ∧ lab k = 0) ∨ w.heap.size ≤ k) fun k hk => .inl hk)
      obtain ⟨A4, c4, rfl, _⟩ := ho.form
      clear hx hB ho hf4 hn4
      go_wp2_with fail
      go_ret
      exact ⟨rfl, HX.out.putN HN4.out (((Fr.refl (fun k => k = g) _).setCell (p := ⟨g, 15, none⟩) (.inl rfl) _).setCell (p := ⟨g, 16, none⟩) (.inl rfl) _) { s.cur.st with dash := l, phase := ph } (.slice A4 l.length c4) x.cv ⟨HO4.out, HCL.out⟩ ((HB.out.set 15 _).set 16 _)⟩
set_option maxRecDepth 8000 in
set_option maxHeartbeats 1600000 in
theorem gdash_nneg (g : Nat) (F : Nat → Prop) (s : GS) (v : Value) (l : List Int) (ph : Int) (S : Nat → Prop) (w : World) (h : Gs w g F s) (hr : RowIn w S 1 v l.length (ints l)) (hl : l.length ≤ 1000) (h0 : l.length = 0) (h1 : (ph :: l).all fitZ = true) (h3 : ph < 0) :
    Calls Tryd.prog 76 #[.pointer (some ⟨g, 0, none⟩), v, .int .i64 ph] w fun e w' => e = .returned (.int .i64 11) ∧ GsTo w g F s w' := by
  have hz : (l.length : Int) = 0 := by omega
  clear h0
  obtain ⟨i0, hi, hz0, hz1, hz2⟩ := info_parts infoInt
  obtain ⟨A, cap, rfl, hc1, hc2⟩ := hr.form
  unfold maxLen at hc2
  have hf : Fr Nob w (w.alloc (.cells #[.int .i64 ph] 3)) := (Fr.refl Nob w).alloc _
  have HR := Lib.hid (hr.nob hf)
  have HR0 := Lib.hid hr
  have HO := Lib.hid (OwnS.one w ph)
  have HF := Lib.hid hf
  have HH := Lib.hid h
  have HFIT := Lib.hid h1
  clear h hr hf h1
  go_enter Tryd.func76, Tryd.ntmps76
  go_wp2_with (at_builtin; refine wpList_app _ rfl _ _ 30 rfl 3 i0 _ 1 8 Tryd.underlying30 hi hz0 hz1 hz2 rfl (by decide) _ 1 (ints [ph]) rfl HO.out S _ l.length (ints l) rfl HR.out (ints_one l) (by unfold maxLen; omega) (by omega) ?_)
  intro v' w1 hown hfr hat
  have HF1 := Lib.hid (HF.out.trans hfr fun k hk => .inr (by simp [inB, Value.ownBlock] at hk; omega))
  have HRN := Lib.hid (show RowIn w1 (inB v') 1 v' (ph :: l).length (ints (ph :: l)) from (show 1 + l.length = (ph :: l).length by simp [Nat.add_comm]) ▸ hown.row)
  obtain ⟨A1, c1, rfl, _⟩ := hown.form
  have HI := Lib.hid (check_any ⟨g, 0, none⟩ (ph :: l) _ _ w1 HRN.out)
  rw [chkI_ok HFIT.out] at HI
  clear hown hfr hat
  go_wp2_with fail
  refine HI.out.mono ?_
  rintro e w2 ⟨rfl, rfl⟩
  go_wp2_with fail
  go_loopw [8, 22] (fun sm q wr => q = .int .i64 0 ∧ sm = .int .i64 0 ∧ wr = w1) (fun _ _ _ => 0)
  case atStart => exact ⟨rfl, rfl, rfl⟩
  case round =>
    obtain ⟨rfl, rfl, rfl⟩ := hrel
    go_wp2_with fail
    go_ret
    exact ⟨rfl, GsTo.same HH.out HF1.out⟩
set_option maxRecDepth 8000 in
set_option maxHeartbeats 1600000 in
theorem gdash_nok (g : Nat) (F : Nat → Prop) (s : GS) (v : Value) (l : List Int) (ph : Int) (S : Nat → Prop) (w : World) (h : Gs w g F s) (hr : RowIn w S 1 v l.length (ints l)) (hl : l.length ≤ 1000) (h0 : l.length = 0) (h1 : (ph :: l).all fitZ = true) (h3 : ¬ ph < 0) (hany : l.any (fun n => decide (n < 0)) = false) :
    Calls Tryd.prog 76 #[.pointer (some ⟨g, 0, none⟩), v, .int .i64 ph] w fun e w' => e = .returned (.int .i64 0) ∧ GsTo w g F { s with cur := { s.cur with st := { s.cur.st with dash := l, phase := ph } } } w' := by
  have hz : (l.length : Int) = 0 := by omega
  clear h0
  obtain ⟨i0, hi, hz0, hz1, hz2⟩ := info_parts infoInt
  obtain ⟨A, cap, rfl, hc1, hc2⟩ := hr.form
  unfold maxLen at hc2
  have hf : Fr Nob w (w.alloc (.cells #[.int .i64 ph] 3)) := (Fr.refl Nob w).alloc _
  have HR := Lib.hid (hr.nob hf)
  have HR0 := Lib.hid hr
  have HO := Lib.hid (OwnS.one w ph)
  have HF := Lib.hid hf
  have HH := Lib.hid h
  have HFIT := Lib.hid h1
  clear h hr hf h1
  go_enter Tryd.func76, Tryd.ntmps76
  go_wp2_with (at_builtin; refine wpList_app _ rfl _ _ 30 rfl 3 i0 _ 1 8 Tryd.underlying30 hi hz0 hz1 hz2 rfl (by decide) _ 1 (ints [ph]) rfl HO.out S _ l.length (ints l) rfl HR.out (ints_one l) (by unfold maxLen; omega) (by omega) ?_)
  intro v' w1 hown hfr hat
  have HF1 := Lib.hid (HF.out.trans hfr fun k hk => .inr (by simp [inB, Value.ownBlock] at hk; omega))
  have HRN := Lib.hid (show RowIn w1 (inB v') 1 v' (ph :: l).length (ints (ph :: l)) from (show 1 + l.length = (ph :: l).length by simp [Nat.add_comm]) ▸ hown.row)
  obtain ⟨A1, c1, rfl, _⟩ := hown.form
  have HI := Lib.hid (check_any ⟨g, 0, none⟩ (ph :: l) _ _ w1 HRN.out)
  rw [chkI_ok HFIT.out] at HI
  clear hown hfr hat
  go_wp2_with fail
  refine HI.out.mono ?_
  rintro e w2 ⟨rfl, rfl⟩
  go_wp2_with fail
  go_loopw [8, 22] (fun sm q wr => q = .int .i64 0 ∧ sm = .int .i64 0 ∧ wr = w1) (fun _ _ _ => 0)
  case atStart => exact ⟨rfl, rfl, rfl⟩
  case round =>
    obtain ⟨rfl, rfl, rfl⟩ := hrel
    have HCN := Lib.hid (conti_any 116 _ (.inr rfl) asks_dash _ l S wr (HR0.out.nob HF1.out))
    rw [hany] at HCN
    go_wp2_with fail
    refine HCN.out.mono ?_
    rintro e w3 ⟨rfl, rfl⟩
    go_wp2_with fail
    refine (clonei_any _ l S wr (HR0.out.nob HF1.out) (by omega)).mono ?_
    rintro e w4 ⟨vo, rfl, ho, hf4, hn4⟩
    obtain ⟨lab, x, sv, xs, hx⟩ := HH.out
    have HX := Lib.hid hx
    have HN4 := Lib.hid (HF1.out.trans0 hf4)
    have hB := hx.cells.nob HN4.out
    have k15 := hB.cell 15
    have q15 := hB.free 15
    have k16 := hB.cell 16
    have q16 := hB.free 16
    simp only [List.getElem?_toArray, List.getElem?_cons_succ, List.getElem?_cons_zero] at k15 k16
    have HB := Lib.hid hB
    have HO4 := Lib.hid (ho.rowIn (S := fun k => (F k ∧ lab k = 0) ∨ w.heap.size ≤ k) fun k hk => .inr (Nat.le_trans HF1.out.size (hn4 k hk)))
    have HCL := Lib.hid ((hx.c.g.c.fr HN4.out fun _ _ hh => hh).mono (T := fun k => (F k ∧ lab k = 0) ∨ w.heap.size ≤ k) fun k hk => .inl hk)
    obtain ⟨A4, c4, rfl, _⟩ := ho.form
    clear hx hB ho hf4 hn4
    go_wp2_with fail
    go_ret
    exact ⟨rfl, HX.out.putN HN4.out (((Fr.refl (fun k => k = g) _).setCell (p := ⟨g, 15, none⟩) (.inl rfl) _).setCell (p := ⟨g, 16, none⟩) (.inl rfl) _) { s.cur.st with dash := l, phase := ph } (.slice A4 l.length c4) x.cv ⟨HO4.out, HCL.out⟩ ((HB.out.set 15 _).set 16 _)⟩
theorem gdash_any (g : Nat) (F : Nat → Prop) (s : GS) (v : Value) (l : List Int) (ph : Int) (S : Nat → Prop) (w : World) (h : Gs w g F s) (hr : RowIn w S 1 v l.length (ints l)) (hl : l.length ≤ 1000) :
    Calls Tryd.prog 76 #[.pointer (some ⟨g, 0, none⟩), v, .int .i64 ph] w fun e w' => e = .returned (.int .i64 (dashF l ph s.cur.st).1) ∧ GsTo w g F { s with cur := { s.cur with st := (dashF l ph s.cur.st).2 } } w' := by
  unfold dashF
  by_cases h1 : (ph :: l).all fitZ = true
  · rw [if_pos h1]
    by_cases h2 : 11 < l.length
    · rw [if_pos h2]; exact gdash_long g F s v l ph S w h hr hl (by omega) h1 h2
    · rw [if_neg h2]
      by_cases h3 : ph < 0
      · rw [if_pos (.inl h3)]
        by_cases h0 : l.length = 0
        · exact gdash_nneg g F s v l ph S w h hr hl h0 h1 h3
        · exact gdash_neg g F s v l ph S w h hr hl (by omega) h1 h2 h3
      · by_cases h4 : l.any (fun n => decide (n < 0)) = true
        · rw [if_pos (.inr (.inl h4))]
          exact gdash_some g F s v l ph S w h hr hl (by cases l with | nil => simp at h4 | cons a r => simp) h1 h2 h3 h4
        · have h4' : l.any (fun n => decide (n < 0)) = false := by simpa using h4
          by_cases h0 : l.length = 0
          · rw [if_neg (by rintro (h | h | h); exact h3 h; exact h4 h; omega)]
            exact gdash_nok g F s v l ph S w h hr hl h0 h1 h3 h4'
          · by_cases h5 : sumK l l.length = 0
            · rw [if_pos (.inr (.inr ⟨by omega, h5⟩))]
              exact gdash_zero g F s v l ph S w h hr hl (by omega) h1 h2 h3 h4' h5
            · rw [if_neg (by rintro (h | h | h); exact h3 h; exact h4 h; exact h5 h.2)]
              exact gdash_ok g F s v l ph S w h hr hl (by omega) h1 h2 h3 h4' h5
  · rw [if_neg h1]
    exact gdash_no g F s v l ph S w h hr hl h1
end Go.Proofs.YtkkejjfmidgciaaDoor
