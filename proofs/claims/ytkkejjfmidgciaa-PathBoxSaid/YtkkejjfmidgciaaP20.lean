/-
  The walk of the law PathBox.
-/
import Derived.Test.YtkkejjfmidgciaaP19
import Derived.Test.YtkkejjfmidgciaaP16
import Derived.Deep.CutRange
namespace Go.Proofs.Ytkkejjfmidgciaa
open Go.RowKit
set_option linter.unusedVariables false
set_option linter.unusedSimpArgs false
/-- What the law has seen of the points so far. -/
structure St (dx dy : Int) (lo hi : Pt) (P : List Pt) (L R D U F : Bool) : Prop where
  l : L = P.any (fun p => p.x == lo.x)
  r : R = P.any (fun p => p.x == hi.x)
  d : D = P.any (fun p => p.y == lo.y)
  u : U = P.any (fun p => p.y == hi.y)
  f : F = P.all (fun p => fitP (shP dx dy p))
theorem St.more {dx dy : Int} {lo hi : Pt} {P : List Pt} {L R D U F : Bool} (h : St dx dy lo hi P L R D U F) (q : Pt) :
    St dx dy lo hi (P ++ [q]) (L || q.x == lo.x) (R || q.x == hi.x) (D || q.y == lo.y) (U || q.y == hi.y) (F && fitP (shP dx dy q)) := by
  obtain ⟨rfl, rfl, rfl, rfl, rfl⟩ := h
  constructor <;> simp
theorem sgPtO {w : World} {g o : Nat} {s : Sg} (h : SgAt w g o s) (j : Nat) (hj : j < (pts s).length) : w.cell? ⟨g, o + 1 + j * 2, none⟩ = some (.int .i64 (pts s)[j].x) ∧ w.cell? ⟨g, o + 1 + j * 2 + 1, none⟩ = some (.int .i64 (pts s)[j].y) := by
  obtain ⟨c0, c1, c2, c3, c4, c5, c6⟩ := h
  have : j = 0 ∨ j = 1 ∨ j = 2 := by simp [pts] at hj; omega
  rcases this with rfl | rfl | rfl
  · exact ⟨c1, c2⟩
  · exact ⟨c3, c4⟩
  · exact ⟨c5, c6⟩
set_option maxRecDepth 8000 in
theorem box_far (v : Value) (l : List Sg) (dx dy : Int) (w : World) (h : RowIn w (Lt w) 7 v l.length (encSs l)) (hb : 3000 < l.length) :
    Calls Try.prog 4 #[v, .int .i16 dx, .int .i16 dy] w fun e w' => e = .returned (.bool true) ∧ Fr Nob w w' := by
  have hlen := h.len_le
  obtain ⟨_, A, c, rfl, _⟩ := h
  have d1 : decide ((3000 : Int) < l.length) = true := decide_eq_true (by omega)
  go_enter Try.func4, Try.ntmps4
  go_wp2_with fail
  refine (answers_any w).mono ?_
  rintro e w1 ⟨rfl, hf1⟩
  have H1 := Lib.hid hf1
  clear hf1
  go_wp2_with fail
  refine (answers_any w1).mono ?_
  rintro e w2 ⟨rfl, hf2⟩
  have H2 := Lib.hid (H1.out.trans0 hf2)
  clear hf2
  go_wp2_with fail
  go_ret
  exact ⟨rfl, H2.out⟩
set_option maxRecDepth 8000 in
theorem box_bad (v : Value) (l : List Sg) (dx dy : Int) (w : World) (h : RowIn w (Lt w) 7 v l.length (encSs l)) (hb : l.length ≤ 3000) (hS : ¬ SoundP l) :
    Calls Try.prog 4 #[v, .int .i16 dx, .int .i16 dy] w fun e w' => e = .returned (.bool true) ∧ Fr Nob w w' := by
  have hq := Lib.hid (decide_eq_false hS)
  have HX := Lib.hid h
  obtain ⟨_, A, c, rfl, _⟩ := h
  have d1 : decide ((3000 : Int) < l.length) = false := decide_eq_false (by omega)
  go_enter Try.func4, Try.ntmps4
  go_wp2_with fail
  refine (answers_any w).mono ?_
  rintro e w1 ⟨rfl, hf1⟩
  have H1 := Lib.hid hf1
  clear hf1
  go_wp2_with fail
  refine (rsound_any _ l _ _ (HX.out.fr H1.out fun _ _ hf => hf)).mono ?_
  rw [hq.out]
  rintro e w2 ⟨rfl, hf2⟩
  have H2 := Lib.hid (H1.out.trans0 hf2)
  clear hf2
  go_wp2_with fail
  refine (answers_any w2).mono ?_
  rintro e w3 ⟨rfl, hf3⟩
  have H3 := Lib.hid (H2.out.trans0 hf3)
  clear hf3
  go_wp2_with fail
  go_ret
  exact ⟨rfl, H3.out⟩
set_option maxRecDepth 8000 in
theorem box_empty (v : Value) (dx dy : Int) (w : World) (h : RowIn w (Lt w) 7 v ([] : List Sg).length (encSs [])) :
    Calls Try.prog 4 #[v, .int .i16 dx, .int .i16 dy] w fun e w' => e = .returned (.bool true) ∧ Fr Nob w w' := by
  have hS : SoundP [] := by decide
  have hq := Lib.hid (decide_eq_true hS)
  have hns := Lib.hid (show ¬ (SoundP [] ∧ ([] : List Sg) ≠ []) from fun h => h.2 rfl)
  have hbx := Lib.hid (show boxV [] = .tuple #[ptV oo, ptV oo, .bool false] by simp only [boxV, if_neg hns.out])
  have HX := Lib.hid h
  obtain ⟨_, A, c, rfl, _⟩ := h
  have HX := Lib.hid (show RowIn w (Lt w) 7 (.slice A 0 c) ([] : List Sg).length (encSs []) from HX.out)
  go_enter Try.func4, Try.ntmps4
  go_wp2_with fail
  refine (answers_any w).mono ?_
  rintro e w1 ⟨rfl, hf1⟩
  have H1 := Lib.hid hf1
  clear hf1
  go_wp2_with fail
  refine (rsound_any _ [] _ _ (HX.out.fr H1.out fun _ _ hf => hf)).mono ?_
  rw [hq.out]
  rintro e w2 ⟨rfl, hf2⟩
  have H2 := Lib.hid (H1.out.trans0 hf2)
  clear hf2
  go_wp2_with fail
  refine (box_none _ [] _ _ (HX.out.fr H2.out fun _ _ hf => hf) hns.out).mono ?_
  rw [hbx.out]
  unfold ptV oo
  rintro e w3 ⟨rfl, hf3⟩
  have H3 := Lib.hid (H2.out.trans0 hf3)
  clear hf3
  go_wp2_with fail
  go_ret
  exact ⟨rfl, (H3.out.alloc _).alloc _⟩
set_option maxRecDepth 8000 in
set_option maxHeartbeats 8000000 in
theorem box_main (v : Value) (l : List Sg) (dx dy : Int) (hdx : -32768 ≤ dx ∧ dx ≤ 32767) (hdy : -32768 ≤ dy ∧ dy ≤ 32767) (w : World) (h : RowIn w (Lt w) 7 v l.length (encSs l)) (hb : l.length ≤ 3000) (hn : 0 < l.length) (hS : SoundP l) :
    Calls Try.prog 4 #[v, .int .i16 dx, .int .i16 dy] w fun e w' => e = .returned (.bool true) ∧ Fr Nob w w' := by
  obtain ⟨i0, hi, hz0, hz1, hz2⟩ := info_parts info43
  have hq := Lib.hid (decide_eq_true hS)
  have HS := Lib.hid hS
  have HBX := Lib.hid (boxed hS hn)
  have HX := Lib.hid h
  obtain ⟨A, cap, rfl, _, _⟩ : ∃ A c, v = .slice A l.length c ∧ l.length ≤ c ∧ c ≤ maxLen := by obtain ⟨_, A, c, h, h1, h2, _⟩ := h; exact ⟨A, c, h, h1, h2⟩
  have d1 : decide ((3000 : Int) < l.length) = false := decide_eq_false (by omega)
  have d2 : decide ((0 : Int) < l.length) = true := decide_eq_true (by omega)
  have x1 := hdx.1
  have x2 := hdx.2
  have x3 := hdy.1
  have x4 := hdy.2
  clear h hS hdx hdy
  obtain ⟨lo, hlo⟩ : ∃ p, loF l = p := ⟨_, rfl⟩
  obtain ⟨hi', hhi⟩ : ∃ p, hiF l = p := ⟨_, rfl⟩
  replace hlo := Lib.hid hlo
  replace hhi := Lib.hid hhi
  have Hbox := Lib.hid (box_some (.slice A l.length cap) l (Lt w))
  go_enter Try.func4, Try.ntmps4
  go_wp2_with fail
  refine (answers_any w).mono ?_
  rintro e w1 ⟨rfl, hf1⟩
  have H1 := Lib.hid hf1
  clear hf1
  go_wp2_with fail
  refine (rsound_any _ l _ _ (HX.out.fr H1.out fun _ _ hf => hf)).mono ?_
  rw [hq.out]
  rintro e w2 ⟨rfl, hf2⟩
  have H2 := Lib.hid (H1.out.trans0 hf2)
  clear hf2
  go_wp2_with fail
  refine (Hbox.out w2 (HX.out.fr H2.out fun _ _ hf => hf) HS.out hn).mono ?_
  rw [hlo.out, hhi.out]
  unfold ptV
  rintro e w3 ⟨rfl, hf3⟩
  have H3 := Lib.hid (H2.out.trans0 hf3)
  clear hf3
  obtain ⟨wb, hwb⟩ : ∃ wb, (w3.alloc (.cells #[.int .i64 lo.x, .int .i64 lo.y] 23)).alloc (.cells #[.int .i64 hi'.x, .int .i64 hi'.y] 23) = wb := ⟨_, rfl⟩
  have hT : Two wb w3.heap.size lo hi' := by
    refine ⟨by rw [← hwb]; exact (Blk.new w3 _ _).alloc _, ?_⟩
    have := Blk.new (w3.alloc (.cells #[.int .i64 lo.x, .int .i64 lo.y] 23)) #[.int .i64 hi'.x, .int .i64 hi'.y] 23
    rw [← hwb]; simpa using this
  have hFb : Fr Nob w wb := by rw [← hwb]; exact (H3.out.alloc _).alloc _
  have HT := Lib.hid hT
  have HFb := Lib.hid hFb
  have hG := H3.out.size
  have HWB := Lib.hid hwb
  clear hT hFb
  go_wp2_with (at_builtin; refine wpList_app _ rfl _ _ 32 rfl 43 i0 _ 7 56 Try.underlying32 hi hz0 hz1 hz2 rfl (by decide) _ 0 [] rfl (OwnS.new0 wb 43 7) _ _ l.length (encSs l) rfl (HX.out.fr (HFb.out.alloc _) fun _ _ hf => hf) ?c1 ?c2 ?c3 ?_)
  case c1 => exact encSs_one l
  case c2 => unfold maxLen; omega
  case c3 => omega
  clear hwb
  intro mv w4 hown hfr hat _
  have hN := app_new (w := wb) (v := .slice (some ⟨wb.heap.size, 0, none⟩) 0 0) (v' := mv) (fun b hb => by simp [Value.ownBlock] at hb; omega) ((Fr.refl Nob wb).alloc (.cells #[] 43)) hfr (by simpa using hat)
  have H4 := Lib.hid (HFb.out.trans0 hN.1)
  have HT4 := Lib.hid (HT.out.nob hN.1)
  have HO4 := Lib.hid (show OwnS w4 43 7 mv l.length (encSs (mvL dx dy l 0 0)) by rw [mvL_zero]; simpa using hown)
  have HNV := Lib.hid (hN.2)
  clear hown hfr hat hN
  obtain ⟨bm, cm, rfl, cm1, cm2, _⟩ := HO4.out.sg (mvL_len ..) (by rw [mvL_len]; exact hn)
  obtain ⟨b, off, cap', hv, _, _, _, hA⟩ := HX.out.sg hn
  cases hv
  have HA := Lib.hid hA
  have hgb : w3.heap.size ≤ bm := by
    have := HNV.out bm rfl
    have h2 := HT.out.b2.lt
    omega
  have hmb : bm ≠ w3.heap.size ∧ bm ≠ w3.heap.size + 1 := by
    have := HNV.out bm rfl
    have h2 := HT.out.b3.lt
    omega
  have hm1 := hmb.1
  have hm2 := hmb.2
  clear hA hmb
  generalize w3.heap.size = G at *
  go_wp2_with fail
  go_loopw [10, 11, 12, 13, 15, 16] (fun sl sr sd su sf q wr => ∃ (k : Nat) (L R D U F : Bool), k ≤ l.length ∧ q = .int .i64 k ∧ sl = .bool L ∧ sr = .bool R ∧ sd = .bool D ∧ su = .bool U ∧ sf = .bool F ∧
    Hid (St dx dy lo hi' (allPts (l.take k)) L R D U F) ∧ Hid (Two wr G lo hi') ∧ Hid (OwnS wr 43 7 (.slice (some ⟨bm, 0, none⟩) l.length cm) l.length (encSs (mvL dx dy l k 0))) ∧ Hid (Fr Nob w wr)) (fun _ _ _ _ _ q _ => l.length - (intOf q).toNat)
  case atStart => exact ⟨0, false, false, false, false, true, by omega, rfl, rfl, rfl, rfl, rfl, rfl, ⟨rfl, rfl, rfl, rfl, rfl⟩, HT4.out, HO4.out, H4.out⟩
  case round =>
    obtain ⟨k, L, R, D, U, F, hk, rfl, rfl, rfl, rfl, rfl, rfl, HSt, HTk, HOk, HFk⟩ := hrel
    by_cases hlt : k < l.length
    · have hc := (HA.out k hlt).fr HFk.out fun hh => hh
      have hsk := sound_sg HS.out hlt
      have hlp := allPts_succ l k hlt
      have hmvn := fun n => mvL_next dx dy l k n hlt
      have hmvs := fun j => mvL_set dx dy l k j hlt
      have hmem : ∀ p ∈ segPts l[k], p ∈ allPts l := fun p hp => mem_seg hlt hp
      have hkd : l[k].kind = 1 ∨ l[k].kind = 2 ∨ l[k].kind = 3 ∨ l[k].kind = 4 := by
        by_cases a : l[k].kind = 1 ∨ l[k].kind = 2 ∨ l[k].kind = 3 ∨ l[k].kind = 4
        · exact a
        · have : ptsK l[k].kind = -1 := by unfold ptsK; rw [if_neg (by omega), if_neg (by omega), if_neg (by omega)]
          have := hsk.2.1; omega
      generalize hsl : l[k] = s at *
      obtain ⟨n, hn2⟩ : ∃ n : Nat, ptsK s.kind = n := ⟨(ptsK s.kind).toNat, by have := hsk.2.1; omega⟩
      obtain ⟨kd, hkd2⟩ : ∃ kd : Nat, s.kind = kd := ⟨s.kind.toNat, by omega⟩
      have hnn : n ≤ 3 := by have := ptsK_nat hsk.2.1; omega
      have hsp : segPts s = (pts s).take n := by unfold segPts; rw [hn2]; rfl
      have hspl : (segPts s).length = n := by rw [hsp]; simp [pts]; omega
      obtain ⟨s0, s1, s2, s3, s4, s5, s6⟩ := hc
      obtain ⟨w6, hw6⟩ : ∃ w1, wr.alloc (.cells #[.int .i64 0, .int .i64 1, .int .i64 1, .int .i64 3, .int .i64 0] 3) = w1 := ⟨_, rfl⟩
      have hf6 : Fr Nob wr w6 := by rw [← hw6]; exact (Fr.refl Nob wr).alloc _
      have hb6 : Blk w6 wr.heap.size #[.int .i64 0, .int .i64 1, .int .i64 1, .int .i64 3, .int .i64 0] 3 := by rw [← hw6]; exact Blk.new wr _ _
      have htab : w6.cell? ⟨wr.heap.size, kd, none⟩ = some (.int .i64 n) := by
        rw [hb6.cell]
        have : kd = 1 ∨ kd = 2 ∨ kd = 3 ∨ kd = 4 := by omega
        rcases this with rfl | rfl | rfl | rfl <;> rw [hkd2] at hn2 <;> simp [ptsK] at hn2 <;> rw [← hn2] <;> rfl
      have r0 := cell_nob s0 hf6
      rw [hkd2] at r0
      have HT6 := Lib.hid (HTk.out.nob hf6)
      have HO6 := Lib.hid (HOk.out.fr hf6 fun _ _ hh => hh)
      have HF6 := Lib.hid (HFk.out.trans0 hf6)
      have hk5 : (kd : Int) < 5 := by omega
      have i2 : (k : Int) < l.length := by omega
      have HSl := Lib.hid hsl
      have HSP := Lib.hid (And.intro hsp hspl)
      have HLP := Lib.hid hlp
      have HMVN := Lib.hid hmvn
      have HMVS := Lib.hid hmvs
      have HMEM := Lib.hid hmem
      have HN2 := Lib.hid hn2
      clear hsk hlp hmvn hmvs hmem hkd hsl hsp hspl hn2 hkd2 hf6 hb6 s0 s1 s2 s3 s4 s5 s6
      obtain ⟨wo, rfl⟩ : ∃ wo : World, wo = wr := ⟨_, rfl⟩
      have hm3 : (n : Int) ≤ 3 := by omega
      go_wp2_with fail
      clear r0 htab hw6
      go_loopw [10, 11, 12, 13, 15, 18] (fun sl sr sd su sf q wr => ∃ (j : Nat) (L R D U F : Bool), j ≤ n ∧ q = .int .i64 j ∧ sl = .bool L ∧ sr = .bool R ∧ sd = .bool D ∧ su = .bool U ∧ sf = .bool F ∧
        Hid (St dx dy lo hi' (allPts (l.take k) ++ (segPts s).take j) L R D U F) ∧ Hid (Two wr G lo hi') ∧ Hid (OwnS wr 43 7 (.slice (some ⟨bm, 0, none⟩) l.length cm) l.length (encSs (mvL dx dy l k j))) ∧ Hid (Fr Nob w wr)) (fun _ _ _ _ _ q _ => n - (intOf q).toNat)
      case atStart => exact ⟨0, L, R, D, U, F, by omega, rfl, rfl, rfl, rfl, rfl, rfl, by have := HSt.out; rw [List.take_zero, List.append_nil]; exact this, HT6.out, HO6.out, HF6.out⟩
      case round =>
        clear HSt HT6 HO6 HF6
        clear HTk HOk
        obtain ⟨j, L, R, D, U, F, hj, rfl, rfl, rfl, rfl, rfl, rfl, HSt, HTj, HOj, HFj⟩ := hrel
        by_cases hjl : j < n
        · have hjs : j < (segPts s).length := by rw [HSP.out.2]; exact hjl
          have hjp : j < (pts s).length := by show j < 3; omega
          have hsAt := (HA.out k hlt).fr HFj.out fun hh => hh
          rw [HSl.out] at hsAt
          obtain ⟨p0, p1⟩ := sgPtO hsAt j hjp
          have hpe : (segPts s)[j] = (pts s)[j] := by
            have := HSP.out.1
            simp only [this, List.getElem_take]
          have htk : (segPts s).take (j + 1) = (segPts s).take j ++ [(pts s)[j]] := by rw [List.take_succ_eq_append_getElem hjs, hpe]
          have hbx := HBX.out.inn _ (HMEM.out _ (List.getElem_mem hjs))
          have hft := HBX.out.fits _ (HMEM.out _ (List.getElem_mem hjs))
          rw [hpe, hlo.out, hhi.out] at hbx
          rw [hpe] at hft
          have hset := HMVS.out j hjp
          have hmk : k < (mvL dx dy l k j).length := by rw [mvL_len]; exact hlt
          have hown := HOj.out.setPt rfl (mvL_len ..) k hmk j (by omega)
          obtain ⟨bq, cq, hvq, _, _, hcq⟩ := HOj.out.sg (mvL_len ..) (by rw [mvL_len]; exact hn)
          cases hvq
          obtain ⟨m0, m1⟩ := sgPtO (hcq k hmk) j (by show j < 3; omega)
          have hfz : ∀ o, wr.frozen? ⟨bm, o, none⟩ = false := by
            obtain ⟨_, ⟨h0, _⟩ | ⟨g', cap', cur, hv, hb, _⟩⟩ := HOj.out
            · cases h0
            · cases hv; exact hb.free
          have hbb : b ≠ bm := by
            have h1 := World.block_lt_of_cell? w _ (HA.out 0 hn).c0
            have h2 : b < w.heap.size := h1
            omega
          generalize (pts s)[j] = q at *
          generalize (pts (mvL dx dy l k j)[k])[j] = q' at *
          obtain ⟨f1, f2, f3, f4⟩ := hft
          obtain ⟨g1, g2, g3, g4⟩ := hbx
          have HTK := Lib.hid htk
          have HSET := Lib.hid hset
          clear hjs hjp hsAt hpe htk hset hcq
          obtain ⟨w8, hw8⟩ : ∃ w1, wr.alloc (.cells #[.int .i64 q.x, .int .i64 q.y] 23) = w1 := ⟨_, rfl⟩
          have hf8 : Fr Nob wr w8 := by rw [← hw8]; exact (Fr.refl Nob wr).alloc _
          have hb8 : Blk w8 wr.heap.size #[.int .i64 q.x, .int .i64 q.y] 23 := by rw [← hw8]; exact Blk.new wr _ _
          have T8 := Lib.hid (HTj.out.nob hf8)
          have F8 := Lib.hid (HFj.out.trans0 hf8)
          have O8 := Lib.hid (HOj.out.fr hf8 fun _ _ hh => hh)
          have q0 := hb8.cell 0
          have q1 := hb8.cell 1
          have z1 := T8.out.b2.cell 0
          have z2 := T8.out.b2.cell 1
          have z3 := T8.out.b3.cell 0
          have z4 := T8.out.b3.cell 1
          simp only [List.getElem?_toArray, List.getElem?_cons_succ, List.getElem?_cons_zero] at z1 z2 z3 z4 q0 q1
          have B8 := Lib.hid hb8
          have M0 := Lib.hid (cell_nob m0 hf8)
          have M1 := Lib.hid (cell_nob m1 hf8)
          have hl8 : ∀ o, w8.frozen? ⟨bm, o, none⟩ = false := by
            obtain ⟨_, ⟨h0, _⟩ | ⟨g', cap', cur, hv, hb, _⟩⟩ := O8.out
            · cases h0
            · cases hv; exact hb.free
          have HFZ := Lib.hid hl8
          have hgr := HTj.out.b3.lt
          have mgr := HOj.out.lt bm rfl
          have m2 : bm ≠ wr.heap.size := by omega
          have HOWN := Lib.hid hown
          clear hf8 hb8 m0 m1 hfz hl8 hown
          have e1 : decide (q.x < lo.x) = false := decide_eq_false (by omega)
          have e2 : decide (hi'.x < q.x) = false := decide_eq_false (by omega)
          have e3 : decide (q.y < lo.y) = false := decide_eq_false (by omega)
          have e4 : decide (hi'.y < q.y) = false := decide_eq_false (by omega)
          have HG1 := Lib.hid (And.intro g1 (And.intro g2 (And.intro g3 g4)))
          clear g1 g2 g3 g4
          have i3 : (k : Int) < l.length := by omega
          have i4 : (j : Int) < 3 := by omega
          have i5 : (j : Int) < n := by omega
          have HM := Lib.hid (HSt.out.more q)
          go_wp2_with fail
          clear p0 p1 hw8
          go_cut [10, 11] from 75 to 172 (fun sl sr wx => sl = .bool (L || q.x == lo.x) ∧ sr = .bool (R || q.x == hi'.x) ∧ Hid (∃ m, wx = w8.drewN m))
          case first =>
            cases L <;> cases R
            all_goals
              go_quiet (fail)
              go_wp2
              go_meet
              exact ⟨rfl, rfl, _, rfl⟩
          case rest =>
          obtain ⟨rfl, rfl, hx⟩ := hcut
          obtain ⟨m9, rfl⟩ := hx.out
          clear hx
          go_wp2_with fail
          go_cut [12, 13] from 75 to 172 (fun sd su wx => sd = .bool (D || q.y == lo.y) ∧ su = .bool (U || q.y == hi'.y) ∧ Hid (∃ m, wx = (w8.drewN m9).drewN m))
          case first =>
            cases D <;> cases U
            all_goals
              go_quiet (fail)
              go_wp2
              go_meet
              exact ⟨rfl, rfl, _, rfl⟩
          case rest =>
          obtain ⟨rfl, rfl, hx⟩ := hcut
          obtain ⟨m10, rfl⟩ := hx.out
          clear hx
          have hf9 : Fr Nob w8 ((w8.drewN m9).drewN m10) := ((Fr.refl Nob w8).drewN _).drewN _
          have T9 := T8.out.nob hf9
          have b9 := B8.out.fr hf9 fun hh => hh
          have n0 := cell_nob M0.out hf9
          have n1 := cell_nob M1.out hf9
          have fz0 : ((w8.drewN m9).drewN m10).frozen? ⟨bm, k * 7 + 1 + j * 2, none⟩ = false := HFZ.out _
          have fz1 : ((w8.drewN m9).drewN m10).frozen? ⟨bm, k * 7 + 1 + j * 2 + 1, none⟩ = false := HFZ.out _
          have O9 := O8.out.fr hf9 fun _ _ hh => hh
          have F9 := F8.out.trans0 hf9
          clear q0 q1 z1 z2 z3 z4
          generalize (w8.drewN m9).drewN m10 = w9 at *
          have q0 := b9.cell 0
          have q1 := b9.cell 1
          simp only [List.getElem?_toArray, List.getElem?_cons_succ, List.getElem?_cons_zero] at q0 q1
          have hown9 := Lib.hid (O9.setPt rfl (mvL_len ..) k hmk j (by omega) (shP dx dy q))
          rw [HSET.out] at hown9
          have T9 := Lib.hid T9
          have F9 := Lib.hid F9
          have y1 : IntKind.i64.wrap (q.x + dx) = q.x + dx := IntWalk.i64_in _ (by omega)
          have y2 : IntKind.i64.wrap (q.y + dy) = q.y + dy := IntWalk.i64_in _ (by omega)
          have y3 : IntKind.i64.wrap dx = dx := IntWalk.i64_in _ (by omega)
          have y4 : IntKind.i64.wrap dy = dy := IntWalk.i64_in _ (by omega)
          clear b9 hf9 O9
          go_wp2_with fail
          go_still_tail 17, (by kernel_rfl)
          change wpList _ _ _ _ _ w9.drew
          have hfw := (setPt_fr w9 bm (k * 7 + 1 + j * 2) (shP dx dy q)).drew
          have T10 := Lib.hid (show Two ((w9.setCell ⟨bm, k * 7 + 1 + j * 2, none⟩ (.int .i64 (q.x + dx))).setCell ⟨bm, k * 7 + 1 + j * 2 + 1, none⟩ (.int .i64 (q.y + dy))).drew G lo hi' from ⟨T9.out.b2.fr hfw fun e => hm1 e.symm, T9.out.b3.fr hfw fun e => hm2 e.symm⟩)
          have F10 := Lib.hid (show Fr Nob w ((w9.setCell ⟨bm, k * 7 + 1 + j * 2, none⟩ (.int .i64 (q.x + dx))).setCell ⟨bm, k * 7 + 1 + j * 2 + 1, none⟩ (.int .i64 (q.y + dy))).drew from F9.out.trans hfw fun i e => by subst e; exact .inr (by omega))
          have O10 := Lib.hid (show OwnS ((w9.setCell ⟨bm, k * 7 + 1 + j * 2, none⟩ (.int .i64 (q.x + dx))).setCell ⟨bm, k * 7 + 1 + j * 2 + 1, none⟩ (.int .i64 (q.y + dy))).drew 43 7 (.slice (some ⟨bm, 0, none⟩) l.length cm) l.length (encSs (mvL dx dy l k (j + 1))) from hown9.out.fr ((Fr.refl Nob _).drew) fun _ _ hh => hh)
          have HM2 := Lib.hid (show St dx dy lo hi' (allPts (l.take k) ++ (segPts s).take (j + 1)) (L || q.x == lo.x) (R || q.x == hi'.x) (D || q.y == lo.y) (U || q.y == hi'.y) (F && fitP (shP dx dy q)) by rw [HTK.out, ← List.append_assoc]; exact HM.out)
          clear hfw
          cases F
          · go_wp2_with fail
            go_roundw
            case rel => exact ⟨j + 1, _, _, _, _, false, by omega, by go_num, rfl, rfl, rfl, rfl, rfl, HM2.out, T10.out, O10.out, F10.out⟩
            case measure => simp [intOf]; omega
          · go_wp2_with fail
            have hcall := fitp_any (shP dx dy q)
            unfold ptV shP at hcall
            refine (hcall _).mono ?_
            rintro e w11 ⟨rfl, hf11⟩
            have F11 := Lib.hid (F10.out.trans0 hf11)
            have T11 := Lib.hid (T10.out.nob hf11)
            have O11 := Lib.hid (O10.out.fr hf11 fun _ _ hh => hh)
            clear hf11 hcall
            go_wp2_with fail
            go_roundw
            case rel => exact ⟨j + 1, _, _, _, _, _, by omega, by go_num, rfl, rfl, rfl, rfl, rfl, HM2.out, T11.out, O11.out, F11.out⟩
            case measure => simp [intOf]; omega
        · have hje : j = n := by omega
          subst hje
          have hte : (segPts s).take j = segPts s := List.take_of_length_le (by rw [HSP.out.2]; omega)
          rw [hte, ← HLP.out] at HSt
          have HO9 := Lib.hid (show OwnS wr 43 7 (.slice (some ⟨bm, 0, none⟩) l.length cm) l.length (encSs (mvL dx dy l (k + 1) 0)) by rw [← HMVN.out j HN2.out]; exact HOj.out)
          clear hte HOj
          go_wp2_with fail
          go_roundw
          case rel => exact ⟨k + 1, L, R, D, U, F, by omega, by go_num, rfl, rfl, rfl, rfl, rfl, HSt.out, HTj.out, HO9.out, HFj.out⟩
          case measure => simp [intOf]; omega
    · have hge : l.length ≤ k := by omega
      have hkl : k = l.length := by omega
      subst hkl
      rw [List.take_length] at HSt
      rw [mvL_end] at HOk
      have h1 : L = true := by rw [HSt.out.l, ← hlo.out]; exact HBX.out.left
      have h2 : R = true := by rw [HSt.out.r, ← hhi.out]; exact HBX.out.right
      have h3 : D = true := by rw [HSt.out.d, ← hlo.out]; exact HBX.out.down
      have h4 : U = true := by rw [HSt.out.u, ← hhi.out]; exact HBX.out.up
      have HFF := Lib.hid HSt.out.f
      subst h1; subst h2; subst h3; subst h4
      cases F with
      | false =>
        go_wp2_with fail
        go_ret
        exact ⟨rfl, HFk.out⟩
      | true =>
        have hsh := sound_sh dx dy HS.out (HFF.out.symm)
        have hrow := HOk.out.row
        have hfl := HBX.out.flo
        have hfh := HBX.out.fhi
        rw [hlo.out] at hfl
        rw [hhi.out] at hfh
        have hlen : (l.map (shS dx dy)).length = l.length := List.length_map ..
        have hbox := box_some (.slice (some ⟨bm, 0, none⟩) l.length cm) (l.map (shS dx dy)) _ wr (by rw [hlen]; exact hrow) hsh (by rw [hlen]; exact hn)
        rw [lo_sh dx dy HS.out hn, hi_sh dx dy HS.out hn, hlo.out, hhi.out] at hbox
        unfold ptV shP at hbox
        have HB := Lib.hid hbox
        have y3 : IntKind.i64.wrap dx = dx := IntWalk.i64_in _ (by omega)
        have y4 : IntKind.i64.wrap dy = dy := IntWalk.i64_in _ (by omega)
        have eq1 := pt_eqIn ⟨lo.x + dx, lo.y + dy⟩ ⟨lo.x + dx, lo.y + dy⟩
        have eq2 := pt_eqIn ⟨hi'.x + dx, hi'.y + dy⟩ ⟨hi'.x + dx, hi'.y + dy⟩
        simp only [decide_true] at eq1 eq2
        clear hsh hrow hlen hbox HFF
        go_wp2_with fail
        refine HB.out.mono ?_
        rintro e w5 ⟨rfl, hf5⟩
        obtain ⟨w6, hw6⟩ : ∃ w6, (w5.alloc (.cells #[.int .i64 (lo.x + dx), .int .i64 (lo.y + dy)] 23)).alloc (.cells #[.int .i64 (hi'.x + dx), .int .i64 (hi'.y + dy)] 23) = w6 := ⟨_, rfl⟩
        have hf6 : Fr Nob w5 w6 := by rw [← hw6]; exact ((Fr.refl Nob w5).alloc _).alloc _
        have k1 : Blk w6 w5.heap.size #[.int .i64 (lo.x + dx), .int .i64 (lo.y + dy)] 23 := by rw [← hw6]; exact (Blk.new w5 _ _).alloc _
        have k2 : Blk w6 (w5.heap.size + 1) #[.int .i64 (hi'.x + dx), .int .i64 (hi'.y + dy)] 23 := by
          have := Blk.new (w5.alloc (.cells #[.int .i64 (lo.x + dx), .int .i64 (lo.y + dy)] 23)) #[.int .i64 (hi'.x + dx), .int .i64 (hi'.y + dy)] 23
          rw [← hw6]; simpa using this
        have T5 := HTk.out.nob (hf5.trans0 hf6)
        have z1 := T5.b2.cell 0
        have z2 := T5.b2.cell 1
        have z3 := T5.b3.cell 0
        have z4 := T5.b3.cell 1
        have z5 := k1.cell 0
        have z6 := k1.cell 1
        have z7 := k2.cell 0
        have z8 := k2.cell 1
        simp only [List.getElem?_toArray, List.getElem?_cons_succ, List.getElem?_cons_zero] at z1 z2 z3 z4 z5 z6 z7 z8
        have F5 := Lib.hid ((HFk.out.trans0 hf5).trans0 hf6)
        clear hf5 hf6 T5 k1 k2
        go_wp2_with fail
        go_ret
        exact ⟨rfl, F5.out⟩
theorem box_walk (v : Value) (l : List Sg) (dx dy : Int) (hdx : -32768 ≤ dx ∧ dx ≤ 32767) (hdy : -32768 ≤ dy ∧ dy ≤ 32767) (w : World) (h : RowIn w (Lt w) 7 v l.length (encSs l)) :
    Calls Try.prog 4 #[v, .int .i16 dx, .int .i16 dy] w fun e w' => e = .returned (.bool true) ∧ Fr Nob w w' := by
  by_cases hb : l.length ≤ 3000
  · by_cases hS : SoundP l
    · rcases Nat.eq_zero_or_pos l.length with h0 | h0
      · obtain rfl : l = [] := List.length_eq_zero_iff.1 h0
        exact box_empty v dx dy w h
      · exact box_main v l dx dy hdx hdy w h hb h0 hS
    · exact box_bad v l dx dy w h hb hS
  · exact box_far v l dx dy w h (by omega)
end Go.Proofs.Ytkkejjfmidgciaa
