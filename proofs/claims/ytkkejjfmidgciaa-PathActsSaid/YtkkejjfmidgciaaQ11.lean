/-
  The walk of the law PathActs.
-/
import Derived.Test.YtkkejjfmidgciaaQ10
import Derived.Test.YtkkejjfmidgciaaP13
import Derived.Test.YtkkejjfmidgciaaP11
import Derived.Test.YtkkejjfmidgciaaP16
namespace Go.Proofs.Ytkkejjfmidgciaa
open Go.RowKit
set_option linter.unusedVariables false
set_option linter.unusedSimpArgs false
attribute [local go_sem high] pt_eqIn
/-- The state of the law's loop behind k acts. -/
structure ActsR (w : World) (pg mg : Nat) (most : Int) (k : Nat) (wr : World) (F : Nat → Prop) (p : PS) : Prop where
  d : Duo wr F pg mg p p.most p.list
  g : Good p
  m : p.most = most
  l : p.list.length ≤ 2 * k
  f : Fr Nob w wr
  n : ∀ j, F j → w.heap.size ≤ j
theorem ActsR.pb {w : World} {pg mg : Nat} {most : Int} {k : Nat} {wr : World} {F : Nat → Prop} {p : PS} (h : ActsR w pg mg most k wr F p) (hm : -9223372036854775808 ≤ most ∧ most ≤ 9223372036854775807) (hk : k ≤ 100) : PB p ∧ RB p.most p.list := by
  have := h.l
  exact ⟨⟨by rw [h.m]; exact hm.1, by rw [h.m]; exact hm.2, by omega⟩, ⟨by rw [h.m]; exact hm, by omega⟩⟩
theorem ActsR.nob {w : World} {pg mg : Nat} {most : Int} {k : Nat} {wr w' : World} {F : Nat → Prop} {p : PS} (h : ActsR w pg mg most k wr F p) (hf : Fr Nob wr w') : ActsR w pg mg most k w' F p :=
  ⟨h.d.nob hf, h.g, h.m, h.l, h.f.trans0 hf, h.n⟩
theorem ActsR.other {w : World} {pg mg : Nat} {most : Int} {k : Nat} {wr w1 w' : World} {F T : Nat → Prop} {p : PS} (h : ActsR w pg mg most k wr F p) (hf : Fr Nob wr w1) (h2 : Fr T w1 w') (hT : ∀ j, T j → wr.heap.size ≤ j) : ActsR w pg mg most k w' F p :=
  ⟨(h.d.nob hf).frT h2 fun j hj ht => by have := h.d.flt j hj; have := hT j ht; omega, h.g, h.m, h.l, (h.f.trans0 hf).trans h2 fun j hj => .inr (Nat.le_trans h.f.size (hT j hj)), h.n⟩
theorem ActsR.other' {w : World} {pg mg : Nat} {most : Int} {k : Nat} {wo wr w' : World} {F T : Nat → Prop} {p : PS} (h : ActsR w pg mg most k wr F p) (hlt : ∀ j, F j → j < wo.heap.size) (h2 : Fr T wr w') (hT : ∀ j, T j → wo.heap.size ≤ j) (h0 : w.heap.size ≤ wo.heap.size) : ActsR w pg mg most k w' F p :=
  ⟨h.d.frT h2 fun j hj ht => by have := hlt j hj; have := hT j ht; omega, h.g, h.m, h.l, h.f.trans h2 fun j hj => .inr (Nat.le_trans h0 (hT j hj)), h.n⟩
theorem ActsR.frT {w : World} {pg mg : Nat} {most : Int} {k : Nat} {wr w' : World} {F T : Nat → Prop} {p : PS} (h : ActsR w pg mg most k wr F p) (hf : Fr T wr w') (hT : ∀ j, F j → ¬ T j) (hn : ∀ j, T j → w.heap.size ≤ j) : ActsR w pg mg most k w' F p :=
  ⟨h.d.frT hf hT, h.g, h.m, h.l, h.f.trans hf fun j hj => .inr (hn j hj), h.n⟩
theorem ActsR.both {w : World} {pg mg : Nat} {most : Int} {k : Nat} {wr w' : World} {F : Nat → Prop} {p : PS} {e : Ending} (h : ActsR w pg mg most k wr F p) (hb : BothPost wr F pg mg p e w') :
    ∃ p' F' c, e = .returned (.tuple #[.int .i64 c, .int .i64 c]) ∧ ActsR w pg mg most (k + 1) w' F' p' := by
  obtain ⟨p', c, he, hd, hf, hg, hm, hl⟩ := hb
  refine ⟨p', _, c, he, by rw [hm]; exact hd, hg, by rw [hm]; exact h.m, by have := h.l; omega, h.f.trans hf fun j hj => .inr (h.n j hj), fun j hj => ?_⟩
  rcases hj with hj | hj
  · exact h.n j hj
  · exact Nat.le_trans h.f.size hj.1
set_option maxRecDepth 8000 in
set_option maxHeartbeats 8000000 in
theorem acts_walk (most : Int) (hmo : -9223372036854775808 ≤ most ∧ most ≤ 9223372036854775807) (v : Value) (l : List Sg) (w : World) (hx : RowIn w (Lt w) 7 v l.length (encSs l)) :
    Calls Try.prog 6 #[.int .i64 most, v] w fun e w' => e = .returned (.bool true) ∧ Fr Nob w w' := by
  have HX := Lib.hid hx
  obtain ⟨A, cap, rfl, ha1, ha2⟩ := hx.form
  have hlen := hx.len_le
  have HMO := Lib.hid hmo
  clear hx hmo
  go_enter Try.func6, Try.ntmps6
  go_wp2_with fail
  refine (new_any most w).mono ?_
  rintro e w1 ⟨rfl, hp, hf1⟩
  have hfa : Fr Nob w1 (w1.alloc (.cells #[.int .i64 most, .slice none 0 0] 50)) := (Fr.refl Nob w1).alloc _
  have hba : Blk (w1.alloc (.cells #[.int .i64 most, .slice none 0 0] 50)) w1.heap.size #[.int .i64 most, .slice none 0 0] 50 := Blk.new w1 _ _
  have hlt1 := hp.1.lt
  have hR : ActsR w w.heap.size w1.heap.size most 0 (w1.alloc (.cells #[.int .i64 most, .slice none 0 0] 50)) (fun k => k = w.heap.size ∨ k = w1.heap.size) ⟨most, [], oo, oo⟩ := by
    refine ⟨⟨.slice none 0 0, .slice none 0 0, fun _ => False, hp.nob hfa, ⟨hba.cell 0, hba.cell 1, hba.free 1, RowIn.nil _ _ _, fun h => h⟩, ?_, .inr rfl, fun k hk => hk.elim, ?_, ?_⟩, Good.nil _ _ _, rfl, by simp, hf1.trans0 hfa, ?_⟩
    · rintro k (rfl | hk)
      · exact .inl rfl
      · simp [Value.ownBlock] at hk
    · rintro k (rfl | hk)
      · exact ⟨fun h => h, by omega⟩
      · simp [Value.ownBlock] at hk
    · rintro k (rfl | rfl)
      · simp; omega
      · simp
    · rintro k (rfl | rfl)
      · exact Nat.le_refl _
      · exact hf1.size
  have HR0 := Lib.hid hR
  clear hp hf1 hfa hba hR hlt1
  generalize hpg : w.heap.size = pg at *
  have HPG := Lib.hid hpg
  clear hpg
  go_wp2_with fail
  generalize w1.heap.size = mg at *
  generalize w1.alloc (.cells #[.int .i64 most, .slice none 0 0] 50) = wa at *
  refine (answers_any wa).mono ?_
  rintro e w2 ⟨rfl, hf2⟩
  have HR2 := Lib.hid (HR0.out.nob hf2)
  clear hf2 HR0
  go_wp2_with fail
  go_loopw [7] (fun q wr => ∃ (k : Nat) (F : Nat → Prop) (p : PS), k ≤ l.length ∧ k ≤ 100 ∧ q = .int .i64 k ∧ Hid (ActsR w pg mg most k wr F p)) (fun q _ => l.length - (intOf q).toNat)
  case atStart => exact ⟨0, _, _, by omega, by omega, rfl, HR2⟩
  case round =>
    obtain ⟨k, F, p, hk, hk1, rfl, HRk⟩ := hrel
    by_cases hlt : k < l.length ∧ k < 100
    · obtain ⟨hlt, hlt2⟩ := hlt
      have i1 : (k : Int) < l.length := by omega
      have i2 : (k : Int) < 100 := by omega
      have hc : ∃ b off cap', (Value.slice A l.length cap = .slice (some ⟨b, off, none⟩) l.length cap') ∧ ∀ w', Fr Nob w w' → SgAt w' b (off + k * 7) l[k] := by
        obtain ⟨b, off, cap', hv, _, _, _, hA⟩ := HX.out.sg (by omega)
        exact ⟨b, off, cap', hv, fun w' hw' => (hA k hlt).fr hw' fun hh => hh⟩
      obtain ⟨b, off, cap', hv, hc⟩ := hc
      cases hv
      have HC := Lib.hid hc
      generalize l[k] = s at *
      clear hc
      obtain ⟨s0, s1, s2, s3, s4, s5, s6⟩ := HC.out wr HRk.out.f
      obtain ⟨hpb, hrb⟩ := HRk.out.pb HMO.out hk1
      have HPB := Lib.hid hpb
      have HRB := Lib.hid hrb
      clear hpb hrb
      obtain ⟨wo, rfl⟩ : ∃ wo : World, wo = wr := ⟨_, rfl⟩
      by_cases h6 : s.kind = 6
      have q6 : (s.kind == 6) = true := by simpa using h6
      clear h6
      go_wp2_with fail
      obtain ⟨v, rv, S, hd⟩ := HRk.out.d
      refine (copy_any pg v p wo hd.path HPB.out).mono ?_
      rintro e wc ⟨g', v', rfl, hp', hfc, hnew⟩
      have HPC := Lib.hid hp'
      have HFC := Lib.hid hfc
      have HNW := Lib.hid hnew
      clear hd hp' hfc hnew
      go_wp2_with fail
      refine (clear_any g' v' p wc HPC.out).mono ?_
      rintro e wd ⟨rfl, v'', hp', hfc, hat⟩
      have HPD := Lib.hid hp'
      have HRD := Lib.hid (HRk.out.other HFC.out hfc HNW.out)
      have HND := Lib.hid (show ∀ j, ptB g' v'' j → wo.heap.size ≤ j from fun j hj => by
        rcases hj with rfl | hj
        · exact HNW.out _ (.inl rfl)
        · rcases hat j hj with e | e
          · exact HNW.out _ (.inr e)
          · exact Nat.le_trans HFC.out.size e)
      have HPBc := Lib.hid (show PB { p with list := [], start := oo, now := oo } from ⟨HPB.out.lo, HPB.out.hi, by simp⟩)
      have HWD := Lib.hid (Nat.le_trans HFC.out.size hfc.size)
      clear hp' hfc hat HPC HNW
      go_wp2_with fail
      refine (move_any g' v'' _ ⟨5, 0⟩ wd HPD.out HPBc.out).mono ?_
      rintro e wz ⟨rfl, v3, hp', hfc, hat⟩
      have HZ := Lib.hid (HRD.out.other' HRk.out.d.flt hfc HND.out HRk.out.f.size)
      have t0 := cell_nob s0 HFC.out
      clear hp' hfc hat HPD HND HRD HFC HWD t0
      obtain ⟨s0, s1, s2, s3, s4, s5, s6⟩ := HC.out wz HZ.out.f
      go_wp2_with fail
      rotate_left 1
      have q6 : (s.kind == 6) = false := by simpa using h6
      clear h6
      obtain ⟨wz, rfl⟩ : ∃ wz : World, wz = wo := ⟨_, rfl⟩
      have HZ := HRk
      go_wp2_with fail
      all_goals
        clear s0 s1 s2 s3 s4 s5 s6 q6
        refine (both_any wz F pg mg p s HZ.out.d HZ.out.g HPB.out HRB.out).mono ?_
        intro e w3 hb
        obtain ⟨p3, F3, c, rfl, h3⟩ := HZ.out.both hb
        have H3 := Lib.hid h3
        obtain ⟨hpb3, hrb3⟩ := h3.pb HMO.out (by omega)
        have HPB3 := Lib.hid hpb3
        have hl3 : p3.list.length ≤ 202 := by have := h3.l; omega
        have HSND := Lib.hid (decide_eq_true (h3.g.sound (by omega)))
        obtain ⟨X, gi, hB, hcase, hx1, hx2, hx3⟩ : ∃ (X : Pt) (gi : Int) (hB : Bool), ((gi = 10 ∧ hB = false) ∨ (gi = 0 ∧ hB = true)) ∧ (if p3.list.length = 0 then oo else p3.now) = X ∧ (if p3.list.length = 0 then (10 : Int) else 0) = gi ∧ rcurV p3.list = .tuple #[ptV X, .bool hB] := by
          rcases Nat.eq_zero_or_pos p3.list.length with h0 | h0
          · exact ⟨oo, 10, false, .inl ⟨rfl, rfl⟩, by rw [if_pos h0], by rw [if_pos h0], by unfold rcurV; rw [if_pos h0]⟩
          · have hne : ¬ p3.list.length = 0 := by omega
            exact ⟨p3.now, 0, true, .inr ⟨rfl, rfl⟩, by rw [if_neg hne], by rw [if_neg hne], by unfold rcurV; rw [if_neg hne, h3.g.now h0]⟩
        have HX1 := Lib.hid hx1
        have HX2 := Lib.hid hx2
        have HX3 := Lib.hid hx3
        have qc : (c != c) = false := by simp
        clear hb h3 hpb3 hrb3 hx1 hx2 hx3
        go_wp2_with fail
        obtain ⟨v3, rv3, S3, hd3⟩ := H3.out.d
        refine (cur_any pg v3 p3 w3 hd3.path).mono ?_
        rw [HX1.out, HX2.out]
        clear hd3
        unfold ptV
        rintro e w4 ⟨rfl, hf4⟩
        have hfa : Fr Nob w4 (w4.alloc (.cells #[.int .i64 X.x, .int .i64 X.y] 23)) := (Fr.refl Nob w4).alloc _
        have H4 := Lib.hid (H3.out.nob (hf4.trans0 hfa))
        have B4 := Lib.hid (show Blk (w4.alloc (.cells #[.int .i64 X.x, .int .i64 X.y] 23)) w4.heap.size #[.int .i64 X.x, .int .i64 X.y] 23 from Blk.new w4 _ _)
        clear hf4 hfa
        go_wp2_with fail
        generalize w4.alloc (.cells #[.int .i64 X.x, .int .i64 X.y] 23) = w5 at *
        obtain ⟨v5, rv5, S5, hd5⟩ := H4.out.d
        refine (rcur_any S5 mg 0 rv5 p3.most p3.list w5 hd5.ref).mono ?_
        rw [HX3.out]
        clear hd5
        unfold ptV
        rintro e w6 ⟨rfl, hf6⟩
        have hfa : Fr Nob w6 (w6.alloc (.cells #[.int .i64 X.x, .int .i64 X.y] 23)) := (Fr.refl Nob w6).alloc _
        have H6 := Lib.hid (H4.out.nob (hf6.trans0 hfa))
        have B6 := Lib.hid (show Blk (w6.alloc (.cells #[.int .i64 X.x, .int .i64 X.y] 23)) w6.heap.size #[.int .i64 X.x, .int .i64 X.y] 23 from Blk.new w6 _ _)
        have B46 := Lib.hid ((B4.out.nob hf6).nob hfa)
        clear hf6 hfa B4
        go_wp2_with fail
        generalize w6.alloc (.cells #[.int .i64 X.x, .int .i64 X.y] 23) = w7 at *
        obtain ⟨v7, rv7, S7, hd7⟩ := H6.out.d
        refine (seg_any pg v7 p3 w7 hd7.path HPB3.out).mono ?_
        rintro e w8 ⟨vo, rfl, ho, hf8, hn8⟩
        have H8 := Lib.hid (H6.out.nob hf8)
        have hr8 := hd7.ref.nob hf8
        have HR8 := Lib.hid hr8.row
        have HO8 := Lib.hid ho
        have c8 := hr8.c1
        have HNW8 := Lib.hid (show ∀ j, vo.ownBlock = some j → w.heap.size ≤ j from fun j hj => Nat.le_trans H6.out.f.size (hn8 j hj))
        have HNB := Lib.hid (show ∀ j, vo.ownBlock = some j → ¬ F3 j from fun j hj hF => by have := H6.out.d.flt j hF; have := hn8 j hj; omega)
        have b0 := (B46.out.nob hf8).cell 0
        have b1 := (B46.out.nob hf8).cell 1
        have b2 := (B6.out.nob hf8).cell 0
        have b3 := (B6.out.nob hf8).cell 1
        simp only [List.getElem?_toArray, List.getElem?_cons_succ, List.getElem?_cons_zero] at b0 b1 b2 b3
        obtain ⟨A8, cap8, rfl, _, _⟩ := ho.form
        obtain ⟨A9, cap9, rfl, _, _⟩ := hr8.row.form
        have HF8 := Lib.hid hf8
        have HN8 := Lib.hid hn8
        clear hd7 ho hf8 hn8 hr8
        rcases hcase with ⟨rfl, rfl⟩ | ⟨rfl, rfl⟩
        all_goals
          go_wp2_with fail
          refine (same_any _ _ p3.list p3.list _ _ _ HO8.out.row HR8.out).mono ?_
          rw [decide_eq_true (rfl : p3.list = p3.list)]
          rintro e w9 ⟨rfl, hf9⟩
          have HF9 := Lib.hid hf9
          clear hf9
          go_wp2_with fail
          refine (sound_any _ p3.list _ _ (HO8.out.row.nob HF9.out)).mono ?_
          rw [HSND.out]
          rintro e wi ⟨rfl, hf10⟩
          have HO10 := Lib.hid ((HO8.out.nob HF9.out).nob hf10)
          have H10 := Lib.hid ((H8.out.nob HF9.out).nob hf10)
          clear hf10 HF9 b0 b1 b2 b3 c8 HR8 HO8 H8
          go_wp2_with fail
          go_loopw [16] (fun q wx => ∃ (j : Nat) (l' : List Sg), j ≤ p3.list.length ∧ q = .int .i64 j ∧ Hid (l'.length = p3.list.length) ∧ Hid (OwnS wx 43 7 (.slice A8 p3.list.length cap8) p3.list.length (encSs l')) ∧ Hid (ActsR w pg mg most (k + 1) wx F3 p3)) (fun q _ => p3.list.length - (intOf q).toNat)
          case atStart => exact ⟨0, p3.list, by omega, rfl, rfl, HO10.out, H10.out⟩
          case round =>
            obtain ⟨j, l', hj, rfl, HLj, HOj, HAj⟩ := hrel
            by_cases hjl : j < p3.list.length
            · obtain ⟨bb, cap', hv, _, _, hcc⟩ := HOj.out.sg HLj.out (by rw [HLj.out]; omega)
              cases hv
              obtain ⟨s0, s1, s2, s3, s4, s5, s6⟩ := hcc j (by rw [HLj.out]; exact hjl)
              have hfz : ∀ o, wr.frozen? ⟨bb, o, none⟩ = false := by
                obtain ⟨_, ⟨h0, _⟩ | ⟨g', cap', cur, hv, hb, _⟩⟩ := HOj.out
                · cases h0
                · cases hv; exact hb.free
              have z0 := hfz (j * 7)
              have z1 := hfz (j * 7 + 1)
              have z2 := hfz (j * 7 + 2)
              have z3 := hfz (j * 7 + 3)
              have z4 := hfz (j * 7 + 4)
              have z5 := hfz (j * 7 + 5)
              have z6 := hfz (j * 7 + 6)
              have i3 : (j : Int) < p3.list.length := by omega
              have HSET := Lib.hid (HOj.out.setSg rfl HLj.out j (by rw [HLj.out]; exact hjl) sgZ)
              have HFS := Lib.hid (sg_set_fr wr bb (j * 7) sgZ)
              clear hcc hfz
              go_wp2_with fail
              go_roundw
              case rel => exact ⟨j + 1, _, by omega, by go_num, (by show _ = _; rw [List.length_set]; exact HLj.out), HSET, HAj.out.frT HFS.out (fun x hx e => HNB.out bb rfl (e ▸ hx)) (fun x hx => by rw [hx]; exact HNW8.out bb rfl)⟩
              case measure => simp [intOf]; omega
            · have hge : p3.list.length ≤ j := by omega
              have HA := HAj
              clear HLj HOj HAj HO10 H10
              go_wp2_with fail
              go_roundw
              case rel => exact ⟨k + 1, F3, p3, by omega, by omega, by go_num, HA⟩
              case measure => simp [intOf]; omega
    · have HF := Lib.hid HRk.out.f
      by_cases hkl : k < l.length
      · have hge : (100 : Int) ≤ k := by omega
        have i1 : (k : Int) < l.length := by omega
        clear HRk
        go_wp2_with fail
        go_ret
        exact ⟨rfl, HF.out⟩
      · have hge : l.length ≤ k := by omega
        clear HRk
        go_wp2_with fail
        go_ret
        exact ⟨rfl, HF.out⟩
theorem cells52 : Try.prog.cellsOf 52 = 7 := by kernel_rfl
theorem read_act {H : Type} {enc' : TypeId × Value → H} {w : World} {base : Nat} {spare : Nat → Bool} {held : Bool} (n : Nat) (cs : List Value) (y : DataW H × List MemPlace)
    (h : DataW.trod enc' Try.prog w base spare held n 52 cs = some y) : ∃ s : Sg, cs = encS s := by
  obtain ⟨xs, n, _, rfl, hl, hlen, hf⟩ := DataW.trod_struct Try.underlying52 h
  rw [cells52] at hl
  have hx : xs.length = 2 := hlen
  obtain ⟨z0, h0, _⟩ := field_int (hf 0 _ rfl) (by omega) Try.underlying3 cells3
  have h1 := hf 1 _ rfl
  obtain ⟨c0, c1, c2, c3, c4, c5, c6, rfl⟩ := list7 hl
  have h1' : DataW.trod enc' Try.prog w base spare held n 41 [c1, c2, c3, c4, c5, c6] = some (xs[1]'(by omega)) := by
    rw [List.getElem?_eq_getElem (by omega)] at h1
    have e : ([c0, c1, c2, c3, c4, c5, c6].drop 1).take (Try.prog.cellsOf 41) = [c1, c2, c3, c4, c5, c6] := by rw [cells41]; rfl
    rw [← e]
    exact h1
  obtain ⟨ys, m, rfl, _, _, hy3, hel⟩ := DataW.trod_array Try.underlying41 h1'
  have ht : ∀ i (hi : i < 3), ∃ p : Pt, ([c1, c2, c3, c4, c5, c6].drop (i * 2)).take 2 = encP p := fun i hi => by
    have := hel i hi
    rw [cells23, List.getElem?_eq_getElem (by omega)] at this
    exact read_pt _ _ _ this
  obtain ⟨a, ha⟩ := ht 0 (by omega)
  obtain ⟨b, hb⟩ := ht 1 (by omega)
  obtain ⟨c, hc⟩ := ht 2 (by omega)
  simp at h0
  refine ⟨⟨z0, a, b, c⟩, ?_⟩
  simp [encP] at ha hb hc
  simp [encS, h0, ha, hb, hc]
theorem read_acts {H : Type} {enc' : TypeId × Value → H} {w : World} {base : Nat} {spare : Nat → Bool} {held : Bool} {fuel : Nat} {v : Value} {x : DataW H × List MemPlace}
    (h : DataW.trod enc' Try.prog w base spare held fuel 47 [v] = some x) : ∃ l : List Sg, RowIn w (Lt w) 7 v l.length (encSs l) := by
  obtain ⟨xs, h1, h2⟩ := read_slice Try.underlying47 7 cells52 (by omega) (fun (o : Sg) cs => cs = encS o) (fun n cs y h => read_act n cs y h) h
  rw [flat_encS xs fun y hy => (h2 y hy).1] at h1
  exact ⟨xs.map (·.1), by simpa using h1⟩
end Go.Proofs.Ytkkejjfmidgciaa
