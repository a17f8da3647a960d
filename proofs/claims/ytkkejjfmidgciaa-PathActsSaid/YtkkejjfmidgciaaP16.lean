/-
  The walk of the law PathSound.
-/
import Derived.Test.YtkkejjfmidgciaaP12
import Derived.Test.YtkkejjfmidgciaaP13
import Derived.Test.YtkkejjfmidgciaaP14
import Derived.Test.YtkkejjfmidgciaaP15
import Derived.OpenShut
namespace Go.Proofs.Ytkkejjfmidgciaa
open Go.RowKit
set_option linter.unusedVariables false
set_option linter.unusedSimpArgs false
theorem sound_far (v : Value) (l : List Sg) (w : World) (h : RowIn w (Lt w) 7 v l.length (encSs l)) (hb : 6000 < l.length) :
    Calls Try.prog 5 #[v] w fun e w' => e = .returned (.bool true) ∧ Fr Nob w w' := by
  have hlen := h.len_le
  obtain ⟨_, A, c, rfl, _⟩ := h
  have i1 : (6000 : Int) < l.length := by omega
  go_enter Try.func5, Try.ntmps5
  go_wp2_with fail
  refine (answers_any w).mono ?_
  rintro e w1 ⟨rfl, hf1⟩
  have H1 := Lib.hid hf1
  clear hf1
  go_wp2_with fail
  refine (answers_any w1).mono ?_
  rintro e w2 ⟨rfl, hf2⟩
  have H2 := Lib.hid (H1.out.trans0 hf2)
  clear hf2
  go_wp2_with fail
  go_ret
  exact ⟨rfl, H2.out⟩
theorem sound_bad (v : Value) (l : List Sg) (w : World) (h : RowIn w (Lt w) 7 v l.length (encSs l)) (hb : l.length ≤ 6000) (hS : ¬ SoundP l) :
    Calls Try.prog 5 #[v] w fun e w' => e = .returned (.bool true) ∧ Fr Nob w w' := by
  obtain ⟨i0, hi, hz0, hz1, hz2⟩ := info_parts info43
  have hq := Lib.hid (decide_eq_false hS)
  have hbx := Lib.hid (show boxV l = .tuple #[ptV oo, ptV oo, .bool false] by simp only [boxV, if_neg (show ¬ (SoundP l ∧ l ≠ []) from fun h => hS h.1)])
  have hns := Lib.hid (show ¬ (SoundP l ∧ l ≠ []) from fun h => hS h.1)
  have HX := Lib.hid h
  obtain ⟨A, cap, rfl, _, _⟩ : ∃ A c, v = .slice A l.length c ∧ l.length ≤ c ∧ c ≤ maxLen := by obtain ⟨_, A, c, h, h1, h2, _⟩ := h; exact ⟨A, c, h, h1, h2⟩
  have d1 : decide ((6000 : Int) < l.length) = false := decide_eq_false (by omega)
  clear h hS
  go_enter Try.func5, Try.ntmps5
  go_wp2_with fail
  refine (answers_any w).mono ?_
  rintro e w1 ⟨rfl, hf1⟩
  have H1 := Lib.hid hf1
  clear hf1
  go_wp2_with (at_builtin; refine wpList_app _ rfl _ _ 32 rfl 43 i0 _ 7 56 Try.underlying32 hi hz0 hz1 hz2 rfl (by decide) _ 0 [] rfl (OwnS.new0 w1 43 7) _ _ l.length (encSs l) rfl (HX.out.fr (H1.out.alloc _) fun _ _ hf => hf) ?c1 ?c2 ?c3 ?_)
  case c1 => exact encSs_one l
  case c2 => unfold maxLen; omega
  case c3 => omega
  intro v2 w2 hown hfr hat _
  have hN := app_new (w := w1) (v := .slice (some ⟨w1.heap.size, 0, none⟩) 0 0) (v' := v2) (fun b hb => by simp [Value.ownBlock] at hb; omega) ((Fr.refl Nob w1).alloc (.cells #[] 43)) hfr (by simpa using hat)
  have H2 := Lib.hid (H1.out.trans0 hN.1)
  have HO := Lib.hid (show OwnS w2 43 7 v2 l.length (encSs l) by simpa using hown)
  clear hown hfr hat hN
  have HR := Lib.hid HO.out.row
  obtain ⟨A2, k2, rfl, _, _⟩ := HO.out.form
  go_wp2_with fail
  refine (sound_any _ l _ _ HR.out).mono ?_
  rw [hq.out]
  rintro e w3 ⟨rfl, hf3⟩
  have H3 := Lib.hid (H2.out.trans0 hf3)
  clear hf3
  go_wp2_with fail
  refine (rsound_any _ l _ _ (HX.out.fr H3.out fun _ _ hf => hf)).mono ?_
  rw [hq.out]
  rintro e w4 ⟨rfl, hf4⟩
  have H4 := Lib.hid (H3.out.trans0 hf4)
  clear hf4
  go_wp2_with fail
  refine (box_none _ l _ _ (HX.out.fr H4.out fun _ _ hf => hf) hns.out).mono ?_
  rw [hbx.out]
  unfold ptV oo
  rintro e w5 ⟨rfl, hf5⟩
  have H5 := Lib.hid (H4.out.trans0 hf5)
  clear hf5
  go_wp2_with fail
  go_ret
  exact ⟨rfl, (H5.out.alloc _).alloc _⟩
set_option maxHeartbeats 1600000 in
theorem sound_good (v : Value) (l : List Sg) (w : World) (h : RowIn w (Lt w) 7 v l.length (encSs l)) (hb : l.length ≤ 6000) (hS : SoundP l) :
    Calls Try.prog 5 #[v] w fun e w' => e = .returned (.bool true) ∧ Fr Nob w w' := by
  obtain ⟨i0, hi, hz0, hz1, hz2⟩ := info_parts info43
  have hq := Lib.hid (decide_eq_true hS)
  have HS := Lib.hid hS
  have HX := Lib.hid h
  obtain ⟨A, cap, rfl, _, _⟩ : ∃ A c, v = .slice A l.length c ∧ l.length ≤ c ∧ c ≤ maxLen := by obtain ⟨_, A, c, h, h1, h2, _⟩ := h; exact ⟨A, c, h, h1, h2⟩
  have d1 : decide ((6000 : Int) < l.length) = false := decide_eq_false (by omega)
  clear h hS
  go_enter Try.func5, Try.ntmps5
  go_wp2_with fail
  refine (answers_any w).mono ?_
  rintro e w1 ⟨rfl, hf1⟩
  have H1 := Lib.hid hf1
  clear hf1
  go_wp2_with (at_builtin; refine wpList_app _ rfl _ _ 32 rfl 43 i0 _ 7 56 Try.underlying32 hi hz0 hz1 hz2 rfl (by decide) _ 0 [] rfl (OwnS.new0 w1 43 7) _ _ l.length (encSs l) rfl (HX.out.fr (H1.out.alloc _) fun _ _ hf => hf) ?c1 ?c2 ?c3 ?_)
  case c1 => exact encSs_one l
  case c2 => unfold maxLen; omega
  case c3 => omega
  intro v2 w2 hown hfr hat _
  have hN := app_new (w := w1) (v := .slice (some ⟨w1.heap.size, 0, none⟩) 0 0) (v' := v2) (fun b hb => by simp [Value.ownBlock] at hb; omega) ((Fr.refl Nob w1).alloc (.cells #[] 43)) hfr (by simpa using hat)
  have H2 := Lib.hid (H1.out.trans0 hN.1)
  have HO := Lib.hid (show OwnS w2 43 7 v2 l.length (encSs l) by simpa using hown)
  clear hown hfr hat hN
  have HR := Lib.hid HO.out.row
  obtain ⟨A2, k2, rfl, _, _⟩ := HO.out.form
  go_wp2_with fail
  refine (sound_any _ l _ _ HR.out).mono ?_
  rw [hq.out]
  rintro e w3 ⟨rfl, hf3⟩
  have H3 := Lib.hid (H2.out.trans0 hf3)
  clear hf3
  go_wp2_with fail
  refine (rsound_any _ l _ _ (HX.out.fr H3.out fun _ _ hf => hf)).mono ?_
  rw [hq.out]
  rintro e w4 ⟨rfl, hf4⟩
  have H4 := Lib.hid (H3.out.trans0 hf4)
  clear hf4
  go_wp2_with fail
  refine (new_l w l.length w4 H4.out).mono ?_
  rintro e w5 ⟨rfl, h5⟩
  have H5 := Lib.hid h5
  clear h5
  generalize w4.heap.size = g at *
  go_wp2_with fail
  go_loopw [8] (fun q wr => ∃ k : Nat, k ≤ l.length ∧ q = .int .i64 k ∧ Hid (∃ p, LP w wr g p ∧ p.list = l.take k ∧ p.most = l.length)) (fun q _ => l.length - (intOf q).toNat)
  case atStart => exact ⟨0, by omega, rfl, _, H5.out, rfl, rfl⟩
  case round =>
    obtain ⟨k, hk, rfl, HP⟩ := hrel
    obtain ⟨p, hp, hpl, hpm⟩ := HP.out
    have HL := Lib.hid hp
    have hpb : PB p := ⟨by rw [hpm]; omega, by rw [hpm]; omega, by rw [hpl]; simp; omega⟩
    have HPB := Lib.hid hpb
    have hpl' := Lib.hid hpl
    have hpm' := Lib.hid hpm
    by_cases hlt : k < l.length
    · obtain ⟨hkd, hst, hsl, hsm⟩ := step_ok l HS.out k hlt p hpl hpm
      have hc : ∃ b off cap', (Value.slice A l.length cap = .slice (some ⟨b, off, none⟩) l.length cap') ∧ l.length ≤ cap' ∧ cap' ≤ 9223372036854775807 ∧ SgAt wr b (off + k * 7) l[k] := by
        obtain ⟨b, off, cap', hv, q1, q2, _, hA⟩ := (HX.out.fr hp.fr fun _ _ hf => hf).sg (by omega)
        exact ⟨b, off, cap', hv, q1, q2, hA k hlt⟩
      clear hp hpl hpm hpb HP
      obtain ⟨b, off, cap', hv, q1, q2, hc⟩ := hc
      cases hv
      obtain ⟨s0, s1, s2, s3, s4, s5, s6⟩ := hc
      have i2 : (k : Int) < l.length := by omega
      generalize l[k] = s at *
      have hst' := Lib.hid hst
      have HN := Lib.hid (And.intro hsl hsm)
      clear hst hsl hsm
      obtain ⟨w6, hw6⟩ : ∃ w1, wr.alloc (.cells (encS s).toArray 43) = w1 := ⟨_, rfl⟩
      have hf6 : Fr Nob wr w6 := by rw [← hw6]; exact (Fr.refl Nob wr).alloc _
      have hb6 : Blk w6 wr.heap.size (encS s).toArray 43 := by rw [← hw6]; exact Blk.new wr _ _
      simp only [encS] at hw6
      obtain ⟨t0, t1, t2, t3, t4, t5, t6⟩ := SgAt.own hb6
      have HL6 := Lib.hid (HL.out.nob hf6)
      clear hf6 hb6
      rcases hkd with hkd | hkd | hkd | hkd
      · have hs := Lib.hid (show moveF p s.a = stepF p s by simp [stepF, hkd])
        rw [hkd] at s0 t0 hw6
        clear hkd
        go_wp2_with fail
        refine (move_l s.a HL6.out HPB.out).mono ?_
        rw [hs.out, hst'.out]
        rintro e w7 ⟨rfl, h7⟩
        have H7 := Lib.hid h7
        clear h7
        go_wp2_with fail
        go_roundw
        case rel => exact ⟨k + 1, by omega, by go_num, _, H7.out, HN.out.1, HN.out.2⟩
        case measure => simp [intOf]; omega
      · have hs := Lib.hid (show lineF p s.a = stepF p s by simp [stepF, hkd])
        rw [hkd] at s0 t0 hw6
        clear hkd
        go_wp2_with fail
        refine (line_l s.a HL6.out HPB.out).mono ?_
        rw [hs.out, hst'.out]
        rintro e w7 ⟨rfl, h7⟩
        have H7 := Lib.hid h7
        clear h7
        go_wp2_with fail
        go_roundw
        case rel => exact ⟨k + 1, by omega, by go_num, _, H7.out, HN.out.1, HN.out.2⟩
        case measure => simp [intOf]; omega
      · have hs := Lib.hid (show curveF p s.a s.b s.c = stepF p s by simp [stepF, hkd])
        rw [hkd] at s0 t0 hw6
        clear hkd
        go_wp2_with fail
        refine (curve_l s.a s.b s.c HL6.out HPB.out).mono ?_
        rw [hs.out, hst'.out]
        rintro e w7 ⟨rfl, h7⟩
        have H7 := Lib.hid h7
        clear h7
        go_wp2_with fail
        go_roundw
        case rel => exact ⟨k + 1, by omega, by go_num, _, H7.out, HN.out.1, HN.out.2⟩
        case measure => simp [intOf]; omega
      · have hs := Lib.hid (show closeF p = stepF p s by simp [stepF, hkd])
        rw [hkd] at s0 t0 hw6
        clear hkd
        go_wp2_with fail
        refine (close_l HL6.out HPB.out).mono ?_
        rw [hs.out, hst'.out]
        rintro e w7 ⟨rfl, h7⟩
        have H7 := Lib.hid h7
        clear h7
        go_wp2_with fail
        go_roundw
        case rel => exact ⟨k + 1, by omega, by go_num, _, H7.out, HN.out.1, HN.out.2⟩
        case measure => simp [intOf]; omega
    · have hge : l.length ≤ k := by omega
      have hpll := Lib.hid (show p.list = l by rw [hpl, List.take_of_length_le (by omega)])
      clear hp hpl hpm hpb HP
      go_wp2_with fail
      refine (seg_l HL.out HPB.out).mono ?_
      rw [hpll.out]
      rintro e w7 ⟨vo, rfl, ho, h7, _, hf7⟩
      obtain ⟨A7, k7, rfl, _, _⟩ := ho.form
      have HO7 := Lib.hid ho.row
      have H7 := Lib.hid h7.fr
      clear ho h7
      go_wp2_with fail
      refine (same_any _ _ l l _ _ _ HO7.out (HX.out.fr H7.out fun _ _ hf => hf)).mono ?_
      rw [decide_eq_true (rfl : l = l)]
      rintro e w8 ⟨rfl, hf8⟩
      have H8 := Lib.hid (H7.out.trans0 hf8)
      clear hf8
      go_wp2_with fail
      go_ret
      exact ⟨rfl, H8.out⟩
theorem sound_walk (v : Value) (l : List Sg) (w : World) (h : RowIn w (Lt w) 7 v l.length (encSs l)) :
    Calls Try.prog 5 #[v] w fun e w' => e = .returned (.bool true) ∧ Fr Nob w w' := by
  by_cases hb : l.length ≤ 6000
  · by_cases hS : SoundP l
    · exact sound_good v l w h hb hS
    · exact sound_bad v l w h hb hS
  · exact sound_far v l w h (by omega)
theorem list7 {cs : List Value} (h : cs.length = 7) : ∃ a b c d e f g, cs = [a, b, c, d, e, f, g] := by
  match cs, h with
  | [a, b, c, d, e, f, g], _ => exact ⟨a, b, c, d, e, f, g, rfl⟩
theorem read_sg {H : Type} {enc' : TypeId × Value → H} {w : World} {base : Nat} {spare : Nat → Bool} {held : Bool} (n : Nat) (cs : List Value) (y : DataW H × List MemPlace)
    (h : DataW.trod enc' Try.prog w base spare held n 43 cs = some y) : ∃ s : Sg, cs = encS s := by
  obtain ⟨xs, n, _, rfl, hl, hlen, hf⟩ := DataW.trod_struct Try.underlying43 h
  rw [cells43] at hl
  have hx : xs.length = 2 := hlen
  obtain ⟨z0, h0, _⟩ := field_int (hf 0 _ rfl) (by omega) Try.underlying3 cells3
  have h1 := hf 1 _ rfl
  obtain ⟨c0, c1, c2, c3, c4, c5, c6, rfl⟩ := list7 hl
  have h1' : DataW.trod enc' Try.prog w base spare held n 41 [c1, c2, c3, c4, c5, c6] = some (xs[1]'(by omega)) := by
    rw [List.getElem?_eq_getElem (by omega)] at h1
    have e : ([c0, c1, c2, c3, c4, c5, c6].drop 1).take (Try.prog.cellsOf 41) = [c1, c2, c3, c4, c5, c6] := by rw [cells41]; rfl
    rw [← e]
    exact h1
  obtain ⟨ys, m, rfl, _, _, hy3, hel⟩ := DataW.trod_array Try.underlying41 h1'
  have ht : ∀ i (hi : i < 3), ∃ p : Pt, ([c1, c2, c3, c4, c5, c6].drop (i * 2)).take 2 = encP p := fun i hi => by
    have := hel i hi
    rw [cells23, List.getElem?_eq_getElem (by omega)] at this
    exact read_pt _ _ _ this
  obtain ⟨a, ha⟩ := ht 0 (by omega)
  obtain ⟨b, hb⟩ := ht 1 (by omega)
  obtain ⟨c, hc⟩ := ht 2 (by omega)
  simp at h0
  refine ⟨⟨z0, a, b, c⟩, ?_⟩
  simp [encP] at ha hb hc
  simp [encS, h0, ha, hb, hc]
theorem flat_encS (xs : List (Sg × List Value)) (h : ∀ y ∈ xs, y.2 = encS y.1) : xs.flatMap (·.2) = encSs (xs.map (·.1)) := by
  induction xs with
  | nil => rfl
  | cons a r ih => rw [List.flatMap_cons, List.map_cons, encSs_cons, h a (by simp), ih fun y hy => h y (by simp [hy])]
theorem read_sgs {H : Type} {enc' : TypeId × Value → H} {w : World} {base : Nat} {spare : Nat → Bool} {held : Bool} {fuel : Nat} {v : Value} {x : DataW H × List MemPlace}
    (h : DataW.trod enc' Try.prog w base spare held fuel 32 [v] = some x) : ∃ l : List Sg, RowIn w (Lt w) 7 v l.length (encSs l) := by
  obtain ⟨xs, h1, h2⟩ := read_slice Try.underlying32 7 cells43 (by omega) (fun (o : Sg) cs => cs = encS o) (fun n cs y h => read_sg n cs y h) h
  rw [flat_encS xs fun y hy => (h2 y hy).1] at h1
  exact ⟨xs.map (·.1), by simpa using h1⟩
end Go.Proofs.Ytkkejjfmidgciaa
