/-
  The walk of the reference's SoundPath.
-/
import Derived.Test.YtkkejjfmidgciaaP11
namespace Go.Proofs.Ytkkejjfmidgciaa
open Go.RowKit
set_option linter.unusedVariables false
set_option linter.unusedSimpArgs false
def refOk (s : Sg) (n : Int) (j : Nat) : Bool := fitP ((pts s).getD j oo) && !(decide (n ≤ j) && !decide ((pts s).getD j oo = oo))
theorem refOk_iff (s : Sg) (n : Int) (hn : ptsK s.kind = n) (h3 : n = 0 ∨ n = 1 ∨ n = 3) : sgOk s = (refOk s n 0 && (refOk s n 1 && refOk s n 2)) := by
  unfold sgOk refOk
  rw [hn]
  cases h0 : fitP s.a <;> cases h1 : fitP s.b <;> cases h2 : fitP s.c <;> rcases h3 with rfl | rfl | rfl <;> simp [pts, someP, h0, h1, h2]
  all_goals
    cases decide (s.a = oo) <;> cases decide (s.b = oo) <;> cases decide (s.c = oo) <;> simp_all
theorem pt_oo {p : Pt} (hx : p.x = 0) (hy : p.y = 0) : p = oo := by cases p; simp at hx hy; subst hx; subst hy; rfl
set_option maxRecDepth 8000 in
set_option maxHeartbeats 8000000 in
theorem rsound_any (v : Value) (l : List Sg) (S : Nat → Prop) (w : World) (h : RowIn w S 7 v l.length (encSs l)) :
    Calls Try.prog 17 #[v] w fun e w' => e = .returned (.bool (decide (SoundP l))) ∧ Fr Nob w w' := by
  have hlen := h.len_le
  by_cases hb : 4096 < l.length
  · rw [show decide (SoundP l) = false from decide_eq_false fun h => by have := h.1; omega]
    obtain ⟨_, A, c, rfl, _⟩ := h
    have i1 : (4096 : Int) < l.length := by omega
    go_enter Try.func17, Try.ntmps17
    go_wp2
    go_ret
    exact ⟨rfl, Fr.refl _ _⟩
  have i1 : ¬ (4096 : Int) < l.length := by omega
  by_cases h0 : l.length = 0
  · obtain rfl : l = [] := List.length_eq_zero_iff.1 h0
    obtain ⟨_, A, c, rfl, _⟩ := h
    rw [show decide (SoundP []) = true from rfl]
    go_enter Try.func17, Try.ntmps17
    go_wp2
    go_loopw [3] (fun q wr => q = .int .i64 0 ∧ wr = w) (fun _ _ => 0)
    case atStart => exact ⟨rfl, rfl⟩
    case round =>
      obtain ⟨rfl, rfl⟩ := hrel
      go_wp2
      go_ret
      exact ⟨rfl, Fr.refl _ _⟩
  obtain ⟨b, off, cap, rfl, h1, h2, _, hA⟩ := h.sg (by omega)
  have HA := Lib.hid hA
  clear h hA
  obtain ⟨R, hR⟩ : ∃ R, decide (SoundP l) = R := ⟨_, rfl⟩
  rw [hR]
  have HR := Lib.hid hR
  clear hR
  go_enter Try.func17, Try.ntmps17
  go_wp2
  go_loopw [3] (fun q wr => ∃ k : Nat, k ≤ l.length ∧ q = .int .i64 k ∧ Hid (∀ j, j < k → snd1 l j = true) ∧ Hid (Fr Nob w wr)) (fun q _ => l.length - (intOf q).toNat)
  case atStart => exact ⟨0, by omega, rfl, fun j h => by omega, Fr.refl _ _⟩
  case round =>
    obtain ⟨k, hk, rfl, HT, HF⟩ := hrel
    by_cases hlt : k < l.length
    · have hc := (HA.out k hlt).fr HF.out fun hh => hh
      have hfal := Lib.hid (show snd1 l k = false → R = false from fun h => by rw [← HR.out]; exact sound_false (l := l) hlt h)
      have hs1 : snd1 l k = (folB l[k].kind (prevK l k) && sgOk l[k]) := by unfold snd1; rw [getD_at hlt]
      have HS := Lib.hid hs1
      have hpv := Lib.hid (show ∀ wz, Fr Nob w wz → 0 < k → wz.cell? ⟨b, off + (k - 1) * 7, none⟩ = some (.int .i64 (prevK l k)) from fun wz hf h0 => by
        have := ((HA.out (k - 1) (by omega)).fr hf fun hh => hh).c0
        rw [this]
        have e : prevK l k = l[k - 1].kind := by
          have := prevK_succ (l := l) (k := k - 1) (by omega)
          rwa [show k - 1 + 1 = k by omega] at this
        rw [e])
      have hpz := Lib.hid (show k = 0 → prevK l k = 0 from fun h => by simp [prevK, h])
      clear hs1
      generalize l[k] = s at *
      generalize prevK l k = last at *
      have i2 : (k : Int) < l.length := by omega
      obtain ⟨wo, rfl⟩ : ∃ wo : World, wo = wr := ⟨_, rfl⟩
      obtain ⟨s0, s1, s2, s3, s4, s5, s6⟩ := hc
      obtain ⟨w1, hw1⟩ : ∃ w1, wo.alloc (.cells (encS s).toArray 43) = w1 := ⟨_, rfl⟩
      have hf1 : Fr Nob wo w1 := by rw [← hw1]; exact (Fr.refl Nob wo).alloc _
      have hb1 : Blk w1 wo.heap.size (encS s).toArray 43 := by rw [← hw1]; exact Blk.new wo _ _
      simp only [encS] at hw1
      obtain ⟨t0, t1, t2, t3, t4, t5, t6⟩ := SgAt.own hb1
      have B1 := Lib.hid (SgAt.own hb1)
      have HF1 := Lib.hid (HF.out.trans0 hf1)
      clear hf1 hb1 HR
      have hk5 : s.kind = 1 ∨ s.kind = 2 ∨ s.kind = 3 ∨ s.kind = 4 ∨ (s.kind ≠ 1 ∧ s.kind ≠ 2 ∧ s.kind ≠ 3 ∧ s.kind ≠ 4) := by omega
      rcases hk5 with hk5 | hk5 | hk5 | hk5 | hk5
      · have HBad := Lib.hid (show ∀ j, j < 3 → refOk s 1 j = false → R = false from fun j hj hr => hfal.out (by
          rw [HS.out, refOk_iff s 1 (by rw [hk5]; rfl) (by simp)]
          have : j = 0 ∨ j = 1 ∨ j = 2 := by omega
          rcases this with rfl | rfl | rfl <;> simp [hr]))
        have HGood := Lib.hid (show (∀ j, j < 3 → refOk s 1 j = true) → snd1 l k = folB 1 last from fun hr => by
          rw [HS.out, refOk_iff s 1 (by rw [hk5]; rfl) (by simp), hr 0 (by omega), hr 1 (by omega), hr 2 (by omega), hk5]; simp)
        have HK := Lib.hid hk5
        rw [hk5] at t0 s0 hw1
        clear hk5
        go_wp2_with fail
        clear s0 s1 s2 s3 s4 s5 s6 t0 t1 t2 t3 t4 t5 t6
        go_loopw [6] (fun q wr => ∃ j : Nat, j ≤ 3 ∧ q = .int .i64 j ∧ Hid (∀ i, i < j → refOk s 1 i = true) ∧ Hid (SgAt wr wo.heap.size 0 s) ∧ Hid (Fr Nob w wr)) (fun q _ => 3 - (intOf q).toNat)
        case atStart => exact ⟨0, by omega, rfl, fun j h => by omega, B1.out, HF1.out⟩
        case round =>
          obtain ⟨j, hj, rfl, HJ, HB, HFJ⟩ := hrel
          obtain ⟨t0, t1, t2, t3, t4, t5, t6⟩ := HB.out
          rw [HK.out] at t0
          have hj4 : j = 0 ∨ j = 1 ∨ j = 2 ∨ j = 3 := by omega
          rcases hj4 with rfl | rfl | rfl | rfl
          · cases hfp : fitP s.a with
            | false =>
              have HD := Lib.hid (HBad.out 0 (by omega) (by simp [refOk, pts, hfp]))
              have HFP := Lib.hid hfp
              clear hfp
              go_wp2_with fail
              refine (fitp_any s.a _).mono ?_
              rw [HFP.out]
              rintro e w2 ⟨rfl, hf2⟩
              have HF2 := Lib.hid (HFJ.out.trans0 hf2)
              clear hf2
              go_wp2_with fail
              go_ret
              exact ⟨ret_bool HD.out.symm, HF2.out⟩
            | true =>
              have HFP := Lib.hid hfp
              clear hfp
              go_wp2_with fail
              refine (fitp_any s.a _).mono ?_
              rw [HFP.out]
              rintro e w2 ⟨rfl, hf2⟩
              have HF2 := Lib.hid (HFJ.out.trans0 hf2)
              have HB2 := Lib.hid (HB.out.fr hf2 fun hh => hh)
              clear t0 t1 t2 t3 t4 t5 t6
              obtain ⟨t0, t1, t2, t3, t4, t5, t6⟩ := HB2.out
              rw [HK.out] at t0
              clear hf2
              have HJ2 := Lib.hid (show ∀ i, i < 0 + 1 → refOk s 1 i = true from fun i hi => by
                rcases Nat.lt_or_ge i 0 with h | h
                · exact HJ.out i h
                · obtain rfl : i = 0 := by omega
                  simp [refOk, pts, HFP.out])
              go_wp2_with fail
              go_roundw
              case rel => exact ⟨0 + 1, by omega, rfl, HJ2, HB2.out, HF2.out⟩
              case measure => simp [intOf]
          · cases hfp : fitP s.b with
            | false =>
              have HD := Lib.hid (HBad.out 1 (by omega) (by simp [refOk, pts, hfp]))
              have HFP := Lib.hid hfp
              clear hfp
              go_wp2_with fail
              refine (fitp_any s.b _).mono ?_
              rw [HFP.out]
              rintro e w2 ⟨rfl, hf2⟩
              have HF2 := Lib.hid (HFJ.out.trans0 hf2)
              clear hf2
              go_wp2_with fail
              go_ret
              exact ⟨ret_bool HD.out.symm, HF2.out⟩
            | true =>
              have HFP := Lib.hid hfp
              clear hfp
              by_cases hx : s.b.x = 0
              · by_cases hy : s.b.y = 0
                · have hz : s.b = oo := pt_oo hx hy
                  have bx : (s.b.x == 0) = true := by simp [hx]
                  have by' : (s.b.y == 0) = true := by simp [hy]
                  have bx2 : (s.b.x != 0) = false := by simp [hx]
                  have by2 : (s.b.y != 0) = false := by simp [hy]
                  have HZ := Lib.hid hz
                  clear hx hy hz
                  go_wp2_with fail
                  refine (fitp_any s.b _).mono ?_
                  rw [HFP.out]
                  rintro e w2 ⟨rfl, hf2⟩
                  have HF2 := Lib.hid (HFJ.out.trans0 hf2)
                  have HB2 := Lib.hid (HB.out.fr hf2 fun hh => hh)
                  clear t0 t1 t2 t3 t4 t5 t6
                  obtain ⟨t0, t1, t2, t3, t4, t5, t6⟩ := HB2.out
                  rw [HK.out] at t0
                  clear hf2
                  have HJ2 := Lib.hid (show ∀ i, i < 1 + 1 → refOk s 1 i = true from fun i hi => by
                    rcases Nat.lt_or_ge i 1 with h | h
                    · exact HJ.out i h
                    · obtain rfl : i = 1 := by omega
                      rw [refOk, show (pts s).getD 1 oo = s.b from rfl, HFP.out]; simp [HZ.out])
                  go_wp2_with fail
                  go_roundw
                  case rel => exact ⟨1 + 1, by omega, rfl, HJ2, HB2.out, HF2.out⟩
                  case measure => simp [intOf]
                · have hz : s.b ≠ oo := fun h => hy (by rw [h]; rfl)
                  have bx : (s.b.x == 0) = true := by simp [hx]
                  have by' : (s.b.y == 0) = false := by simpa using hy
                  have bx2 : (s.b.x != 0) = false := by simp [hx]
                  have by2 : (s.b.y != 0) = true := by simpa using hy
                  have HZ := Lib.hid hz
                  clear hx hy hz
                  go_wp2_with fail
                  refine (fitp_any s.b _).mono ?_
                  rw [HFP.out]
                  rintro e w2 ⟨rfl, hf2⟩
                  have HF2 := Lib.hid (HFJ.out.trans0 hf2)
                  have HB2 := Lib.hid (HB.out.fr hf2 fun hh => hh)
                  clear t0 t1 t2 t3 t4 t5 t6
                  obtain ⟨t0, t1, t2, t3, t4, t5, t6⟩ := HB2.out
                  rw [HK.out] at t0
                  clear hf2
                  have HD := Lib.hid (HBad.out 1 (by omega) (by simp [refOk, pts, HFP.out]; exact HZ.out))
                  go_wp2_with fail
                  go_ret
                  exact ⟨ret_bool HD.out.symm, HF2.out⟩
              · have hz : s.b ≠ oo := fun h => hx (by rw [h]; rfl)
                have bx : (s.b.x == 0) = false := by simpa using hx
                have bx2 : (s.b.x != 0) = true := by simpa using hx
                have HZ := Lib.hid hz
                clear hx hz
                go_wp2_with fail
                refine (fitp_any s.b _).mono ?_
                rw [HFP.out]
                rintro e w2 ⟨rfl, hf2⟩
                have HF2 := Lib.hid (HFJ.out.trans0 hf2)
                have HB2 := Lib.hid (HB.out.fr hf2 fun hh => hh)
                clear t0 t1 t2 t3 t4 t5 t6
                obtain ⟨t0, t1, t2, t3, t4, t5, t6⟩ := HB2.out
                rw [HK.out] at t0
                clear hf2
                have HD := Lib.hid (HBad.out 1 (by omega) (by simp [refOk, pts, HFP.out]; exact HZ.out))
                go_wp2_with fail
                go_ret
                exact ⟨ret_bool HD.out.symm, HF2.out⟩
          · cases hfp : fitP s.c with
            | false =>
              have HD := Lib.hid (HBad.out 2 (by omega) (by simp [refOk, pts, hfp]))
              have HFP := Lib.hid hfp
              clear hfp
              go_wp2_with fail
              refine (fitp_any s.c _).mono ?_
              rw [HFP.out]
              rintro e w2 ⟨rfl, hf2⟩
              have HF2 := Lib.hid (HFJ.out.trans0 hf2)
              clear hf2
              go_wp2_with fail
              go_ret
              exact ⟨ret_bool HD.out.symm, HF2.out⟩
            | true =>
              have HFP := Lib.hid hfp
              clear hfp
              by_cases hx : s.c.x = 0
              · by_cases hy : s.c.y = 0
                · have hz : s.c = oo := pt_oo hx hy
                  have bx : (s.c.x == 0) = true := by simp [hx]
                  have by' : (s.c.y == 0) = true := by simp [hy]
                  have bx2 : (s.c.x != 0) = false := by simp [hx]
                  have by2 : (s.c.y != 0) = false := by simp [hy]
                  have HZ := Lib.hid hz
                  clear hx hy hz
                  go_wp2_with fail
                  refine (fitp_any s.c _).mono ?_
                  rw [HFP.out]
                  rintro e w2 ⟨rfl, hf2⟩
                  have HF2 := Lib.hid (HFJ.out.trans0 hf2)
                  have HB2 := Lib.hid (HB.out.fr hf2 fun hh => hh)
                  clear t0 t1 t2 t3 t4 t5 t6
                  obtain ⟨t0, t1, t2, t3, t4, t5, t6⟩ := HB2.out
                  rw [HK.out] at t0
                  clear hf2
                  have HJ2 := Lib.hid (show ∀ i, i < 2 + 1 → refOk s 1 i = true from fun i hi => by
                    rcases Nat.lt_or_ge i 2 with h | h
                    · exact HJ.out i h
                    · obtain rfl : i = 2 := by omega
                      rw [refOk, show (pts s).getD 2 oo = s.c from rfl, HFP.out]; simp [HZ.out])
                  go_wp2_with fail
                  go_roundw
                  case rel => exact ⟨2 + 1, by omega, rfl, HJ2, HB2.out, HF2.out⟩
                  case measure => simp [intOf]
                · have hz : s.c ≠ oo := fun h => hy (by rw [h]; rfl)
                  have bx : (s.c.x == 0) = true := by simp [hx]
                  have by' : (s.c.y == 0) = false := by simpa using hy
                  have bx2 : (s.c.x != 0) = false := by simp [hx]
                  have by2 : (s.c.y != 0) = true := by simpa using hy
                  have HZ := Lib.hid hz
                  clear hx hy hz
                  go_wp2_with fail
                  refine (fitp_any s.c _).mono ?_
                  rw [HFP.out]
                  rintro e w2 ⟨rfl, hf2⟩
                  have HF2 := Lib.hid (HFJ.out.trans0 hf2)
                  have HB2 := Lib.hid (HB.out.fr hf2 fun hh => hh)
                  clear t0 t1 t2 t3 t4 t5 t6
                  obtain ⟨t0, t1, t2, t3, t4, t5, t6⟩ := HB2.out
                  rw [HK.out] at t0
                  clear hf2
                  have HD := Lib.hid (HBad.out 2 (by omega) (by simp [refOk, pts, HFP.out]; exact HZ.out))
                  go_wp2_with fail
                  go_ret
                  exact ⟨ret_bool HD.out.symm, HF2.out⟩
              · have hz : s.c ≠ oo := fun h => hx (by rw [h]; rfl)
                have bx : (s.c.x == 0) = false := by simpa using hx
                have bx2 : (s.c.x != 0) = true := by simpa using hx
                have HZ := Lib.hid hz
                clear hx hz
                go_wp2_with fail
                refine (fitp_any s.c _).mono ?_
                rw [HFP.out]
                rintro e w2 ⟨rfl, hf2⟩
                have HF2 := Lib.hid (HFJ.out.trans0 hf2)
                have HB2 := Lib.hid (HB.out.fr hf2 fun hh => hh)
                clear t0 t1 t2 t3 t4 t5 t6
                obtain ⟨t0, t1, t2, t3, t4, t5, t6⟩ := HB2.out
                rw [HK.out] at t0
                clear hf2
                have HD := Lib.hid (HBad.out 2 (by omega) (by simp [refOk, pts, HFP.out]; exact HZ.out))
                go_wp2_with fail
                go_ret
                exact ⟨ret_bool HD.out.symm, HF2.out⟩
          · have HG := Lib.hid (HGood.out fun i hi => HJ.out i hi)
            by_cases hk0 : k = 0
            · have hl0 := hpz.out hk0
              subst hl0
              have z0 : ((k : Int)) = 0 := by omega
              have z1 : decide ((0 : Int) < k) = false := decide_eq_false (by omega)
              have HT2 := Lib.hid (show ∀ i, i < k + 1 → snd1 l i = true by
                intro i hi
                rcases Nat.lt_or_ge i k with h | h
                · exact HT.out i h
                · obtain rfl : i = k := by omega
                  rw [HG.out]; rfl)
              go_wp2_with fail
              go_roundw
              case rel => exact ⟨k + 1, by omega, by go_num, HT2, HFJ.out⟩
              case measure => simp [intOf]; omega
            · have hpc := hpv.out _ HFJ.out (by omega)
              obtain ⟨m, rfl⟩ : ∃ m, k = m + 1 := ⟨k - 1, by omega⟩
              simp only [Nat.add_sub_cancel] at hpc
              have z1 : decide ((0 : Int) < (m + 1 : Nat)) = true := decide_eq_true (by omega)
              have z2 : ((m + 1 : Nat) : Int) - 1 = m := by omega
              have i3 : (m : Int) < l.length := by omega
              by_cases hl1 : last = 1
              · subst hl1
                have HD := Lib.hid (hfal.out (by rw [HG.out]; rfl))
                go_wp2_with fail
                go_ret
                exact ⟨ret_bool HD.out.symm, HFJ.out⟩
              · have y1 : (last == 1) = false := by simpa using hl1
                have HL1 := Lib.hid hl1
                clear hl1
                have HT2 := Lib.hid (show ∀ i, i < m + 1 + 1 → snd1 l i = true by
                  intro i hi
                  rcases Nat.lt_or_ge i (m + 1) with h | h
                  · exact HT.out i h
                  · obtain rfl : i = m + 1 := by omega
                    rw [HG.out]; simp [folB, HL1.out])
                go_wp2_with fail
                go_roundw
                case rel => exact ⟨m + 1 + 1, by omega, by go_num, HT2, HFJ.out⟩
                case measure => simp [intOf]; omega
      · have HBad := Lib.hid (show ∀ j, j < 3 → refOk s 1 j = false → R = false from fun j hj hr => hfal.out (by
          rw [HS.out, refOk_iff s 1 (by rw [hk5]; rfl) (by simp)]
          have : j = 0 ∨ j = 1 ∨ j = 2 := by omega
          rcases this with rfl | rfl | rfl <;> simp [hr]))
        have HGood := Lib.hid (show (∀ j, j < 3 → refOk s 1 j = true) → snd1 l k = folB 2 last from fun hr => by
          rw [HS.out, refOk_iff s 1 (by rw [hk5]; rfl) (by simp), hr 0 (by omega), hr 1 (by omega), hr 2 (by omega), hk5]; simp)
        have HK := Lib.hid hk5
        rw [hk5] at t0 s0 hw1
        clear hk5
        go_wp2_with fail
        clear s0 s1 s2 s3 s4 s5 s6 t0 t1 t2 t3 t4 t5 t6
        go_loopw [6] (fun q wr => ∃ j : Nat, j ≤ 3 ∧ q = .int .i64 j ∧ Hid (∀ i, i < j → refOk s 1 i = true) ∧ Hid (SgAt wr wo.heap.size 0 s) ∧ Hid (Fr Nob w wr)) (fun q _ => 3 - (intOf q).toNat)
        case atStart => exact ⟨0, by omega, rfl, fun j h => by omega, B1.out, HF1.out⟩
        case round =>
          obtain ⟨j, hj, rfl, HJ, HB, HFJ⟩ := hrel
          obtain ⟨t0, t1, t2, t3, t4, t5, t6⟩ := HB.out
          rw [HK.out] at t0
          have hj4 : j = 0 ∨ j = 1 ∨ j = 2 ∨ j = 3 := by omega
          rcases hj4 with rfl | rfl | rfl | rfl
          · cases hfp : fitP s.a with
            | false =>
              have HD := Lib.hid (HBad.out 0 (by omega) (by simp [refOk, pts, hfp]))
              have HFP := Lib.hid hfp
              clear hfp
              go_wp2_with fail
              refine (fitp_any s.a _).mono ?_
              rw [HFP.out]
              rintro e w2 ⟨rfl, hf2⟩
              have HF2 := Lib.hid (HFJ.out.trans0 hf2)
              clear hf2
              go_wp2_with fail
              go_ret
              exact ⟨ret_bool HD.out.symm, HF2.out⟩
            | true =>
              have HFP := Lib.hid hfp
              clear hfp
              go_wp2_with fail
              refine (fitp_any s.a _).mono ?_
              rw [HFP.out]
              rintro e w2 ⟨rfl, hf2⟩
              have HF2 := Lib.hid (HFJ.out.trans0 hf2)
              have HB2 := Lib.hid (HB.out.fr hf2 fun hh => hh)
              clear t0 t1 t2 t3 t4 t5 t6
              obtain ⟨t0, t1, t2, t3, t4, t5, t6⟩ := HB2.out
              rw [HK.out] at t0
              clear hf2
              have HJ2 := Lib.hid (show ∀ i, i < 0 + 1 → refOk s 1 i = true from fun i hi => by
                rcases Nat.lt_or_ge i 0 with h | h
                · exact HJ.out i h
                · obtain rfl : i = 0 := by omega
                  simp [refOk, pts, HFP.out])
              go_wp2_with fail
              go_roundw
              case rel => exact ⟨0 + 1, by omega, rfl, HJ2, HB2.out, HF2.out⟩
              case measure => simp [intOf]
          · cases hfp : fitP s.b with
            | false =>
              have HD := Lib.hid (HBad.out 1 (by omega) (by simp [refOk, pts, hfp]))
              have HFP := Lib.hid hfp
              clear hfp
              go_wp2_with fail
              refine (fitp_any s.b _).mono ?_
              rw [HFP.out]
              rintro e w2 ⟨rfl, hf2⟩
              have HF2 := Lib.hid (HFJ.out.trans0 hf2)
              clear hf2
              go_wp2_with fail
              go_ret
              exact ⟨ret_bool HD.out.symm, HF2.out⟩
            | true =>
              have HFP := Lib.hid hfp
              clear hfp
              by_cases hx : s.b.x = 0
              · by_cases hy : s.b.y = 0
                · have hz : s.b = oo := pt_oo hx hy
                  have bx : (s.b.x == 0) = true := by simp [hx]
                  have by' : (s.b.y == 0) = true := by simp [hy]
                  have bx2 : (s.b.x != 0) = false := by simp [hx]
                  have by2 : (s.b.y != 0) = false := by simp [hy]
                  have HZ := Lib.hid hz
                  clear hx hy hz
                  go_wp2_with fail
                  refine (fitp_any s.b _).mono ?_
                  rw [HFP.out]
                  rintro e w2 ⟨rfl, hf2⟩
                  have HF2 := Lib.hid (HFJ.out.trans0 hf2)
                  have HB2 := Lib.hid (HB.out.fr hf2 fun hh => hh)
                  clear t0 t1 t2 t3 t4 t5 t6
                  obtain ⟨t0, t1, t2, t3, t4, t5, t6⟩ := HB2.out
                  rw [HK.out] at t0
                  clear hf2
                  have HJ2 := Lib.hid (show ∀ i, i < 1 + 1 → refOk s 1 i = true from fun i hi => by
                    rcases Nat.lt_or_ge i 1 with h | h
                    · exact HJ.out i h
                    · obtain rfl : i = 1 := by omega
                      rw [refOk, show (pts s).getD 1 oo = s.b from rfl, HFP.out]; simp [HZ.out])
                  go_wp2_with fail
                  go_roundw
                  case rel => exact ⟨1 + 1, by omega, rfl, HJ2, HB2.out, HF2.out⟩
                  case measure => simp [intOf]
                · have hz : s.b ≠ oo := fun h => hy (by rw [h]; rfl)
                  have bx : (s.b.x == 0) = true := by simp [hx]
                  have by' : (s.b.y == 0) = false := by simpa using hy
                  have bx2 : (s.b.x != 0) = false := by simp [hx]
                  have by2 : (s.b.y != 0) = true := by simpa using hy
                  have HZ := Lib.hid hz
                  clear hx hy hz
                  go_wp2_with fail
                  refine (fitp_any s.b _).mono ?_
                  rw [HFP.out]
                  rintro e w2 ⟨rfl, hf2⟩
                  have HF2 := Lib.hid (HFJ.out.trans0 hf2)
                  have HB2 := Lib.hid (HB.out.fr hf2 fun hh => hh)
                  clear t0 t1 t2 t3 t4 t5 t6
                  obtain ⟨t0, t1, t2, t3, t4, t5, t6⟩ := HB2.out
                  rw [HK.out] at t0
                  clear hf2
                  have HD := Lib.hid (HBad.out 1 (by omega) (by simp [refOk, pts, HFP.out]; exact HZ.out))
                  go_wp2_with fail
                  go_ret
                  exact ⟨ret_bool HD.out.symm, HF2.out⟩
              · have hz : s.b ≠ oo := fun h => hx (by rw [h]; rfl)
                have bx : (s.b.x == 0) = false := by simpa using hx
                have bx2 : (s.b.x != 0) = true := by simpa using hx
                have HZ := Lib.hid hz
                clear hx hz
                go_wp2_with fail
                refine (fitp_any s.b _).mono ?_
                rw [HFP.out]
                rintro e w2 ⟨rfl, hf2⟩
                have HF2 := Lib.hid (HFJ.out.trans0 hf2)
                have HB2 := Lib.hid (HB.out.fr hf2 fun hh => hh)
                clear t0 t1 t2 t3 t4 t5 t6
                obtain ⟨t0, t1, t2, t3, t4, t5, t6⟩ := HB2.out
                rw [HK.out] at t0
                clear hf2
                have HD := Lib.hid (HBad.out 1 (by omega) (by simp [refOk, pts, HFP.out]; exact HZ.out))
                go_wp2_with fail
                go_ret
                exact ⟨ret_bool HD.out.symm, HF2.out⟩
          · cases hfp : fitP s.c with
            | false =>
              have HD := Lib.hid (HBad.out 2 (by omega) (by simp [refOk, pts, hfp]))
              have HFP := Lib.hid hfp
              clear hfp
              go_wp2_with fail
              refine (fitp_any s.c _).mono ?_
              rw [HFP.out]
              rintro e w2 ⟨rfl, hf2⟩
              have HF2 := Lib.hid (HFJ.out.trans0 hf2)
              clear hf2
              go_wp2_with fail
              go_ret
              exact ⟨ret_bool HD.out.symm, HF2.out⟩
            | true =>
              have HFP := Lib.hid hfp
              clear hfp
              by_cases hx : s.c.x = 0
              · by_cases hy : s.c.y = 0
                · have hz : s.c = oo := pt_oo hx hy
                  have bx : (s.c.x == 0) = true := by simp [hx]
                  have by' : (s.c.y == 0) = true := by simp [hy]
                  have bx2 : (s.c.x != 0) = false := by simp [hx]
                  have by2 : (s.c.y != 0) = false := by simp [hy]
                  have HZ := Lib.hid hz
                  clear hx hy hz
                  go_wp2_with fail
                  refine (fitp_any s.c _).mono ?_
                  rw [HFP.out]
                  rintro e w2 ⟨rfl, hf2⟩
                  have HF2 := Lib.hid (HFJ.out.trans0 hf2)
                  have HB2 := Lib.hid (HB.out.fr hf2 fun hh => hh)
                  clear t0 t1 t2 t3 t4 t5 t6
                  obtain ⟨t0, t1, t2, t3, t4, t5, t6⟩ := HB2.out
                  rw [HK.out] at t0
                  clear hf2
                  have HJ2 := Lib.hid (show ∀ i, i < 2 + 1 → refOk s 1 i = true from fun i hi => by
                    rcases Nat.lt_or_ge i 2 with h | h
                    · exact HJ.out i h
                    · obtain rfl : i = 2 := by omega
                      rw [refOk, show (pts s).getD 2 oo = s.c from rfl, HFP.out]; simp [HZ.out])
                  go_wp2_with fail
                  go_roundw
                  case rel => exact ⟨2 + 1, by omega, rfl, HJ2, HB2.out, HF2.out⟩
                  case measure => simp [intOf]
                · have hz : s.c ≠ oo := fun h => hy (by rw [h]; rfl)
                  have bx : (s.c.x == 0) = true := by simp [hx]
                  have by' : (s.c.y == 0) = false := by simpa using hy
                  have bx2 : (s.c.x != 0) = false := by simp [hx]
                  have by2 : (s.c.y != 0) = true := by simpa using hy
                  have HZ := Lib.hid hz
                  clear hx hy hz
                  go_wp2_with fail
                  refine (fitp_any s.c _).mono ?_
                  rw [HFP.out]
                  rintro e w2 ⟨rfl, hf2⟩
                  have HF2 := Lib.hid (HFJ.out.trans0 hf2)
                  have HB2 := Lib.hid (HB.out.fr hf2 fun hh => hh)
                  clear t0 t1 t2 t3 t4 t5 t6
                  obtain ⟨t0, t1, t2, t3, t4, t5, t6⟩ := HB2.out
                  rw [HK.out] at t0
                  clear hf2
                  have HD := Lib.hid (HBad.out 2 (by omega) (by simp [refOk, pts, HFP.out]; exact HZ.out))
                  go_wp2_with fail
                  go_ret
                  exact ⟨ret_bool HD.out.symm, HF2.out⟩
              · have hz : s.c ≠ oo := fun h => hx (by rw [h]; rfl)
                have bx : (s.c.x == 0) = false := by simpa using hx
                have bx2 : (s.c.x != 0) = true := by simpa using hx
                have HZ := Lib.hid hz
                clear hx hz
                go_wp2_with fail
                refine (fitp_any s.c _).mono ?_
                rw [HFP.out]
                rintro e w2 ⟨rfl, hf2⟩
                have HF2 := Lib.hid (HFJ.out.trans0 hf2)
                have HB2 := Lib.hid (HB.out.fr hf2 fun hh => hh)
                clear t0 t1 t2 t3 t4 t5 t6
                obtain ⟨t0, t1, t2, t3, t4, t5, t6⟩ := HB2.out
                rw [HK.out] at t0
                clear hf2
                have HD := Lib.hid (HBad.out 2 (by omega) (by simp [refOk, pts, HFP.out]; exact HZ.out))
                go_wp2_with fail
                go_ret
                exact ⟨ret_bool HD.out.symm, HF2.out⟩
          · have HG := Lib.hid (HGood.out fun i hi => HJ.out i hi)
            by_cases hk0 : k = 0
            · have hl0 := hpz.out hk0
              subst hl0
              have z0 : ((k : Int)) = 0 := by omega
              have z1 : decide ((0 : Int) < k) = false := decide_eq_false (by omega)
              have HD := Lib.hid (hfal.out (by rw [HG.out]; rfl))
              go_wp2_with fail
              go_ret
              exact ⟨ret_bool HD.out.symm, HFJ.out⟩
            · have hpc := hpv.out _ HFJ.out (by omega)
              obtain ⟨m, rfl⟩ : ∃ m, k = m + 1 := ⟨k - 1, by omega⟩
              simp only [Nat.add_sub_cancel] at hpc
              have z1 : decide ((0 : Int) < (m + 1 : Nat)) = true := decide_eq_true (by omega)
              have z2 : ((m + 1 : Nat) : Int) - 1 = m := by omega
              have i3 : (m : Int) < l.length := by omega
              by_cases hl0 : last = 0
              · subst hl0
                have HD := Lib.hid (hfal.out (by rw [HG.out]; rfl))
                go_wp2_with fail
                go_ret
                exact ⟨ret_bool HD.out.symm, HFJ.out⟩
              by_cases hl4 : last = 4
              · subst hl4
                have HD := Lib.hid (hfal.out (by rw [HG.out]; rfl))
                go_wp2_with fail
                go_ret
                exact ⟨ret_bool HD.out.symm, HFJ.out⟩
              have y0 : (last == 0) = false := by simpa using hl0
              have y4 : (last == 4) = false := by simpa using hl4
              have HL := Lib.hid (And.intro hl0 hl4)
              clear hl0 hl4
              have HT2 := Lib.hid (show ∀ i, i < m + 1 + 1 → snd1 l i = true by
                intro i hi
                rcases Nat.lt_or_ge i (m + 1) with h | h
                · exact HT.out i h
                · obtain rfl : i = m + 1 := by omega
                  rw [HG.out]; simp [folB, HL.out.1, HL.out.2])
              go_wp2_with fail
              go_roundw
              case rel => exact ⟨m + 1 + 1, by omega, by go_num, HT2, HFJ.out⟩
              case measure => simp [intOf]; omega
      · have HBad := Lib.hid (show ∀ j, j < 3 → refOk s 3 j = false → R = false from fun j hj hr => hfal.out (by
          rw [HS.out, refOk_iff s 3 (by rw [hk5]; rfl) (by simp)]
          have : j = 0 ∨ j = 1 ∨ j = 2 := by omega
          rcases this with rfl | rfl | rfl <;> simp [hr]))
        have HGood := Lib.hid (show (∀ j, j < 3 → refOk s 3 j = true) → snd1 l k = folB 3 last from fun hr => by
          rw [HS.out, refOk_iff s 3 (by rw [hk5]; rfl) (by simp), hr 0 (by omega), hr 1 (by omega), hr 2 (by omega), hk5]; simp)
        have HK := Lib.hid hk5
        rw [hk5] at t0 s0 hw1
        clear hk5
        go_wp2_with fail
        clear s0 s1 s2 s3 s4 s5 s6 t0 t1 t2 t3 t4 t5 t6
        go_loopw [6] (fun q wr => ∃ j : Nat, j ≤ 3 ∧ q = .int .i64 j ∧ Hid (∀ i, i < j → refOk s 3 i = true) ∧ Hid (SgAt wr wo.heap.size 0 s) ∧ Hid (Fr Nob w wr)) (fun q _ => 3 - (intOf q).toNat)
        case atStart => exact ⟨0, by omega, rfl, fun j h => by omega, B1.out, HF1.out⟩
        case round =>
          obtain ⟨j, hj, rfl, HJ, HB, HFJ⟩ := hrel
          obtain ⟨t0, t1, t2, t3, t4, t5, t6⟩ := HB.out
          rw [HK.out] at t0
          have hj4 : j = 0 ∨ j = 1 ∨ j = 2 ∨ j = 3 := by omega
          rcases hj4 with rfl | rfl | rfl | rfl
          · cases hfp : fitP s.a with
            | false =>
              have HD := Lib.hid (HBad.out 0 (by omega) (by simp [refOk, pts, hfp]))
              have HFP := Lib.hid hfp
              clear hfp
              go_wp2_with fail
              refine (fitp_any s.a _).mono ?_
              rw [HFP.out]
              rintro e w2 ⟨rfl, hf2⟩
              have HF2 := Lib.hid (HFJ.out.trans0 hf2)
              clear hf2
              go_wp2_with fail
              go_ret
              exact ⟨ret_bool HD.out.symm, HF2.out⟩
            | true =>
              have HFP := Lib.hid hfp
              clear hfp
              go_wp2_with fail
              refine (fitp_any s.a _).mono ?_
              rw [HFP.out]
              rintro e w2 ⟨rfl, hf2⟩
              have HF2 := Lib.hid (HFJ.out.trans0 hf2)
              have HB2 := Lib.hid (HB.out.fr hf2 fun hh => hh)
              clear t0 t1 t2 t3 t4 t5 t6
              obtain ⟨t0, t1, t2, t3, t4, t5, t6⟩ := HB2.out
              rw [HK.out] at t0
              clear hf2
              have HJ2 := Lib.hid (show ∀ i, i < 0 + 1 → refOk s 3 i = true from fun i hi => by
                rcases Nat.lt_or_ge i 0 with h | h
                · exact HJ.out i h
                · obtain rfl : i = 0 := by omega
                  simp [refOk, pts, HFP.out])
              go_wp2_with fail
              go_roundw
              case rel => exact ⟨0 + 1, by omega, rfl, HJ2, HB2.out, HF2.out⟩
              case measure => simp [intOf]
          · cases hfp : fitP s.b with
            | false =>
              have HD := Lib.hid (HBad.out 1 (by omega) (by simp [refOk, pts, hfp]))
              have HFP := Lib.hid hfp
              clear hfp
              go_wp2_with fail
              refine (fitp_any s.b _).mono ?_
              rw [HFP.out]
              rintro e w2 ⟨rfl, hf2⟩
              have HF2 := Lib.hid (HFJ.out.trans0 hf2)
              clear hf2
              go_wp2_with fail
              go_ret
              exact ⟨ret_bool HD.out.symm, HF2.out⟩
            | true =>
              have HFP := Lib.hid hfp
              clear hfp
              go_wp2_with fail
              refine (fitp_any s.b _).mono ?_
              rw [HFP.out]
              rintro e w2 ⟨rfl, hf2⟩
              have HF2 := Lib.hid (HFJ.out.trans0 hf2)
              have HB2 := Lib.hid (HB.out.fr hf2 fun hh => hh)
              clear t0 t1 t2 t3 t4 t5 t6
              obtain ⟨t0, t1, t2, t3, t4, t5, t6⟩ := HB2.out
              rw [HK.out] at t0
              clear hf2
              have HJ2 := Lib.hid (show ∀ i, i < 1 + 1 → refOk s 3 i = true from fun i hi => by
                rcases Nat.lt_or_ge i 1 with h | h
                · exact HJ.out i h
                · obtain rfl : i = 1 := by omega
                  simp [refOk, pts, HFP.out])
              go_wp2_with fail
              go_roundw
              case rel => exact ⟨1 + 1, by omega, rfl, HJ2, HB2.out, HF2.out⟩
              case measure => simp [intOf]
          · cases hfp : fitP s.c with
            | false =>
              have HD := Lib.hid (HBad.out 2 (by omega) (by simp [refOk, pts, hfp]))
              have HFP := Lib.hid hfp
              clear hfp
              go_wp2_with fail
              refine (fitp_any s.c _).mono ?_
              rw [HFP.out]
              rintro e w2 ⟨rfl, hf2⟩
              have HF2 := Lib.hid (HFJ.out.trans0 hf2)
              clear hf2
              go_wp2_with fail
              go_ret
              exact ⟨ret_bool HD.out.symm, HF2.out⟩
            | true =>
              have HFP := Lib.hid hfp
              clear hfp
              go_wp2_with fail
              refine (fitp_any s.c _).mono ?_
              rw [HFP.out]
              rintro e w2 ⟨rfl, hf2⟩
              have HF2 := Lib.hid (HFJ.out.trans0 hf2)
              have HB2 := Lib.hid (HB.out.fr hf2 fun hh => hh)
              clear t0 t1 t2 t3 t4 t5 t6
              obtain ⟨t0, t1, t2, t3, t4, t5, t6⟩ := HB2.out
              rw [HK.out] at t0
              clear hf2
              have HJ2 := Lib.hid (show ∀ i, i < 2 + 1 → refOk s 3 i = true from fun i hi => by
                rcases Nat.lt_or_ge i 2 with h | h
                · exact HJ.out i h
                · obtain rfl : i = 2 := by omega
                  simp [refOk, pts, HFP.out])
              go_wp2_with fail
              go_roundw
              case rel => exact ⟨2 + 1, by omega, rfl, HJ2, HB2.out, HF2.out⟩
              case measure => simp [intOf]
          · have HG := Lib.hid (HGood.out fun i hi => HJ.out i hi)
            by_cases hk0 : k = 0
            · have hl0 := hpz.out hk0
              subst hl0
              have z0 : ((k : Int)) = 0 := by omega
              have z1 : decide ((0 : Int) < k) = false := decide_eq_false (by omega)
              have HD := Lib.hid (hfal.out (by rw [HG.out]; rfl))
              go_wp2_with fail
              go_ret
              exact ⟨ret_bool HD.out.symm, HFJ.out⟩
            · have hpc := hpv.out _ HFJ.out (by omega)
              obtain ⟨m, rfl⟩ : ∃ m, k = m + 1 := ⟨k - 1, by omega⟩
              simp only [Nat.add_sub_cancel] at hpc
              have z1 : decide ((0 : Int) < (m + 1 : Nat)) = true := decide_eq_true (by omega)
              have z2 : ((m + 1 : Nat) : Int) - 1 = m := by omega
              have i3 : (m : Int) < l.length := by omega
              by_cases hl0 : last = 0
              · subst hl0
                have HD := Lib.hid (hfal.out (by rw [HG.out]; rfl))
                go_wp2_with fail
                go_ret
                exact ⟨ret_bool HD.out.symm, HFJ.out⟩
              by_cases hl4 : last = 4
              · subst hl4
                have HD := Lib.hid (hfal.out (by rw [HG.out]; rfl))
                go_wp2_with fail
                go_ret
                exact ⟨ret_bool HD.out.symm, HFJ.out⟩
              have y0 : (last == 0) = false := by simpa using hl0
              have y4 : (last == 4) = false := by simpa using hl4
              have HL := Lib.hid (And.intro hl0 hl4)
              clear hl0 hl4
              have HT2 := Lib.hid (show ∀ i, i < m + 1 + 1 → snd1 l i = true by
                intro i hi
                rcases Nat.lt_or_ge i (m + 1) with h | h
                · exact HT.out i h
                · obtain rfl : i = m + 1 := by omega
                  rw [HG.out]; simp [folB, HL.out.1, HL.out.2])
              go_wp2_with fail
              go_roundw
              case rel => exact ⟨m + 1 + 1, by omega, by go_num, HT2, HFJ.out⟩
              case measure => simp [intOf]; omega
      · have HBad := Lib.hid (show ∀ j, j < 3 → refOk s 0 j = false → R = false from fun j hj hr => hfal.out (by
          rw [HS.out, refOk_iff s 0 (by rw [hk5]; rfl) (by simp)]
          have : j = 0 ∨ j = 1 ∨ j = 2 := by omega
          rcases this with rfl | rfl | rfl <;> simp [hr]))
        have HGood := Lib.hid (show (∀ j, j < 3 → refOk s 0 j = true) → snd1 l k = folB 4 last from fun hr => by
          rw [HS.out, refOk_iff s 0 (by rw [hk5]; rfl) (by simp), hr 0 (by omega), hr 1 (by omega), hr 2 (by omega), hk5]; simp)
        have HK := Lib.hid hk5
        rw [hk5] at t0 s0 hw1
        clear hk5
        go_wp2_with fail
        clear s0 s1 s2 s3 s4 s5 s6 t0 t1 t2 t3 t4 t5 t6
        go_loopw [6] (fun q wr => ∃ j : Nat, j ≤ 3 ∧ q = .int .i64 j ∧ Hid (∀ i, i < j → refOk s 0 i = true) ∧ Hid (SgAt wr wo.heap.size 0 s) ∧ Hid (Fr Nob w wr)) (fun q _ => 3 - (intOf q).toNat)
        case atStart => exact ⟨0, by omega, rfl, fun j h => by omega, B1.out, HF1.out⟩
        case round =>
          obtain ⟨j, hj, rfl, HJ, HB, HFJ⟩ := hrel
          obtain ⟨t0, t1, t2, t3, t4, t5, t6⟩ := HB.out
          rw [HK.out] at t0
          have hj4 : j = 0 ∨ j = 1 ∨ j = 2 ∨ j = 3 := by omega
          rcases hj4 with rfl | rfl | rfl | rfl
          · cases hfp : fitP s.a with
            | false =>
              have HD := Lib.hid (HBad.out 0 (by omega) (by simp [refOk, pts, hfp]))
              have HFP := Lib.hid hfp
              clear hfp
              go_wp2_with fail
              refine (fitp_any s.a _).mono ?_
              rw [HFP.out]
              rintro e w2 ⟨rfl, hf2⟩
              have HF2 := Lib.hid (HFJ.out.trans0 hf2)
              clear hf2
              go_wp2_with fail
              go_ret
              exact ⟨ret_bool HD.out.symm, HF2.out⟩
            | true =>
              have HFP := Lib.hid hfp
              clear hfp
              by_cases hx : s.a.x = 0
              · by_cases hy : s.a.y = 0
                · have hz : s.a = oo := pt_oo hx hy
                  have bx : (s.a.x == 0) = true := by simp [hx]
                  have by' : (s.a.y == 0) = true := by simp [hy]
                  have bx2 : (s.a.x != 0) = false := by simp [hx]
                  have by2 : (s.a.y != 0) = false := by simp [hy]
                  have HZ := Lib.hid hz
                  clear hx hy hz
                  go_wp2_with fail
                  refine (fitp_any s.a _).mono ?_
                  rw [HFP.out]
                  rintro e w2 ⟨rfl, hf2⟩
                  have HF2 := Lib.hid (HFJ.out.trans0 hf2)
                  have HB2 := Lib.hid (HB.out.fr hf2 fun hh => hh)
                  clear t0 t1 t2 t3 t4 t5 t6
                  obtain ⟨t0, t1, t2, t3, t4, t5, t6⟩ := HB2.out
                  rw [HK.out] at t0
                  clear hf2
                  have HJ2 := Lib.hid (show ∀ i, i < 0 + 1 → refOk s 0 i = true from fun i hi => by
                    rcases Nat.lt_or_ge i 0 with h | h
                    · exact HJ.out i h
                    · obtain rfl : i = 0 := by omega
                      rw [refOk, show (pts s).getD 0 oo = s.a from rfl, HFP.out]; simp [HZ.out])
                  go_wp2_with fail
                  go_roundw
                  case rel => exact ⟨0 + 1, by omega, rfl, HJ2, HB2.out, HF2.out⟩
                  case measure => simp [intOf]
                · have hz : s.a ≠ oo := fun h => hy (by rw [h]; rfl)
                  have bx : (s.a.x == 0) = true := by simp [hx]
                  have by' : (s.a.y == 0) = false := by simpa using hy
                  have bx2 : (s.a.x != 0) = false := by simp [hx]
                  have by2 : (s.a.y != 0) = true := by simpa using hy
                  have HZ := Lib.hid hz
                  clear hx hy hz
                  go_wp2_with fail
                  refine (fitp_any s.a _).mono ?_
                  rw [HFP.out]
                  rintro e w2 ⟨rfl, hf2⟩
                  have HF2 := Lib.hid (HFJ.out.trans0 hf2)
                  have HB2 := Lib.hid (HB.out.fr hf2 fun hh => hh)
                  clear t0 t1 t2 t3 t4 t5 t6
                  obtain ⟨t0, t1, t2, t3, t4, t5, t6⟩ := HB2.out
                  rw [HK.out] at t0
                  clear hf2
                  have HD := Lib.hid (HBad.out 0 (by omega) (by simp [refOk, pts, HFP.out]; exact HZ.out))
                  go_wp2_with fail
                  go_ret
                  exact ⟨ret_bool HD.out.symm, HF2.out⟩
              · have hz : s.a ≠ oo := fun h => hx (by rw [h]; rfl)
                have bx : (s.a.x == 0) = false := by simpa using hx
                have bx2 : (s.a.x != 0) = true := by simpa using hx
                have HZ := Lib.hid hz
                clear hx hz
                go_wp2_with fail
                refine (fitp_any s.a _).mono ?_
                rw [HFP.out]
                rintro e w2 ⟨rfl, hf2⟩
                have HF2 := Lib.hid (HFJ.out.trans0 hf2)
                have HB2 := Lib.hid (HB.out.fr hf2 fun hh => hh)
                clear t0 t1 t2 t3 t4 t5 t6
                obtain ⟨t0, t1, t2, t3, t4, t5, t6⟩ := HB2.out
                rw [HK.out] at t0
                clear hf2
                have HD := Lib.hid (HBad.out 0 (by omega) (by simp [refOk, pts, HFP.out]; exact HZ.out))
                go_wp2_with fail
                go_ret
                exact ⟨ret_bool HD.out.symm, HF2.out⟩
          · cases hfp : fitP s.b with
            | false =>
              have HD := Lib.hid (HBad.out 1 (by omega) (by simp [refOk, pts, hfp]))
              have HFP := Lib.hid hfp
              clear hfp
              go_wp2_with fail
              refine (fitp_any s.b _).mono ?_
              rw [HFP.out]
              rintro e w2 ⟨rfl, hf2⟩
              have HF2 := Lib.hid (HFJ.out.trans0 hf2)
              clear hf2
              go_wp2_with fail
              go_ret
              exact ⟨ret_bool HD.out.symm, HF2.out⟩
            | true =>
              have HFP := Lib.hid hfp
              clear hfp
              by_cases hx : s.b.x = 0
              · by_cases hy : s.b.y = 0
                · have hz : s.b = oo := pt_oo hx hy
                  have bx : (s.b.x == 0) = true := by simp [hx]
                  have by' : (s.b.y == 0) = true := by simp [hy]
                  have bx2 : (s.b.x != 0) = false := by simp [hx]
                  have by2 : (s.b.y != 0) = false := by simp [hy]
                  have HZ := Lib.hid hz
                  clear hx hy hz
                  go_wp2_with fail
                  refine (fitp_any s.b _).mono ?_
                  rw [HFP.out]
                  rintro e w2 ⟨rfl, hf2⟩
                  have HF2 := Lib.hid (HFJ.out.trans0 hf2)
                  have HB2 := Lib.hid (HB.out.fr hf2 fun hh => hh)
                  clear t0 t1 t2 t3 t4 t5 t6
                  obtain ⟨t0, t1, t2, t3, t4, t5, t6⟩ := HB2.out
                  rw [HK.out] at t0
                  clear hf2
                  have HJ2 := Lib.hid (show ∀ i, i < 1 + 1 → refOk s 0 i = true from fun i hi => by
                    rcases Nat.lt_or_ge i 1 with h | h
                    · exact HJ.out i h
                    · obtain rfl : i = 1 := by omega
                      rw [refOk, show (pts s).getD 1 oo = s.b from rfl, HFP.out]; simp [HZ.out])
                  go_wp2_with fail
                  go_roundw
                  case rel => exact ⟨1 + 1, by omega, rfl, HJ2, HB2.out, HF2.out⟩
                  case measure => simp [intOf]
                · have hz : s.b ≠ oo := fun h => hy (by rw [h]; rfl)
                  have bx : (s.b.x == 0) = true := by simp [hx]
                  have by' : (s.b.y == 0) = false := by simpa using hy
                  have bx2 : (s.b.x != 0) = false := by simp [hx]
                  have by2 : (s.b.y != 0) = true := by simpa using hy
                  have HZ := Lib.hid hz
                  clear hx hy hz
                  go_wp2_with fail
                  refine (fitp_any s.b _).mono ?_
                  rw [HFP.out]
                  rintro e w2 ⟨rfl, hf2⟩
                  have HF2 := Lib.hid (HFJ.out.trans0 hf2)
                  have HB2 := Lib.hid (HB.out.fr hf2 fun hh => hh)
                  clear t0 t1 t2 t3 t4 t5 t6
                  obtain ⟨t0, t1, t2, t3, t4, t5, t6⟩ := HB2.out
                  rw [HK.out] at t0
                  clear hf2
                  have HD := Lib.hid (HBad.out 1 (by omega) (by simp [refOk, pts, HFP.out]; exact HZ.out))
                  go_wp2_with fail
                  go_ret
                  exact ⟨ret_bool HD.out.symm, HF2.out⟩
              · have hz : s.b ≠ oo := fun h => hx (by rw [h]; rfl)
                have bx : (s.b.x == 0) = false := by simpa using hx
                have bx2 : (s.b.x != 0) = true := by simpa using hx
                have HZ := Lib.hid hz
                clear hx hz
                go_wp2_with fail
                refine (fitp_any s.b _).mono ?_
                rw [HFP.out]
                rintro e w2 ⟨rfl, hf2⟩
                have HF2 := Lib.hid (HFJ.out.trans0 hf2)
                have HB2 := Lib.hid (HB.out.fr hf2 fun hh => hh)
                clear t0 t1 t2 t3 t4 t5 t6
                obtain ⟨t0, t1, t2, t3, t4, t5, t6⟩ := HB2.out
                rw [HK.out] at t0
                clear hf2
                have HD := Lib.hid (HBad.out 1 (by omega) (by simp [refOk, pts, HFP.out]; exact HZ.out))
                go_wp2_with fail
                go_ret
                exact ⟨ret_bool HD.out.symm, HF2.out⟩
          · cases hfp : fitP s.c with
            | false =>
              have HD := Lib.hid (HBad.out 2 (by omega) (by simp [refOk, pts, hfp]))
              have HFP := Lib.hid hfp
              clear hfp
              go_wp2_with fail
              refine (fitp_any s.c _).mono ?_
              rw [HFP.out]
              rintro e w2 ⟨rfl, hf2⟩
              have HF2 := Lib.hid (HFJ.out.trans0 hf2)
              clear hf2
              go_wp2_with fail
              go_ret
              exact ⟨ret_bool HD.out.symm, HF2.out⟩
            | true =>
              have HFP := Lib.hid hfp
              clear hfp
              by_cases hx : s.c.x = 0
              · by_cases hy : s.c.y = 0
                · have hz : s.c = oo := pt_oo hx hy
                  have bx : (s.c.x == 0) = true := by simp [hx]
                  have by' : (s.c.y == 0) = true := by simp [hy]
                  have bx2 : (s.c.x != 0) = false := by simp [hx]
                  have by2 : (s.c.y != 0) = false := by simp [hy]
                  have HZ := Lib.hid hz
                  clear hx hy hz
                  go_wp2_with fail
                  refine (fitp_any s.c _).mono ?_
                  rw [HFP.out]
                  rintro e w2 ⟨rfl, hf2⟩
                  have HF2 := Lib.hid (HFJ.out.trans0 hf2)
                  have HB2 := Lib.hid (HB.out.fr hf2 fun hh => hh)
                  clear t0 t1 t2 t3 t4 t5 t6
                  obtain ⟨t0, t1, t2, t3, t4, t5, t6⟩ := HB2.out
                  rw [HK.out] at t0
                  clear hf2
                  have HJ2 := Lib.hid (show ∀ i, i < 2 + 1 → refOk s 0 i = true from fun i hi => by
                    rcases Nat.lt_or_ge i 2 with h | h
                    · exact HJ.out i h
                    · obtain rfl : i = 2 := by omega
                      rw [refOk, show (pts s).getD 2 oo = s.c from rfl, HFP.out]; simp [HZ.out])
                  go_wp2_with fail
                  go_roundw
                  case rel => exact ⟨2 + 1, by omega, rfl, HJ2, HB2.out, HF2.out⟩
                  case measure => simp [intOf]
                · have hz : s.c ≠ oo := fun h => hy (by rw [h]; rfl)
                  have bx : (s.c.x == 0) = true := by simp [hx]
                  have by' : (s.c.y == 0) = false := by simpa using hy
                  have bx2 : (s.c.x != 0) = false := by simp [hx]
                  have by2 : (s.c.y != 0) = true := by simpa using hy
                  have HZ := Lib.hid hz
                  clear hx hy hz
                  go_wp2_with fail
                  refine (fitp_any s.c _).mono ?_
                  rw [HFP.out]
                  rintro e w2 ⟨rfl, hf2⟩
                  have HF2 := Lib.hid (HFJ.out.trans0 hf2)
                  have HB2 := Lib.hid (HB.out.fr hf2 fun hh => hh)
                  clear t0 t1 t2 t3 t4 t5 t6
                  obtain ⟨t0, t1, t2, t3, t4, t5, t6⟩ := HB2.out
                  rw [HK.out] at t0
                  clear hf2
                  have HD := Lib.hid (HBad.out 2 (by omega) (by simp [refOk, pts, HFP.out]; exact HZ.out))
                  go_wp2_with fail
                  go_ret
                  exact ⟨ret_bool HD.out.symm, HF2.out⟩
              · have hz : s.c ≠ oo := fun h => hx (by rw [h]; rfl)
                have bx : (s.c.x == 0) = false := by simpa using hx
                have bx2 : (s.c.x != 0) = true := by simpa using hx
                have HZ := Lib.hid hz
                clear hx hz
                go_wp2_with fail
                refine (fitp_any s.c _).mono ?_
                rw [HFP.out]
                rintro e w2 ⟨rfl, hf2⟩
                have HF2 := Lib.hid (HFJ.out.trans0 hf2)
                have HB2 := Lib.hid (HB.out.fr hf2 fun hh => hh)
                clear t0 t1 t2 t3 t4 t5 t6
                obtain ⟨t0, t1, t2, t3, t4, t5, t6⟩ := HB2.out
                rw [HK.out] at t0
                clear hf2
                have HD := Lib.hid (HBad.out 2 (by omega) (by simp [refOk, pts, HFP.out]; exact HZ.out))
                go_wp2_with fail
                go_ret
                exact ⟨ret_bool HD.out.symm, HF2.out⟩
          · have HG := Lib.hid (HGood.out fun i hi => HJ.out i hi)
            by_cases hk0 : k = 0
            · have hl0 := hpz.out hk0
              subst hl0
              have z0 : ((k : Int)) = 0 := by omega
              have z1 : decide ((0 : Int) < k) = false := decide_eq_false (by omega)
              have HD := Lib.hid (hfal.out (by rw [HG.out]; rfl))
              go_wp2_with fail
              go_ret
              exact ⟨ret_bool HD.out.symm, HFJ.out⟩
            · have hpc := hpv.out _ HFJ.out (by omega)
              obtain ⟨m, rfl⟩ : ∃ m, k = m + 1 := ⟨k - 1, by omega⟩
              simp only [Nat.add_sub_cancel] at hpc
              have z1 : decide ((0 : Int) < (m + 1 : Nat)) = true := decide_eq_true (by omega)
              have z2 : ((m + 1 : Nat) : Int) - 1 = m := by omega
              have i3 : (m : Int) < l.length := by omega
              by_cases hl0 : last = 0
              · subst hl0
                have HD := Lib.hid (hfal.out (by rw [HG.out]; rfl))
                go_wp2_with fail
                go_ret
                exact ⟨ret_bool HD.out.symm, HFJ.out⟩
              by_cases hl4 : last = 4
              · subst hl4
                have HD := Lib.hid (hfal.out (by rw [HG.out]; rfl))
                go_wp2_with fail
                go_ret
                exact ⟨ret_bool HD.out.symm, HFJ.out⟩
              have y0 : (last == 0) = false := by simpa using hl0
              have y4 : (last == 4) = false := by simpa using hl4
              have HL := Lib.hid (And.intro hl0 hl4)
              clear hl0 hl4
              have HT2 := Lib.hid (show ∀ i, i < m + 1 + 1 → snd1 l i = true by
                intro i hi
                rcases Nat.lt_or_ge i (m + 1) with h | h
                · exact HT.out i h
                · obtain rfl : i = m + 1 := by omega
                  rw [HG.out]; simp [folB, HL.out.1, HL.out.2])
              go_wp2_with fail
              go_roundw
              case rel => exact ⟨m + 1 + 1, by omega, by go_num, HT2, HFJ.out⟩
              case measure => simp [intOf]; omega
      · have HD := Lib.hid (hfal.out (by
          rw [HS.out]
          have : ptsK s.kind = -1 := by obtain ⟨a1, a2, a3, a4⟩ := hk5; simp [ptsK, a1, a2, a3, a4]
          simp [sgOk, this]))
        have y1 : (s.kind == 1) = false := by simpa using hk5.1
        have y2 : (s.kind == 2) = false := by simpa using hk5.2.1
        have y3 : (s.kind == 3) = false := by simpa using hk5.2.2.1
        have y4 : (s.kind == 4) = false := by simpa using hk5.2.2.2
        clear hk5
        go_wp2_with fail
        go_ret
        exact ⟨ret_bool HD.out.symm, HF1.out⟩
    · have HD := Lib.hid (show R = true by
        rw [← HR.out]; simp only [decide_eq_true_eq]
        exact ⟨by omega, fun j hj => HT.out j (by omega)⟩)
      clear HR
      have hge : l.length ≤ k := by omega
      go_wp2
      go_ret
      exact ⟨ret_bool HD.out.symm, HF.out⟩
end Go.Proofs.Ytkkejjfmidgciaa
