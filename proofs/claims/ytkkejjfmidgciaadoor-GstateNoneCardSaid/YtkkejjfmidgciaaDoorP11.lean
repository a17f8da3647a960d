/-
  The walk of path.Sound.
-/
import Derived.Test.YtkkejjfmidgciaaDoorP10
import Derived.Test.YtkkejjfmidgciaaDoorP9
namespace Go.Proofs.YtkkejjfmidgciaaDoor
open Go.RowKit
set_option linter.unusedVariables false
set_option linter.unusedSimpArgs false
def sgZ : Sg := ⟨0, oo, oo, oo⟩
def pts (s : Sg) : List Pt := [s.a, s.b, s.c]
def someP (l : List Pt) : Bool := l.any fun p => !decide (p = oo)
def sgOk (s : Sg) : Bool := decide (0 ≤ ptsK s.kind) && ((pts s).all fitP && !someP ((pts s).drop (ptsK s.kind).toNat))
def prevK (l : List Sg) (k : Nat) : Int := if k = 0 then 0 else (l.getD (k - 1) sgZ).kind
def snd1 (l : List Sg) (k : Nat) : Bool := folB (l.getD k sgZ).kind (prevK l k) && sgOk (l.getD k sgZ)
def SoundP (l : List Sg) : Prop := l.length ≤ 4096 ∧ ∀ k, k < l.length → snd1 l k = true
instance (l : List Sg) : Decidable (SoundP l) := by unfold SoundP; infer_instance
theorem ptsK_cases (k : Int) : ptsK k = -1 ∨ ptsK k = 0 ∨ ptsK k = 1 ∨ ptsK k = 3 := by
  unfold ptsK; split
  · simp
  split
  · simp
  split <;> simp
theorem getD_at {l : List Sg} {k : Nat} (h : k < l.length) : l.getD k sgZ = l[k] := by simp [List.getD_eq_getElem?_getD, h]
theorem prevK_succ {l : List Sg} {k : Nat} (h : k < l.length) : prevK l (k + 1) = l[k].kind := by simp [prevK, h]
theorem sound_false {l : List Sg} {k : Nat} (h : k < l.length) (hs : snd1 l k = false) : decide (SoundP l) = false := by
  simp only [decide_eq_false_iff_not]
  intro hp
  have := hp.2 k h
  rw [hs] at this
  cases this
theorem sgRow {w : World} {g : Nat} {s : Sg} (h : SgAt w g 0 s) : RowIn w (fun k => k = g) 2 (.slice (some ⟨g, 1, none⟩) 3 3) 3 (encPs (pts s)) := by
  refine ⟨rfl, some ⟨g, 1, none⟩, 3, rfl, by omega, by decide, (fun h => by cases h), fun j u hu => ⟨g, 1, rfl, rfl, ?_⟩⟩
  obtain ⟨c0, c1, c2, c3, c4, c5, c6⟩ := h
  match j, hu with
  | 0, hu => cases hu; exact c1
  | 1, hu => cases hu; exact c2
  | 2, hu => cases hu; exact c3
  | 3, hu => cases hu; exact c4
  | 4, hu => cases hu; exact c5
  | 5, hu => cases hu; exact c6
  | (j + 6), hu => simp [encPs, encP, pts] at hu
theorem sgRow1 {w : World} {g : Nat} {s : Sg} (h : SgAt w g 0 s) : RowIn w (fun k => k = g) 2 (.slice (some ⟨g, 3, none⟩) 2 2) 2 (encPs ((pts s).drop 1)) := by
  refine ⟨rfl, some ⟨g, 3, none⟩, 2, rfl, by omega, by decide, (fun h => by cases h), fun j u hu => ⟨g, 3, rfl, rfl, ?_⟩⟩
  obtain ⟨c0, c1, c2, c3, c4, c5, c6⟩ := h
  match j, hu with
  | 0, hu => cases hu; exact c3
  | 1, hu => cases hu; exact c4
  | 2, hu => cases hu; exact c5
  | 3, hu => cases hu; exact c6
  | (j + 4), hu => simp [encPs, encP, pts] at hu
theorem sgRow3 {w : World} (a : Option Addr) (ha : ∃ b o, a = some ⟨b, o, none⟩) : RowIn w (fun _ => True) 2 (.slice a 0 0) 0 (encPs []) :=
  ⟨rfl, a, 0, rfl, by omega, by decide, (fun _ => rfl), fun j u hu => by simp [encPs] at hu⟩

set_option maxHeartbeats 4000000 in
theorem sound_any (v : Value) (l : List Sg) (S : Nat → Prop) (w : World) (h : RowIn w S 7 v l.length (encSs l)) :
    Calls Tryd.prog 98 #[v] w fun e w' => e = .returned (.bool (decide (SoundP l))) ∧ Fr Nob w w' := by
  have hlen := h.len_le
  by_cases hb : 4096 < l.length
  · rw [show decide (SoundP l) = false from decide_eq_false fun h => by have := h.1; omega]
    obtain ⟨_, A, c, rfl, _⟩ := h
    have i1 : (4096 : Int) < l.length := by omega
    go_enter Tryd.func98, Tryd.ntmps98
    go_wp2
    go_ret
    exact ⟨rfl, Fr.refl _ _⟩
  have i1 : ¬ (4096 : Int) < l.length := by omega
  by_cases h0 : l.length = 0
  · obtain rfl : l = [] := List.length_eq_zero_iff.1 h0
    obtain ⟨_, A, c, rfl, _⟩ := h
    rw [show decide (SoundP []) = true from rfl]
    go_enter Tryd.func98, Tryd.ntmps98
    go_wp2
    go_loopw [12] (fun q wr => q = .int .i64 0 ∧ wr = w) (fun _ _ => 0)
    case atStart => exact ⟨rfl, rfl⟩
    case round =>
      obtain ⟨rfl, rfl⟩ := hrel
      go_wp2
      go_ret
      exact ⟨rfl, Fr.refl _ _⟩
  obtain ⟨b, off, cap, rfl, h1, h2, _, hA⟩ := h.sg (by omega)
  have HA := Lib.hid hA
  clear h hA
  obtain ⟨R, hR⟩ : ∃ R, decide (SoundP l) = R := ⟨_, rfl⟩
  rw [hR]
  have HR := Lib.hid hR
  clear hR
  go_enter Tryd.func98, Tryd.ntmps98
  go_wp2
  go_loopw [3, 12] (fun s q wr => ∃ k : Nat, k ≤ l.length ∧ q = .int .i64 k ∧ s = .int .i64 (prevK l k) ∧ Hid (∀ j, j < k → snd1 l j = true) ∧ Hid (Fr Nob w wr)) (fun _ q _ => l.length - (intOf q).toNat)
  case atStart => exact ⟨0, by omega, rfl, rfl, fun j h => by omega, Fr.refl _ _⟩
  case round =>
    obtain ⟨k, hk, rfl, rfl, HT, HF⟩ := hrel
    by_cases hlt : k < l.length
    · have hc := (HA.out k hlt).fr HF.out fun hh => hh
      have hpk := Lib.hid (prevK_succ hlt)
      have hfal := Lib.hid (fun h => sound_false (l := l) hlt h)
      have hs1 : snd1 l k = (folB l[k].kind (prevK l k) && sgOk l[k]) := by unfold snd1; rw [getD_at hlt]
      have HS := Lib.hid hs1
      clear hs1
      generalize l[k] = s at *
      have i2 : (k : Int) < l.length := by omega
      obtain ⟨s0, s1, s2, s3, s4, s5, s6⟩ := hc
      obtain ⟨w1, hw1⟩ : ∃ w1, wr.alloc (.cells (encS s).toArray 91) = w1 := ⟨_, rfl⟩
      have hf1 : Fr Nob wr w1 := by rw [← hw1]; exact (Fr.refl Nob wr).alloc _
      have hb1 : Blk w1 wr.heap.size (encS s).toArray 91 := by rw [← hw1]; exact Blk.new wr _ _
      simp only [encS] at hw1
      obtain ⟨t0, t1, t2, t3, t4, t5, t6⟩ := SgAt.own hb1
      have B1 := Lib.hid (SgAt.own hb1)
      have HF1 := Lib.hid (HF.out.trans0 hf1)
      clear hf1 hb1
      generalize hn : ptsK s.kind = n at *
      have hn4 : n = -1 ∨ n = 0 ∨ n = 1 ∨ n = 3 := hn ▸ ptsK_cases s.kind
      have HN := Lib.hid hn
      have pt := points_any s.kind w1
      rw [hn] at pt
      have HP := Lib.hid pt
      clear hn pt
      generalize hq : folB s.kind (prevK l k) = fq at *
      have fo := follows_any s.kind (prevK l k)
      rw [hq] at fo
      have HFO := Lib.hid fo
      clear hq fo
      go_wp2_with fail
      refine HP.out.mono ?_
      rintro e w2 ⟨rfl, rfl⟩
      by_cases hneg : n = -1
      · subst hneg
        have HD := Lib.hid (show false = R by rw [← HR.out]; exact (hfal.out (by rw [HS.out]; simp [sgOk, HN.out])).symm)
        clear HR
        go_wp2_with fail
        go_ret
        exact ⟨ret_bool HD.out, HF1.out⟩
      have hn3 : n = 0 ∨ n = 1 ∨ n = 3 := by omega
      have hn0 : ¬ n < 0 := by omega
      have dn : decide (n < 0) = false := by simpa using hn0
      have dn2 : decide (0 ≤ n) = true := by simp; omega
      have HS2 := Lib.hid (show snd1 l k = (fq && ((pts s).all fitP && !someP ((pts s).drop n.toNat))) by rw [HS.out]; simp [sgOk, HN.out, dn2])
      clear hneg hn0 dn2 HS
      cases fq with
      | false =>
        have HD := Lib.hid (show false = R by rw [← HR.out]; exact (hfal.out (by rw [HS2.out]; rfl)).symm)
        clear HR
        go_wp2_with fail
        refine (HFO.out _).mono ?_
        rintro e w2 ⟨rfl, rfl⟩
        go_wp2_with fail
        go_ret
        exact ⟨ret_bool HD.out, HF1.out⟩
      | true =>
        cases hft : (pts s).all fitP with
        | false =>
          have HD := Lib.hid (show false = R by rw [← HR.out]; exact (hfal.out (by rw [HS2.out, hft]; rfl)).symm)
          have HFT := Lib.hid hft
          clear HR hft
          go_wp2_with fail
          refine (HFO.out _).mono ?_
          rintro e w2 ⟨rfl, rfl⟩
          go_wp2_with fail
          refine (fits_any _ (pts s) _ _ (sgRow B1.out)).mono ?_
          rw [HFT.out]
          rintro e w2 ⟨rfl, hf2⟩
          have HF2 := Lib.hid (HF1.out.trans0 hf2)
          clear hf2
          go_wp2_with fail
          go_ret
          exact ⟨ret_bool HD.out, HF2.out⟩
        | true =>
          have HFT := Lib.hid hft
          obtain ⟨sp, hsp⟩ : ∃ sp, someP ((pts s).drop n.toNat) = sp := ⟨_, rfl⟩
          have HSP := Lib.hid hsp
          have HS3 := Lib.hid (show snd1 l k = !sp by rw [HS2.out, hft, hsp]; rfl)
          clear hft hsp
          rcases hn3 with rfl | rfl | rfl
          · go_wp2_with fail
            refine (HFO.out _).mono ?_
            rintro e w2 ⟨rfl, rfl⟩
            go_wp2_with fail
            refine (fits_any _ (pts s) _ _ (sgRow B1.out)).mono ?_
            rw [HFT.out]
            rintro e w2 ⟨rfl, hf2⟩
            have HF2 := Lib.hid (HF1.out.trans0 hf2)
            have HB2 := Lib.hid (B1.out.fr hf2 fun hh => hh)
            have hk2 := HB2.out.c0
            clear hf2
            go_wp2_with fail
            refine (contains_any 129 _ (.inr rfl) asks_some _ (pts s) _ _ (sgRow HB2.out)).mono ?_
            rw [show (pts s).any (fun p => !decide (p = oo)) = sp from HSP.out]
            cases sp with
            | false =>
              rintro e w3 ⟨rfl, hf3⟩
              have HF3 := Lib.hid (HF2.out.trans0 hf3)
              have hk3 := (HB2.out.fr hf3 fun hh => hh).c0
              have HT2 := Lib.hid (show ∀ j, j < k + 1 → snd1 l j = true by
                intro j hj
                rcases Nat.lt_or_ge j k with h | h
                · exact HT.out j h
                · obtain rfl : j = k := by omega
                  rw [HS3.out]; rfl)
              clear hf3 hk2
              go_wp2_with fail
              go_roundw
              case rel => exact ⟨k + 1, by omega, by go_num, by rw [hpk.out], HT2, HF3⟩
              case measure => simp [intOf]; omega
            | true =>
              rintro e w3 ⟨rfl, hf3⟩
              have HF3 := Lib.hid (HF2.out.trans0 hf3)
              have HD := Lib.hid (show false = R by rw [← HR.out]; exact (hfal.out (by rw [HS3.out]; rfl)).symm)
              clear hf3 hk2 HR
              go_wp2_with fail
              go_ret
              exact ⟨ret_bool HD.out, HF3.out⟩
          · go_wp2_with fail
            refine (HFO.out _).mono ?_
            rintro e w2 ⟨rfl, rfl⟩
            go_wp2_with fail
            refine (fits_any _ (pts s) _ _ (sgRow B1.out)).mono ?_
            rw [HFT.out]
            rintro e w2 ⟨rfl, hf2⟩
            have HF2 := Lib.hid (HF1.out.trans0 hf2)
            have HB2 := Lib.hid (B1.out.fr hf2 fun hh => hh)
            have hk2 := HB2.out.c0
            clear hf2
            go_wp2_with fail
            refine (contains_any 129 _ (.inr rfl) asks_some _ ((pts s).drop 1) _ _ (sgRow1 HB2.out)).mono ?_
            rw [show ((pts s).drop 1).any (fun p => !decide (p = oo)) = sp from HSP.out]
            cases sp with
            | false =>
              rintro e w3 ⟨rfl, hf3⟩
              have HF3 := Lib.hid (HF2.out.trans0 hf3)
              have hk3 := (HB2.out.fr hf3 fun hh => hh).c0
              have HT2 := Lib.hid (show ∀ j, j < k + 1 → snd1 l j = true by
                intro j hj
                rcases Nat.lt_or_ge j k with h | h
                · exact HT.out j h
                · obtain rfl : j = k := by omega
                  rw [HS3.out]; rfl)
              clear hf3 hk2
              go_wp2_with fail
              go_roundw
              case rel => exact ⟨k + 1, by omega, by go_num, by rw [hpk.out], HT2, HF3⟩
              case measure => simp [intOf]; omega
            | true =>
              rintro e w3 ⟨rfl, hf3⟩
              have HF3 := Lib.hid (HF2.out.trans0 hf3)
              have HD := Lib.hid (show false = R by rw [← HR.out]; exact (hfal.out (by rw [HS3.out]; rfl)).symm)
              clear hf3 hk2 HR
              go_wp2_with fail
              go_ret
              exact ⟨ret_bool HD.out, HF3.out⟩
          · go_wp2_with fail
            refine (HFO.out _).mono ?_
            rintro e w2 ⟨rfl, rfl⟩
            go_wp2_with fail
            refine (fits_any _ (pts s) _ _ (sgRow B1.out)).mono ?_
            rw [HFT.out]
            rintro e w2 ⟨rfl, hf2⟩
            have HF2 := Lib.hid (HF1.out.trans0 hf2)
            have HB2 := Lib.hid (B1.out.fr hf2 fun hh => hh)
            have hk2 := HB2.out.c0
            clear hf2
            go_wp2_with fail
            refine (contains_any 129 _ (.inr rfl) asks_some _ ([] : List Pt) _ _ (sgRow3 (some ⟨wr.heap.size, 1, none⟩) ⟨_, _, rfl⟩)).mono ?_
            rw [show ([] : List Pt).any (fun p => !decide (p = oo)) = sp from HSP.out]
            cases sp with
            | false =>
              rintro e w3 ⟨rfl, hf3⟩
              have HF3 := Lib.hid (HF2.out.trans0 hf3)
              have hk3 := (HB2.out.fr hf3 fun hh => hh).c0
              have HT2 := Lib.hid (show ∀ j, j < k + 1 → snd1 l j = true by
                intro j hj
                rcases Nat.lt_or_ge j k with h | h
                · exact HT.out j h
                · obtain rfl : j = k := by omega
                  rw [HS3.out]; rfl)
              clear hf3 hk2
              go_wp2_with fail
              go_roundw
              case rel => exact ⟨k + 1, by omega, by go_num, by rw [hpk.out], HT2, HF3⟩
              case measure => simp [intOf]; omega
            | true =>
              rintro e w3 ⟨rfl, hf3⟩
              have HF3 := Lib.hid (HF2.out.trans0 hf3)
              have HD := Lib.hid (show false = R by rw [← HR.out]; exact (hfal.out (by rw [HS3.out]; rfl)).symm)
              clear hf3 hk2 HR
              go_wp2_with fail
              go_ret
              exact ⟨ret_bool HD.out, HF3.out⟩
    · have HD := Lib.hid (show R = true by
        rw [← HR.out]; simp only [decide_eq_true_eq]
        exact ⟨by omega, fun j hj => HT.out j (by omega)⟩)
      clear HR
      have hge : l.length ≤ k := by omega
      go_wp2
      go_ret
      exact ⟨ret_bool HD.out.symm, HF.out⟩
end Go.Proofs.YtkkejjfmidgciaaDoor
