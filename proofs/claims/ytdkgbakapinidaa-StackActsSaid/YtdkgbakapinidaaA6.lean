/-
  StackActs: the cases of its switch: Roll.
-/
import Derived.Test.YtdkgbakapinidaaA5
namespace Go.Proofs.Ytdkgbakapinidaa
open Go.RowKit
set_option linter.unusedVariables false
set_option linter.unusedSimpArgs false
set_option maxRecDepth 100000
set_option maxHeartbeats 4000000 in
theorem sw_roll (w wb : World) (g ga : Nat) (v : Value) (S : Nat → Prop) (km : Int) (B : Nat) (Am : Option Addr) (cm : Nat) (l : List Ob) (av kv : Value) (n j : Int) (Al : Option Addr) (cl : Nat) (al : List Ob) (Ak : Option Addr) (ck : Nat) (ks : List Int) (u : Nat → Value)
    (h : Sw w wb g ga v S km B Am cm l 6 n j Al cl al Ak ck ks) :
    swCode.wp Try.prog (Exit.then (ActsQ w g km (B + 100) av kv) NoQ) (FR (.int .i64 km) av (.int .i64 12) (.int .i64 13) (.pointer (some ⟨g, 0, none⟩)) (.slice Am l.length cm) kv (.pointer (some ⟨ga, 0, none⟩)) (.int .i64 l.length) (.int .i64 0) (.int .i64 0) (.slice none 0 0) (.slice none 0 0) (.int .i64 6) u) wb := by
  obtain ⟨i0, hi, hz0, hz1, hz2⟩ := info_parts info37
  replace hi := Lib.hid hi
  replace hz0 := Lib.hid hz0
  replace hz1 := Lib.hid hz1
  replace hz2 := Lib.hid hz2
  have b0 : wb.cell? ⟨ga, 0, none⟩ = some (.int .i64 6) := h.x.cell 0
  have b1 : wb.cell? ⟨ga, 1, none⟩ = some (.int .i64 n) := h.x.cell 1
  have b2 : wb.cell? ⟨ga, 2, none⟩ = some (.int .i64 j) := h.x.cell 2
  have b3 : wb.cell? ⟨ga, 3, none⟩ = some (.slice Al al.length cl) := h.x.cell 3
  have b4 : wb.cell? ⟨ga, 4, none⟩ = some (.slice Ak ks.length ck) := h.x.cell 4
  have z1 := h.k0.1
  have z2 := h.k0.2
  have z3 := h.al
  have z4 := h.ks
  have z5 := h.hl
  have z6 := h.b
  have HH := Lib.hid h
  clear h
  conv => arg 2; whnf
  unfold FR
  by_cases hn0 : n < 0
  · have C0 := Lib.hid (show chkF n l.length 13 = 11 by unfold chkF; rw [if_pos hn0])
    go_wp2_with fail
    refine (roll_err g v km 12 13 l n j 11 C0.out (by decide) _ HH.out.s.s).mono ?_
    rintro e w2 ⟨rfl, rfl⟩
    go_wp2_with fail
    refine ActsQ.mk rfl rfl rfl rfl rfl rfl rfl rfl ?_
    exact ActsP.none HH.out.s (by omega)
  by_cases hn1 : (l.length : Int) < n
  · have C0 := Lib.hid (show chkF n l.length 13 = 13 by unfold chkF; rw [if_neg hn0, if_pos (by omega)])
    go_wp2_with fail
    refine (roll_err g v km 12 13 l n j 13 C0.out (by decide) _ HH.out.s.s).mono ?_
    rintro e w2 ⟨rfl, rfl⟩
    go_wp2_with fail
    refine ActsQ.mk rfl rfl rfl rfl rfl rfl rfl rfl ?_
    exact ActsP.none HH.out.s (by omega)
  obtain ⟨q, hq⟩ : ∃ q : Nat, n = q := ⟨n.toNat, by omega⟩
  subst hq
  rcases Nat.eq_zero_or_pos q with hq0 | hq0
  · subst hq0
    have i0' : ¬ (0 : Int) < ((0 : Nat) : Int) := by omega
    have i1' : ¬ (l.length : Int) < ((0 : Nat) : Int) := by omega
    have b1' : wb.cell? ⟨ga, 1, none⟩ = some (.int .i64 0) := b1
    clear b1
    go_wp2_with fail
    refine (roll_zero g v km 12 13 l j _ HH.out.s.s).mono ?_
    rintro e w2 ⟨rfl, rfl⟩
    go_wp2_with fail
    refine ActsQ.mk rfl rfl rfl rfl rfl rfl rfl rfl ?_
    exact ActsP.none HH.out.s (by omega)
  obtain ⟨c, hc⟩ : ∃ c, c + q = l.length := ⟨l.length - q, by omega⟩
  have HJ := Lib.hid HH.out.j
  have t1 := Int.tmod_lt_of_pos j (show (0 : Int) < q by omega)
  have t2 := Int.lt_tmod_of_pos j (show (0 : Int) < q by omega)
  have hJq := rollK_lt q j hq0
  have hrk := rollK_eq q j hq0
  have HRK := Lib.hid hrk
  obtain ⟨J, hJ⟩ : ∃ J, rollK q j = J := ⟨_, rfl⟩
  have hway : (j.tmod q < 0 ∧ j.tmod q + q = J) ∨ (j.tmod q = J) := by
    rw [hJ] at hrk
    by_cases hneg : j.tmod q < 0
    · left
      refine ⟨hneg, ?_⟩
      rw [← hrk, Int.emod_eq_of_lt (by omega) (by omega)]
    · right
      rw [← hrk, Int.add_emod_right, Int.emod_eq_of_lt (by omega) (by omega)]
  rw [hJ] at hJq
  have HJJ := Lib.hid hJ
  have HC := Lib.hid hc
  have iq : (0 : Int) < q := by omega
  have iz : ¬ (q : Int) = 0 := by omega
  have iz2 : ((q : Int) == 0) = false := by simp; omega
  clear hrk hJ
  go_wp2_with fail
  refine (roll_in g v km 12 13 l q j (by omega) hq0 HJ.out wb HH.out.s.s (by omega)).mono ?_
  rw [HJJ.out]
  rintro e w2 ⟨rfl, hto⟩
  obtain ⟨v3, hs3, hv3, hf3, hm3, hst3, hT3⟩ := HH.out.s.step hto
  have HS3 := Lib.hid hs3
  have HV3 := Lib.hid hv3
  have HF3 := Lib.hid hf3
  have HM3 := Lib.hid hm3
  have HM3a := Lib.hid (hm3.nob ((Fr.refl Nob w2).alloc (.cells #[] 37)))
  have HX2 := Lib.hid (HH.out.x.fr hst3 HH.out.stb.2.1)
  have HSD := Lib.hid HH.out.s.d
  have HTW := Lib.hid hst3.size
  have b1 : w2.cell? ⟨ga, 1, none⟩ = some (.int .i64 (q : Int)) := HX2.out.cell 1
  have b2 : w2.cell? ⟨ga, 2, none⟩ = some (.int .i64 j) := HX2.out.cell 2
  clear hto hs3 hv3 hf3 hm3 hst3 hT3 b0
  rcases hway with ⟨hneg, e20⟩ | e20
  · have hJ0 : ¬ (J : Int) < 0 := by omega
    go_upto_region 67 with (fail)
    clear b1 b2
    go_wp2_with (at_builtin; refine wpList_app _ rfl _ _ 22 rfl 37 i0 _ 8 72 Try.underlying22 hi.out hz0.out hz1.out hz2.out rfl (by decide) _ 0 [] rfl (OwnS.new0 w2 37 8) _ _ l.length (encs l) rfl HM3a.out ?_ ?_ ?_ ?_)
    · exact encs_one l
    · unfold maxLen; omega
    · omega
    intro v5 w5 hown hfr hat _
    have hN := app_new (w := w2) (NewV.at w2 0 0) ((Fr.refl _ _).alloc _) hfr (by simpa using hat)
    have HO := Lib.hid (show OwnS w5 37 8 v5 l.length (encs l) by simpa using hown)
    have HN := Lib.hid hN
    have HX5 := Lib.hid (HX2.out.nob hN.1)
    obtain ⟨b5, cap5, rfl, hc1, hc2, _⟩ := HO.out.ob rfl (by have := HC.out; omega)
    have hb5 : w2.heap.size ≤ b5 := HN.out.2 _ rfl
    have HB5 := Lib.hid hb5
    obtain ⟨bm, om, capm, hv, hm1, hm2, hSb, hrow⟩ := HM3.out.ob (by have := HC.out; omega)
    cases hv
    have HMB : Hid (bm < w2.heap.size) := Nat.lt_of_lt_of_le (HSD.out bm hSb).1 HTW.out
    have HROW : Hid (∀ k, (hk : k < l.length) → ∀ w', Fr Nob w2 w' → w'.rangeAt bm (om + k * 8) (enc l[k])) := fun k hk w' hw' => by
      have h := hrow k hk
      intro i u hu
      have hi8 : i < 8 := (List.getElem?_eq_some_iff.1 hu).1
      match i, hi8 with
      | 0, _ => cases hu; exact cell_nob h.c0 hw'
      | 1, _ => cases hu; exact cell_nob h.c1 hw'
      | 2, _ => cases hu; exact cell_nob h.c2 hw'
      | 3, _ => cases hu; exact cell_nob h.c3 hw'
      | 4, _ => cases hu; exact cell_nob h.c4 hw'
      | 5, _ => cases hu; exact cell_nob h.c5 hw'
      | 6, _ => cases hu; exact cell_nob h.c6 hw'
      | 7, _ => cases hu; exact cell_nob h.c7 hw'
    clear hown hfr hat hN hrow hb5
    have HR0 : Hid (RollAt l q J 0 l) := RollAt.start l q J
    go_wp2_with fail
    go_loopw [22] (fun kv2 wr => ∃ (k2 : Nat) (x : List Ob), k2 ≤ q ∧ kv2 = .int .i64 (k2 : Int) ∧ Hid (RollAt l q J k2 x) ∧ Hid (OwnS wr 37 8 (.slice (some ⟨b5, 0, none⟩) x.length cap5) x.length (encs x)) ∧ Hid (Fr (fun k => k = b5) w5 wr)) (fun kv2 _ => q - (intOf kv2).toNat)
    case atStart => exact ⟨0, l, by omega, rfl, HR0.out, HO.out, Fr.refl _ _⟩
    case round =>
      obtain ⟨k2, x, hk2, rfl, HR, HO2, HF2⟩ := hrel
      clear HR0
      have hwr : Hid (Fr Nob w2 wr) := HN.out.1.trans HF2.out fun k hk => .inr (by rw [hk]; exact HB5.out)
      have HX6 := Lib.hid (HX5.out.fr HF2.out fun hk => by have := HX2.out.lt; have := HB5.out; omega)
      have b1 : wr.cell? ⟨ga, 1, none⟩ = some (.int .i64 (q : Int)) := HX6.out.cell 1
      by_cases hlt : k2 < q
      · have i1 : (k2 : Int) < q := by omega
        obtain ⟨sj, hsj⟩ : ∃ sj, k2 + J = sj := ⟨_, rfl⟩
        obtain ⟨d, hdd⟩ : ∃ d, c + k2 = d := ⟨_, rfl⟩
        obtain ⟨r, hr⟩ : ∃ r, sj % q = r := ⟨_, rfl⟩
        have hrq : r < q := by rw [← hr]; exact Nat.mod_lt _ hq0
        have hcl := HC.out
        obtain ⟨p, hp⟩ : ∃ p, c + r = p := ⟨_, rfl⟩
        have hxl : x.length = l.length := HR.out.len
        obtain ⟨cur, hcur, hsz, hput⟩ := HO2.out.putOb p (by omega) (l[d]'(by omega))
        have HCUR := Lib.hid hcur
        have HPUT := Lib.hid hput
        have HSW : Hid (∀ w', Fr Nob wr w' → w'.cell? ⟨ga, 1, none⟩ = some (.int .i64 (q : Int)) ∧ w'.rangeAt bm (om + d * 8) (enc (l[d]'(by omega)))) := fun w' hw' => ⟨(HX6.out.nob hw').cell 1, HROW.out _ _ w' (hwr.out.trans0 hw')⟩
        have HSW7 : Hid (∀ w', Fr (fun k => k = b5) wr w' → w'.cell? ⟨ga, 1, none⟩ = some (.int .i64 (q : Int)) ∧ w'.rangeAt bm (om + d * 8) (enc (l[d]'(by omega)))) := fun w' hw' =>
          ⟨(HX6.out.fr hw' fun hk => by have := HX2.out.lt; have := HB5.out; omega).cell 1, HROW.out _ _ w' (hwr.out.trans hw' fun k hk => .inr (by rw [hk]; exact HB5.out))⟩
        have HST := Lib.hid (HR.out.step (by omega) hlt (by omega))
        have ecq : l.length - q = c := by omega
        have HEQ := Lib.hid (show (l.length - q + (k2 + J) % q) = p by rw [ecq, hsj, hr]; exact hp)
        rw [HEQ.out] at HST
        have eL : l[l.length - q + k2]'(by omega) = l[d]'(by omega) := by congr 1; omega
        rw [eL] at HST
        have sm1 : (l.length : Int) - q = c := by omega
        have sm2 : (k2 : Int) + J = (sj : Int) := by omega
        have sm3 : ((sj : Int)).tmod q = (r : Int) := by rw [← hr]; rfl
        have sm4 : (c : Int) + r = (p : Int) := by omega
        have sm5 : (c : Int) + k2 = (d : Int) := by omega
        have g1 : (p : Int) < l.length := by omega
        have g2 : (d : Int) < l.length := by omega
        have g3 : (p : Int) < cap5 := by omega
        have wr1 : IntKind.i64.wrap (c : Int) = c := IntWalk.i64_in _ (by omega)
        have wr2 : IntKind.i64.wrap (sj : Int) = (sj : Int) := IntWalk.i64_in _ (by omega)
        have wr3 : IntKind.i64.wrap (r : Int) = r := IntWalk.i64_in _ (by omega)
        have wr4 : IntKind.i64.wrap (p : Int) = p := IntWalk.i64_in _ (by omega)
        have wr5 : IntKind.i64.wrap (d : Int) = (d : Int) := IntWalk.i64_in _ (by omega)
        have HXL := Lib.hid hxl
        have iz3 : ¬ q = 0 := by omega
        obtain ⟨y, hy⟩ : ∃ y, l[d]'(by omega) = y := ⟨_, rfl⟩
        rw [hy] at HSW HSW7 HST HPUT
        clear hr hp hsj hdd hcl hcur hput ecq eL hxl hy hrq
        go_wp2_with fail
        refine wp_region_held_drew (S := fun w' => w'.cell? ⟨ga, 1, none⟩ = some (.int .i64 (q : Int)) ∧ w'.rangeAt bm (om + d * 8) (enc y)) (by kernel_rfl) (HSW.out _ (Fr.drew (Fr.refl Nob wr))) (fun hH => ?_)
        refine wpAnyH_take (i := 0) (v := ?vq1) rfl (by kernel_rfl) (by kernel_rfl) (by kernel_rfl) (fun _ _ _ h => h) (Or.inl ⟨by rfl, ?hq1⟩) hH ?rq1
        case hq1 => (intro w hSw; (try dsimp only at hSw); go_simp; (try with_reducible rfl))
        simp only [Act.put, List.getElem_toArray, List.getElem_cons_succ, List.getElem_cons_zero, List.setIfInBounds_toArray, List.set_cons_zero, List.set_cons_succ]
        refine wpAnyH_take (i := 1) (v := ?vq2) rfl (by kernel_rfl) (by kernel_rfl) (by kernel_rfl) (fun _ _ _ h => h) (Or.inl ⟨by rfl, ?hq2⟩) hH ?rq2
        case hq2 => (intro w hSw; (try dsimp only at hSw); go_simp; (try with_reducible rfl))
        simp only [Act.put, List.getElem_toArray, List.getElem_cons_succ, List.getElem_cons_zero, List.setIfInBounds_toArray, List.set_cons_zero, List.set_cons_succ]
        refine wpAnyH_take (i := 2) (v := ?vq3) rfl (by kernel_rfl) (by kernel_rfl) (by kernel_rfl) (fun _ _ _ h => h) (Or.inl ⟨by rfl, ?hq3⟩) hH ?rq3
        case hq3 => (intro w hSw; (try dsimp only at hSw); go_simp; (try with_reducible rfl))
        simp only [Act.put, List.getElem_toArray, List.getElem_cons_succ, List.getElem_cons_zero, List.setIfInBounds_toArray, List.set_cons_zero, List.set_cons_succ]
        refine wpAnyH_take (i := 3) (v := ?vq4) rfl (by kernel_rfl) (by kernel_rfl) (by kernel_rfl) (fun _ _ _ h => h) (Or.inl ⟨by rfl, ?hq4⟩) hH ?rq4
        case hq4 => (intro w hSw; (try dsimp only at hSw); obtain ⟨hSw, _⟩ := hSw; go_simp; (try with_reducible rfl))
        simp only [Act.put, List.getElem_toArray, List.getElem_cons_succ, List.getElem_cons_zero, List.setIfInBounds_toArray, List.set_cons_zero, List.set_cons_succ]
        refine wpAnyH_take (i := 4) (v := ?vq5) rfl (by kernel_rfl) (by kernel_rfl) (by kernel_rfl) (fun _ _ _ h => h) (Or.inl ⟨by rfl, ?hq5⟩) hH ?rq5
        case hq5 => (intro w hSw; (try dsimp only at hSw); go_simp; (try with_reducible rfl))
        simp only [Act.put, List.getElem_toArray, List.getElem_cons_succ, List.getElem_cons_zero, List.setIfInBounds_toArray, List.set_cons_zero, List.set_cons_succ]
        refine wpAnyH_take (i := 5) (v := ?vq6) rfl (by kernel_rfl) (by kernel_rfl) (by kernel_rfl) (fun _ _ _ h => h) (Or.inl ⟨by rfl, ?hq6⟩) hH ?rq6
        case hq6 => (intro w hSw; (try dsimp only at hSw); go_simp; (try with_reducible rfl))
        simp only [Act.put, List.getElem_toArray, List.getElem_cons_succ, List.getElem_cons_zero, List.setIfInBounds_toArray, List.set_cons_zero, List.set_cons_succ]
        refine wpAnyH_take (i := 6) (v := ?vq7) rfl (by kernel_rfl) (by kernel_rfl) (by kernel_rfl) (fun _ _ _ h => h) (Or.inl ⟨by rfl, ?hq7⟩) hH ?rq7
        case hq7 => (intro w hSw; (try dsimp only at hSw); go_simp; (try with_reducible rfl))
        simp only [Act.put, List.getElem_toArray, List.getElem_cons_succ, List.getElem_cons_zero, List.setIfInBounds_toArray, List.set_cons_zero, List.set_cons_succ]
        refine wpAnyH_take (i := 7) (v := ?vq8) rfl (by kernel_rfl) (by kernel_rfl) (by kernel_rfl) (fun _ _ _ h => h) (Or.inl ⟨by rfl, ?hq8⟩) hH ?rq8
        case hq8 => (intro w hSw; (try dsimp only at hSw); go_simp; (try with_reducible rfl))
        simp only [Act.put, List.getElem_toArray, List.getElem_cons_succ, List.getElem_cons_zero, List.setIfInBounds_toArray, List.set_cons_zero, List.set_cons_succ]
        refine wpAnyH_take (i := 8) (v := ?vq9) rfl (by kernel_rfl) (by kernel_rfl) (by kernel_rfl) (fun _ _ _ h => h) (Or.inl ⟨by rfl, ?hq9⟩) hH ?rq9
        case hq9 => (intro w hSw; (try dsimp only at hSw); go_simp; (try with_reducible rfl))
        simp only [Act.put, List.getElem_toArray, List.getElem_cons_succ, List.getElem_cons_zero, List.setIfInBounds_toArray, List.set_cons_zero, List.set_cons_succ]
        refine wpAnyH_take (i := 9) (v := ?vq10) rfl (by kernel_rfl) (by kernel_rfl) (by kernel_rfl) (fun _ _ _ h => h) (Or.inl ⟨by rfl, ?hq10⟩) hH ?rq10
        case hq10 => (intro w hSw; (try dsimp only at hSw); obtain ⟨hSw, _⟩ := hSw; go_simp; (try with_reducible rfl))
        simp only [Act.put, List.getElem_toArray, List.getElem_cons_succ, List.getElem_cons_zero, List.setIfInBounds_toArray, List.set_cons_zero, List.set_cons_succ]
        refine wpAnyH_take (i := 10) (v := ?vq11) rfl (by kernel_rfl) (by kernel_rfl) (by kernel_rfl) (fun _ _ _ h => h) (Or.inl ⟨by rfl, ?hq11⟩) hH ?rq11
        case hq11 => (intro w hSw; (try dsimp only at hSw); go_simp; (try with_reducible rfl))
        simp only [Act.put, List.getElem_toArray, List.getElem_cons_succ, List.getElem_cons_zero, List.setIfInBounds_toArray, List.set_cons_zero, List.set_cons_succ]
        refine wpAnyH_take (i := 11) (v := ?vq12) rfl (by kernel_rfl) (by kernel_rfl) (by kernel_rfl) (fun _ _ _ h => h) (Or.inl ⟨by rfl, ?hq12⟩) hH ?rq12
        case hq12 => (intro w hSw; (try dsimp only at hSw); go_simp; (try with_reducible rfl))
        simp only [Act.put, List.getElem_toArray, List.getElem_cons_succ, List.getElem_cons_zero, List.setIfInBounds_toArray, List.set_cons_zero, List.set_cons_succ]
        refine wpAnyH_take (i := 12) (v := ?vq13) rfl (by kernel_rfl) (by kernel_rfl) (by kernel_rfl) (fun _ _ _ h => h) (Or.inl ⟨by rfl, ?hq13⟩) hH ?rq13
        case hq13 => (intro w hSw; (try dsimp only at hSw); go_simp; (try with_reducible rfl))
        simp only [Act.put, List.getElem_toArray, List.getElem_cons_succ, List.getElem_cons_zero, List.setIfInBounds_toArray, List.set_cons_zero, List.set_cons_succ]
        refine wpAnyH_take (i := 13) (v := ?vq14) rfl (by kernel_rfl) (by kernel_rfl) (by kernel_rfl) (fun _ _ _ h => h) (Or.inl ⟨by rfl, ?hq14⟩) hH ?rq14
        case hq14 => (intro w hSw; (try dsimp only at hSw); go_simp; (try with_reducible rfl))
        simp only [Act.put, List.getElem_toArray, List.getElem_cons_succ, List.getElem_cons_zero, List.setIfInBounds_toArray, List.set_cons_zero, List.set_cons_succ]
        refine wpAnyH_take (i := 14) (v := ?vq15) rfl (by kernel_rfl) (by kernel_rfl) (by kernel_rfl) (fun _ _ _ h => h) (Or.inl ⟨by rfl, ?hq15⟩) hH ?rq15
        case hq15 => (intro w hSw; (try dsimp only at hSw); go_simp; (try with_reducible rfl))
        simp only [Act.put, List.getElem_toArray, List.getElem_cons_succ, List.getElem_cons_zero, List.setIfInBounds_toArray, List.set_cons_zero, List.set_cons_succ]
        refine wpAnyH_take (i := 15) (v := ?vq16) rfl (by kernel_rfl) (by kernel_rfl) (by kernel_rfl) (fun _ _ _ h => h) (Or.inl ⟨by rfl, ?hq16⟩) hH ?rq16
        case hq16 => (intro w hSw; (try dsimp only at hSw); obtain ⟨hSw, _⟩ := hSw; go_simp; (try with_reducible rfl))
        simp only [Act.put, List.getElem_toArray, List.getElem_cons_succ, List.getElem_cons_zero, List.setIfInBounds_toArray, List.set_cons_zero, List.set_cons_succ]
        refine wpAnyH_take (i := 16) (v := ?vq17) rfl (by kernel_rfl) (by kernel_rfl) (by kernel_rfl) (fun _ _ _ h => h) (Or.inl ⟨by rfl, ?hq17⟩) hH ?rq17
        case hq17 => (intro w hSw; (try dsimp only at hSw); go_simp; (try with_reducible rfl))
        simp only [Act.put, List.getElem_toArray, List.getElem_cons_succ, List.getElem_cons_zero, List.setIfInBounds_toArray, List.set_cons_zero, List.set_cons_succ]
        refine wpAnyH_take (i := 17) (v := ?vq18) rfl (by kernel_rfl) (by kernel_rfl) (by kernel_rfl) (fun _ _ _ h => h) (Or.inl ⟨by rfl, ?hq18⟩) hH ?rq18
        case hq18 => (intro w hSw; (try dsimp only at hSw); go_simp; (try with_reducible rfl))
        simp only [Act.put, List.getElem_toArray, List.getElem_cons_succ, List.getElem_cons_zero, List.setIfInBounds_toArray, List.set_cons_zero, List.set_cons_succ]
        refine wpAnyH_take (i := 18) (v := ?vq19) rfl (by kernel_rfl) (by kernel_rfl) (by kernel_rfl) (fun _ _ _ h => h) (Or.inl ⟨by rfl, ?hq19⟩) hH ?rq19
        case hq19 => (intro w hSw; (try dsimp only at hSw); go_simp; (try with_reducible rfl))
        simp only [Act.put, List.getElem_toArray, List.getElem_cons_succ, List.getElem_cons_zero, List.setIfInBounds_toArray, List.set_cons_zero, List.set_cons_succ]
        refine wpAnyH_take (i := 19) (v := ?vq20) rfl (by kernel_rfl) (by kernel_rfl) (by kernel_rfl) (fun _ _ _ h => h) (Or.inl ⟨by rfl, ?hq20⟩) hH ?rq20
        case hq20 => (intro w hSw; (try dsimp only at hSw); go_simp; (try with_reducible rfl))
        simp only [Act.put, List.getElem_toArray, List.getElem_cons_succ, List.getElem_cons_zero, List.setIfInBounds_toArray, List.set_cons_zero, List.set_cons_succ]
        refine wpAnyH_take (i := 20) (v := _) rfl (by kernel_rfl) (by kernel_rfl) (by kernel_rfl) (fun _ _ _ h => h) (yieldsIf_load_mid (by rfl) 37 (.tmp 256) rfl bm (om + d * 8) (by rfl) (enc y) _ (fun w hw => hw.2) Try.underlying37 rfl size37) hH ?_
        simp only [Act.put, List.getElem_toArray, List.getElem_cons_succ, List.getElem_cons_zero, List.setIfInBounds_toArray, List.set_cons_zero, List.set_cons_succ]
        refine wpAnyH_take (i := 21) (v := ?vq22) rfl (by kernel_rfl) (by kernel_rfl) (by kernel_rfl) (fun _ _ _ h => h) (Or.inl ⟨by rfl, ?hq22⟩) hH ?rq22
        case hq22 => (intro w hSw; (try dsimp only at hSw); go_simp; (try with_reducible rfl))
        simp only [Act.put, List.getElem_toArray, List.getElem_cons_succ, List.getElem_cons_zero, List.setIfInBounds_toArray, List.set_cons_zero, List.set_cons_succ]
        refine held_oneG 22 rfl (by kernel_rfl) (by rfl) fun K hK => ?_
        replace hK := Lib.hid hK
        clear hH
        refine wp_putAt 37 (.tmp 258) (.tmp 257) rfl b5 (p * 8) (enc y) (by rfl) (by rfl) 37 _ (HCUR.out.drew) hsz size37 (enc_one _) ?_
        intro w7 hb7 hf7
        have HO7 := Lib.hid (HPUT.out w7 hb7)
        have HF7 := Lib.hid (show Fr (fun k => k = b5) wr w7 from ((Fr.refl _ wr).drew).trans hf7 fun k hk => .inl hk)
        clear hb7 hf7
        have hH := HSW7.out w7 HF7.out
        refine hK.out _ _ hH ?_
        clear hK K
        refine wpAnyH_done (by kernel_rfl) ?_ _
        clear hH
        go_wp2_with fail
        go_roundw
        case rel => exact ⟨k2 + 1, x.set p y, by omega, by go_num, HST.out, HO7.out, HF2.out.trans HF7.out fun k hk => .inl hk⟩
        case measure => simp [intOf]; omega
      · have i1 : ¬ (k2 : Int) < q := by omega
        have hkq : k2 = q := by omega
        have hx : x = rollF l q J := by
          have := HR.out
          rw [hkq] at this
          exact this.done (by have := HC.out; omega) hJq
        have HXX := Lib.hid hx
        clear hx hkq
        go_wp2_with fail
        refine ActsQ.mk rfl rfl rfl rfl rfl rfl rfl rfl ?_
        have hrl : (rollF l q J).length = l.length := rollF_len l q J (by have := HC.out; omega)
        have ho := HO2.out
        rw [HXX.out] at ho
        have hfin := ActsS.of HS3.out HH.out.s.g0 HV3.out HF3.out hwr.out ho (show NewV w2 _ from fun b hb => HN.out.2 b hb)
        rw [hrl] at hfin
        exact ⟨0, _, _, rollF l q J, [], Nob, Nob, rfl, rfl, hfin, by rw [hrl]; omega, RowIn.nil _ _ _, RowIn.nil _ _ _⟩
  · have hJ0 : ¬ (J : Int) < 0 := by omega
    go_upto_region 67 with (fail)
    clear b1 b2
    go_wp2_with (at_builtin; refine wpList_app _ rfl _ _ 22 rfl 37 i0 _ 8 72 Try.underlying22 hi.out hz0.out hz1.out hz2.out rfl (by decide) _ 0 [] rfl (OwnS.new0 w2 37 8) _ _ l.length (encs l) rfl HM3a.out ?_ ?_ ?_ ?_)
    · exact encs_one l
    · unfold maxLen; omega
    · omega
    intro v5 w5 hown hfr hat _
    have hN := app_new (w := w2) (NewV.at w2 0 0) ((Fr.refl _ _).alloc _) hfr (by simpa using hat)
    have HO := Lib.hid (show OwnS w5 37 8 v5 l.length (encs l) by simpa using hown)
    have HN := Lib.hid hN
    have HX5 := Lib.hid (HX2.out.nob hN.1)
    obtain ⟨b5, cap5, rfl, hc1, hc2, _⟩ := HO.out.ob rfl (by have := HC.out; omega)
    have hb5 : w2.heap.size ≤ b5 := HN.out.2 _ rfl
    have HB5 := Lib.hid hb5
    obtain ⟨bm, om, capm, hv, hm1, hm2, hSb, hrow⟩ := HM3.out.ob (by have := HC.out; omega)
    cases hv
    have HMB : Hid (bm < w2.heap.size) := Nat.lt_of_lt_of_le (HSD.out bm hSb).1 HTW.out
    have HROW : Hid (∀ k, (hk : k < l.length) → ∀ w', Fr Nob w2 w' → w'.rangeAt bm (om + k * 8) (enc l[k])) := fun k hk w' hw' => by
      have h := hrow k hk
      intro i u hu
      have hi8 : i < 8 := (List.getElem?_eq_some_iff.1 hu).1
      match i, hi8 with
      | 0, _ => cases hu; exact cell_nob h.c0 hw'
      | 1, _ => cases hu; exact cell_nob h.c1 hw'
      | 2, _ => cases hu; exact cell_nob h.c2 hw'
      | 3, _ => cases hu; exact cell_nob h.c3 hw'
      | 4, _ => cases hu; exact cell_nob h.c4 hw'
      | 5, _ => cases hu; exact cell_nob h.c5 hw'
      | 6, _ => cases hu; exact cell_nob h.c6 hw'
      | 7, _ => cases hu; exact cell_nob h.c7 hw'
    clear hown hfr hat hN hrow hb5
    have HR0 : Hid (RollAt l q J 0 l) := RollAt.start l q J
    go_wp2_with fail
    go_loopw [22] (fun kv2 wr => ∃ (k2 : Nat) (x : List Ob), k2 ≤ q ∧ kv2 = .int .i64 (k2 : Int) ∧ Hid (RollAt l q J k2 x) ∧ Hid (OwnS wr 37 8 (.slice (some ⟨b5, 0, none⟩) x.length cap5) x.length (encs x)) ∧ Hid (Fr (fun k => k = b5) w5 wr)) (fun kv2 _ => q - (intOf kv2).toNat)
    case atStart => exact ⟨0, l, by omega, rfl, HR0.out, HO.out, Fr.refl _ _⟩
    case round =>
      obtain ⟨k2, x, hk2, rfl, HR, HO2, HF2⟩ := hrel
      clear HR0
      have hwr : Hid (Fr Nob w2 wr) := HN.out.1.trans HF2.out fun k hk => .inr (by rw [hk]; exact HB5.out)
      have HX6 := Lib.hid (HX5.out.fr HF2.out fun hk => by have := HX2.out.lt; have := HB5.out; omega)
      have b1 : wr.cell? ⟨ga, 1, none⟩ = some (.int .i64 (q : Int)) := HX6.out.cell 1
      by_cases hlt : k2 < q
      · have i1 : (k2 : Int) < q := by omega
        obtain ⟨sj, hsj⟩ : ∃ sj, k2 + J = sj := ⟨_, rfl⟩
        obtain ⟨d, hdd⟩ : ∃ d, c + k2 = d := ⟨_, rfl⟩
        obtain ⟨r, hr⟩ : ∃ r, sj % q = r := ⟨_, rfl⟩
        have hrq : r < q := by rw [← hr]; exact Nat.mod_lt _ hq0
        have hcl := HC.out
        obtain ⟨p, hp⟩ : ∃ p, c + r = p := ⟨_, rfl⟩
        have hxl : x.length = l.length := HR.out.len
        obtain ⟨cur, hcur, hsz, hput⟩ := HO2.out.putOb p (by omega) (l[d]'(by omega))
        have HCUR := Lib.hid hcur
        have HPUT := Lib.hid hput
        have HSW : Hid (∀ w', Fr Nob wr w' → w'.cell? ⟨ga, 1, none⟩ = some (.int .i64 (q : Int)) ∧ w'.rangeAt bm (om + d * 8) (enc (l[d]'(by omega)))) := fun w' hw' => ⟨(HX6.out.nob hw').cell 1, HROW.out _ _ w' (hwr.out.trans0 hw')⟩
        have HSW7 : Hid (∀ w', Fr (fun k => k = b5) wr w' → w'.cell? ⟨ga, 1, none⟩ = some (.int .i64 (q : Int)) ∧ w'.rangeAt bm (om + d * 8) (enc (l[d]'(by omega)))) := fun w' hw' =>
          ⟨(HX6.out.fr hw' fun hk => by have := HX2.out.lt; have := HB5.out; omega).cell 1, HROW.out _ _ w' (hwr.out.trans hw' fun k hk => .inr (by rw [hk]; exact HB5.out))⟩
        have HST := Lib.hid (HR.out.step (by omega) hlt (by omega))
        have ecq : l.length - q = c := by omega
        have HEQ := Lib.hid (show (l.length - q + (k2 + J) % q) = p by rw [ecq, hsj, hr]; exact hp)
        rw [HEQ.out] at HST
        have eL : l[l.length - q + k2]'(by omega) = l[d]'(by omega) := by congr 1; omega
        rw [eL] at HST
        have sm1 : (l.length : Int) - q = c := by omega
        have sm2 : (k2 : Int) + J = (sj : Int) := by omega
        have sm3 : ((sj : Int)).tmod q = (r : Int) := by rw [← hr]; rfl
        have sm4 : (c : Int) + r = (p : Int) := by omega
        have sm5 : (c : Int) + k2 = (d : Int) := by omega
        have g1 : (p : Int) < l.length := by omega
        have g2 : (d : Int) < l.length := by omega
        have g3 : (p : Int) < cap5 := by omega
        have wr1 : IntKind.i64.wrap (c : Int) = c := IntWalk.i64_in _ (by omega)
        have wr2 : IntKind.i64.wrap (sj : Int) = (sj : Int) := IntWalk.i64_in _ (by omega)
        have wr3 : IntKind.i64.wrap (r : Int) = r := IntWalk.i64_in _ (by omega)
        have wr4 : IntKind.i64.wrap (p : Int) = p := IntWalk.i64_in _ (by omega)
        have wr5 : IntKind.i64.wrap (d : Int) = (d : Int) := IntWalk.i64_in _ (by omega)
        have HXL := Lib.hid hxl
        have iz3 : ¬ q = 0 := by omega
        obtain ⟨y, hy⟩ : ∃ y, l[d]'(by omega) = y := ⟨_, rfl⟩
        rw [hy] at HSW HSW7 HST HPUT
        clear hr hp hsj hdd hcl hcur hput ecq eL hxl hy hrq
        go_wp2_with fail
        refine wp_region_held_drew (S := fun w' => w'.cell? ⟨ga, 1, none⟩ = some (.int .i64 (q : Int)) ∧ w'.rangeAt bm (om + d * 8) (enc y)) (by kernel_rfl) (HSW.out _ (Fr.drew (Fr.refl Nob wr))) (fun hH => ?_)
        refine wpAnyH_take (i := 0) (v := ?vz1) rfl (by kernel_rfl) (by kernel_rfl) (by kernel_rfl) (fun _ _ _ h => h) (Or.inl ⟨by rfl, ?hz1⟩) hH ?rz1
        case hz1 => (intro w hSw; (try dsimp only at hSw); go_simp; (try with_reducible rfl))
        simp only [Act.put, List.getElem_toArray, List.getElem_cons_succ, List.getElem_cons_zero, List.setIfInBounds_toArray, List.set_cons_zero, List.set_cons_succ]
        refine wpAnyH_take (i := 1) (v := ?vz2) rfl (by kernel_rfl) (by kernel_rfl) (by kernel_rfl) (fun _ _ _ h => h) (Or.inl ⟨by rfl, ?hz2⟩) hH ?rz2
        case hz2 => (intro w hSw; (try dsimp only at hSw); go_simp; (try with_reducible rfl))
        simp only [Act.put, List.getElem_toArray, List.getElem_cons_succ, List.getElem_cons_zero, List.setIfInBounds_toArray, List.set_cons_zero, List.set_cons_succ]
        refine wpAnyH_take (i := 2) (v := ?vz3) rfl (by kernel_rfl) (by kernel_rfl) (by kernel_rfl) (fun _ _ _ h => h) (Or.inl ⟨by rfl, ?hz3⟩) hH ?rz3
        case hz3 => (intro w hSw; (try dsimp only at hSw); go_simp; (try with_reducible rfl))
        simp only [Act.put, List.getElem_toArray, List.getElem_cons_succ, List.getElem_cons_zero, List.setIfInBounds_toArray, List.set_cons_zero, List.set_cons_succ]
        refine wpAnyH_take (i := 3) (v := ?vz4) rfl (by kernel_rfl) (by kernel_rfl) (by kernel_rfl) (fun _ _ _ h => h) (Or.inl ⟨by rfl, ?hz4⟩) hH ?rz4
        case hz4 => (intro w hSw; (try dsimp only at hSw); obtain ⟨hSw, _⟩ := hSw; go_simp; (try with_reducible rfl))
        simp only [Act.put, List.getElem_toArray, List.getElem_cons_succ, List.getElem_cons_zero, List.setIfInBounds_toArray, List.set_cons_zero, List.set_cons_succ]
        refine wpAnyH_take (i := 4) (v := ?vz5) rfl (by kernel_rfl) (by kernel_rfl) (by kernel_rfl) (fun _ _ _ h => h) (Or.inl ⟨by rfl, ?hz5⟩) hH ?rz5
        case hz5 => (intro w hSw; (try dsimp only at hSw); go_simp; (try with_reducible rfl))
        simp only [Act.put, List.getElem_toArray, List.getElem_cons_succ, List.getElem_cons_zero, List.setIfInBounds_toArray, List.set_cons_zero, List.set_cons_succ]
        refine wpAnyH_take (i := 5) (v := ?vz6) rfl (by kernel_rfl) (by kernel_rfl) (by kernel_rfl) (fun _ _ _ h => h) (Or.inl ⟨by rfl, ?hz6⟩) hH ?rz6
        case hz6 => (intro w hSw; (try dsimp only at hSw); go_simp; (try with_reducible rfl))
        simp only [Act.put, List.getElem_toArray, List.getElem_cons_succ, List.getElem_cons_zero, List.setIfInBounds_toArray, List.set_cons_zero, List.set_cons_succ]
        refine wpAnyH_take (i := 6) (v := ?vz7) rfl (by kernel_rfl) (by kernel_rfl) (by kernel_rfl) (fun _ _ _ h => h) (Or.inl ⟨by rfl, ?hz7⟩) hH ?rz7
        case hz7 => (intro w hSw; (try dsimp only at hSw); go_simp; (try with_reducible rfl))
        simp only [Act.put, List.getElem_toArray, List.getElem_cons_succ, List.getElem_cons_zero, List.setIfInBounds_toArray, List.set_cons_zero, List.set_cons_succ]
        refine wpAnyH_take (i := 7) (v := ?vz8) rfl (by kernel_rfl) (by kernel_rfl) (by kernel_rfl) (fun _ _ _ h => h) (Or.inl ⟨by rfl, ?hz8⟩) hH ?rz8
        case hz8 => (intro w hSw; (try dsimp only at hSw); go_simp; (try with_reducible rfl))
        simp only [Act.put, List.getElem_toArray, List.getElem_cons_succ, List.getElem_cons_zero, List.setIfInBounds_toArray, List.set_cons_zero, List.set_cons_succ]
        refine wpAnyH_take (i := 8) (v := ?vz9) rfl (by kernel_rfl) (by kernel_rfl) (by kernel_rfl) (fun _ _ _ h => h) (Or.inl ⟨by rfl, ?hz9⟩) hH ?rz9
        case hz9 => (intro w hSw; (try dsimp only at hSw); go_simp; (try with_reducible rfl))
        simp only [Act.put, List.getElem_toArray, List.getElem_cons_succ, List.getElem_cons_zero, List.setIfInBounds_toArray, List.set_cons_zero, List.set_cons_succ]
        refine wpAnyH_take (i := 9) (v := ?vz10) rfl (by kernel_rfl) (by kernel_rfl) (by kernel_rfl) (fun _ _ _ h => h) (Or.inl ⟨by rfl, ?hz10⟩) hH ?rz10
        case hz10 => (intro w hSw; (try dsimp only at hSw); obtain ⟨hSw, _⟩ := hSw; go_simp; (try with_reducible rfl))
        simp only [Act.put, List.getElem_toArray, List.getElem_cons_succ, List.getElem_cons_zero, List.setIfInBounds_toArray, List.set_cons_zero, List.set_cons_succ]
        refine wpAnyH_take (i := 10) (v := ?vz11) rfl (by kernel_rfl) (by kernel_rfl) (by kernel_rfl) (fun _ _ _ h => h) (Or.inl ⟨by rfl, ?hz11⟩) hH ?rz11
        case hz11 => (intro w hSw; (try dsimp only at hSw); go_simp; (try with_reducible rfl))
        simp only [Act.put, List.getElem_toArray, List.getElem_cons_succ, List.getElem_cons_zero, List.setIfInBounds_toArray, List.set_cons_zero, List.set_cons_succ]
        refine wpAnyH_take (i := 11) (v := ?vz12) rfl (by kernel_rfl) (by kernel_rfl) (by kernel_rfl) (fun _ _ _ h => h) (Or.inl ⟨by rfl, ?hz12⟩) hH ?rz12
        case hz12 => (intro w hSw; (try dsimp only at hSw); go_simp; (try with_reducible rfl))
        simp only [Act.put, List.getElem_toArray, List.getElem_cons_succ, List.getElem_cons_zero, List.setIfInBounds_toArray, List.set_cons_zero, List.set_cons_succ]
        refine wpAnyH_take (i := 12) (v := ?vz13) rfl (by kernel_rfl) (by kernel_rfl) (by kernel_rfl) (fun _ _ _ h => h) (Or.inl ⟨by rfl, ?hz13⟩) hH ?rz13
        case hz13 => (intro w hSw; (try dsimp only at hSw); go_simp; (try with_reducible rfl))
        simp only [Act.put, List.getElem_toArray, List.getElem_cons_succ, List.getElem_cons_zero, List.setIfInBounds_toArray, List.set_cons_zero, List.set_cons_succ]
        refine wpAnyH_take (i := 13) (v := ?vz14) rfl (by kernel_rfl) (by kernel_rfl) (by kernel_rfl) (fun _ _ _ h => h) (Or.inl ⟨by rfl, ?hz14⟩) hH ?rz14
        case hz14 => (intro w hSw; (try dsimp only at hSw); go_simp; (try with_reducible rfl))
        simp only [Act.put, List.getElem_toArray, List.getElem_cons_succ, List.getElem_cons_zero, List.setIfInBounds_toArray, List.set_cons_zero, List.set_cons_succ]
        refine wpAnyH_take (i := 14) (v := ?vz15) rfl (by kernel_rfl) (by kernel_rfl) (by kernel_rfl) (fun _ _ _ h => h) (Or.inl ⟨by rfl, ?hz15⟩) hH ?rz15
        case hz15 => (intro w hSw; (try dsimp only at hSw); go_simp; (try with_reducible rfl))
        simp only [Act.put, List.getElem_toArray, List.getElem_cons_succ, List.getElem_cons_zero, List.setIfInBounds_toArray, List.set_cons_zero, List.set_cons_succ]
        refine wpAnyH_take (i := 15) (v := ?vz16) rfl (by kernel_rfl) (by kernel_rfl) (by kernel_rfl) (fun _ _ _ h => h) (Or.inl ⟨by rfl, ?hz16⟩) hH ?rz16
        case hz16 => (intro w hSw; (try dsimp only at hSw); obtain ⟨hSw, _⟩ := hSw; go_simp; (try with_reducible rfl))
        simp only [Act.put, List.getElem_toArray, List.getElem_cons_succ, List.getElem_cons_zero, List.setIfInBounds_toArray, List.set_cons_zero, List.set_cons_succ]
        refine wpAnyH_take (i := 16) (v := ?vz17) rfl (by kernel_rfl) (by kernel_rfl) (by kernel_rfl) (fun _ _ _ h => h) (Or.inl ⟨by rfl, ?hz17⟩) hH ?rz17
        case hz17 => (intro w hSw; (try dsimp only at hSw); go_simp; (try with_reducible rfl))
        simp only [Act.put, List.getElem_toArray, List.getElem_cons_succ, List.getElem_cons_zero, List.setIfInBounds_toArray, List.set_cons_zero, List.set_cons_succ]
        refine wpAnyH_take (i := 17) (v := ?vz18) rfl (by kernel_rfl) (by kernel_rfl) (by kernel_rfl) (fun _ _ _ h => h) (Or.inl ⟨by rfl, ?hz18⟩) hH ?rz18
        case hz18 => (intro w hSw; (try dsimp only at hSw); go_simp; (try with_reducible rfl))
        simp only [Act.put, List.getElem_toArray, List.getElem_cons_succ, List.getElem_cons_zero, List.setIfInBounds_toArray, List.set_cons_zero, List.set_cons_succ]
        refine wpAnyH_take (i := 18) (v := ?vz19) rfl (by kernel_rfl) (by kernel_rfl) (by kernel_rfl) (fun _ _ _ h => h) (Or.inl ⟨by rfl, ?hz19⟩) hH ?rz19
        case hz19 => (intro w hSw; (try dsimp only at hSw); go_simp; (try with_reducible rfl))
        simp only [Act.put, List.getElem_toArray, List.getElem_cons_succ, List.getElem_cons_zero, List.setIfInBounds_toArray, List.set_cons_zero, List.set_cons_succ]
        refine wpAnyH_take (i := 19) (v := ?vz20) rfl (by kernel_rfl) (by kernel_rfl) (by kernel_rfl) (fun _ _ _ h => h) (Or.inl ⟨by rfl, ?hz20⟩) hH ?rz20
        case hz20 => (intro w hSw; (try dsimp only at hSw); go_simp; (try with_reducible rfl))
        simp only [Act.put, List.getElem_toArray, List.getElem_cons_succ, List.getElem_cons_zero, List.setIfInBounds_toArray, List.set_cons_zero, List.set_cons_succ]
        refine wpAnyH_take (i := 20) (v := _) rfl (by kernel_rfl) (by kernel_rfl) (by kernel_rfl) (fun _ _ _ h => h) (yieldsIf_load_mid (by rfl) 37 (.tmp 256) rfl bm (om + d * 8) (by rfl) (enc y) _ (fun w hw => hw.2) Try.underlying37 rfl size37) hH ?_
        simp only [Act.put, List.getElem_toArray, List.getElem_cons_succ, List.getElem_cons_zero, List.setIfInBounds_toArray, List.set_cons_zero, List.set_cons_succ]
        refine wpAnyH_take (i := 21) (v := ?vz22) rfl (by kernel_rfl) (by kernel_rfl) (by kernel_rfl) (fun _ _ _ h => h) (Or.inl ⟨by rfl, ?hz22⟩) hH ?rz22
        case hz22 => (intro w hSw; (try dsimp only at hSw); go_simp; (try with_reducible rfl))
        simp only [Act.put, List.getElem_toArray, List.getElem_cons_succ, List.getElem_cons_zero, List.setIfInBounds_toArray, List.set_cons_zero, List.set_cons_succ]
        refine held_oneG 22 rfl (by kernel_rfl) (by rfl) fun K hK => ?_
        replace hK := Lib.hid hK
        clear hH
        refine wp_putAt 37 (.tmp 258) (.tmp 257) rfl b5 (p * 8) (enc y) (by rfl) (by rfl) 37 _ (HCUR.out.drew) hsz size37 (enc_one _) ?_
        intro w7 hb7 hf7
        have HO7 := Lib.hid (HPUT.out w7 hb7)
        have HF7 := Lib.hid (show Fr (fun k => k = b5) wr w7 from ((Fr.refl _ wr).drew).trans hf7 fun k hk => .inl hk)
        clear hb7 hf7
        have hH := HSW7.out w7 HF7.out
        refine hK.out _ _ hH ?_
        clear hK K
        refine wpAnyH_done (by kernel_rfl) ?_ _
        clear hH
        go_wp2_with fail
        go_roundw
        case rel => exact ⟨k2 + 1, x.set p y, by omega, by go_num, HST.out, HO7.out, HF2.out.trans HF7.out fun k hk => .inl hk⟩
        case measure => simp [intOf]; omega
      · have i1 : ¬ (k2 : Int) < q := by omega
        have hkq : k2 = q := by omega
        have hx : x = rollF l q J := by
          have := HR.out
          rw [hkq] at this
          exact this.done (by have := HC.out; omega) hJq
        have HXX := Lib.hid hx
        clear hx hkq
        go_wp2_with fail
        refine ActsQ.mk rfl rfl rfl rfl rfl rfl rfl rfl ?_
        have hrl : (rollF l q J).length = l.length := rollF_len l q J (by have := HC.out; omega)
        have ho := HO2.out
        rw [HXX.out] at ho
        have hfin := ActsS.of HS3.out HH.out.s.g0 HV3.out HF3.out hwr.out ho (show NewV w2 _ from fun b hb => HN.out.2 b hb)
        rw [hrl] at hfin
        exact ⟨0, _, _, rollF l q J, [], Nob, Nob, rfl, rfl, hfin, by rw [hrl]; omega, RowIn.nil _ _ _, RowIn.nil _ _ _⟩
end Go.Proofs.Ytdkgbakapinidaa
