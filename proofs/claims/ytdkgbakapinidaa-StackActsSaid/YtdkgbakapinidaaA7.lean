/-
  StackActs: the cases of its switch: ToMark, Reset, Need.
-/
import Derived.Test.YtdkgbakapinidaaA6
namespace Go.Proofs.Ytdkgbakapinidaa
open Go.RowKit
set_option linter.unusedVariables false
set_option linter.unusedSimpArgs false
set_option maxRecDepth 100000
/-- No mark among the top k. -/
def NoMark (l : List Ob) (k : Nat) : Prop := ∀ i, (h : i < k) → (h2 : i < l.length) → l[l.length - 1 - i].kind ≠ 4
theorem NoMark.step {l : List Ob} {k m : Nat} (h : NoMark l k) (hm : m = l.length - 1 - k) (hml : m < l.length) (hne : ¬ l[m].kind = 4) : NoMark l (k + 1) := fun i hi h2 => by
  by_cases hik : i = k
  · subst hik
    subst hm
    exact hne
  · exact h i (by omega) h2
set_option maxHeartbeats 4000000 in
theorem sw_mark (w wb : World) (g ga : Nat) (v : Value) (S : Nat → Prop) (km : Int) (B : Nat) (Am : Option Addr) (cm : Nat) (l : List Ob) (av kv : Value) (n j : Int) (Al : Option Addr) (cl : Nat) (al : List Ob) (Ak : Option Addr) (ck : Nat) (ks : List Int) (u : Nat → Value)
    (h : Sw w wb g ga v S km B Am cm l 7 n j Al cl al Ak ck ks) :
    swCode.wp Try.prog (Exit.then (ActsQ w g km (B + 100) av kv) NoQ) (FR (.int .i64 km) av (.int .i64 12) (.int .i64 13) (.pointer (some ⟨g, 0, none⟩)) (.slice Am l.length cm) kv (.pointer (some ⟨ga, 0, none⟩)) (.int .i64 l.length) (.int .i64 0) (.int .i64 0) (.slice none 0 0) (.slice none 0 0) (.int .i64 7) u) wb := by
  obtain ⟨i0, hi, hz0, hz1, hz2⟩ := info_parts info37
  replace hi := Lib.hid hi
  replace hz0 := Lib.hid hz0
  replace hz1 := Lib.hid hz1
  replace hz2 := Lib.hid hz2
  have b0 : wb.cell? ⟨ga, 0, none⟩ = some (.int .i64 7) := h.x.cell 0
  have b1 : wb.cell? ⟨ga, 1, none⟩ = some (.int .i64 n) := h.x.cell 1
  have b2 : wb.cell? ⟨ga, 2, none⟩ = some (.int .i64 j) := h.x.cell 2
  have b3 : wb.cell? ⟨ga, 3, none⟩ = some (.slice Al al.length cl) := h.x.cell 3
  have b4 : wb.cell? ⟨ga, 4, none⟩ = some (.slice Ak ks.length ck) := h.x.cell 4
  have z1 := h.k0.1
  have z2 := h.k0.2
  have z3 := h.al
  have z4 := h.ks
  have z5 := h.hl
  have z6 := h.b
  have HH := Lib.hid h
  clear h
  conv => arg 2; whnf
  unfold FR
  rcases hmk : markF l with _ | k0
  · have HMK := Lib.hid (markV_none hmk)
    have HNO := Lib.hid hmk
    clear hmk
    go_wp2_with fail
    refine (mark_any g v km 12 13 l _ HH.out.s.s).mono ?_
    rw [HMK.out]
    rintro e w2 ⟨rfl, nd, hw2⟩
    have HF2 := Lib.hid (show Fr Nob wb w2 by rw [hw2]; exact (Fr.refl Nob wb).drewN nd)
    have HS2 := Lib.hid (HH.out.s.nob HF2.out)
    clear hw2
    go_wp2_with fail
    go_loop [13, 25] (fun wv q => ∃ k : Nat, k ≤ l.length ∧ q = .int .i64 (k : Int) ∧ wv = .int .i64 19 ∧ Hid (NoMark l k)) (fun _ q => l.length - (intOf q).toNat)
    case atStart => exact ⟨0, by omega, rfl, rfl, fun i h => by omega⟩
    case round =>
      obtain ⟨k, hk, rfl, rfl, HB⟩ := hrel
      by_cases hlt : k < l.length
      · have i1 : (k : Int) < l.length := by omega
        obtain ⟨m, hm⟩ : ∃ m, m = l.length - 1 - k := ⟨_, rfl⟩
        have hml : m < l.length := by omega
        have e1 : (l.length : Int) - 1 - k = m := by omega
        have i2 : (m : Int) < l.length := by omega
        obtain ⟨bm, om, capm, hv, hm1, hm2, hSb, hrow⟩ := HS2.out.m.ob (by omega)
        cases hv
        have i3 : (m : Int) < cm := by omega
        have k0 := (hrow m hml).c0
        have hne : ¬ l[m].kind = 4 := fun h4 => by
          have := mark_hit l k hlt (by rw [← h4]; congr 1; congr 1; omega) fun i hi => HB.out i hi (by omega)
          rw [HNO.out] at this
          cases this
        have q4 : (l[m].kind == 4) = false := by simpa using hne
        have HB2 : Hid (NoMark l (k + 1)) := NoMark.step HB.out hm hml hne
        clear hrow hm hne
        generalize l[m].kind = kd at *
        go_wp2_with fail
        go_round
        case rel => exact ⟨k + 1, by omega, by go_num, rfl, HB2.out⟩
        case measure => simp [intOf]; omega
      · have i1 : ¬ (k : Int) < l.length := by omega
        go_wp2_with fail
        refine ActsQ.mk rfl rfl rfl rfl rfl rfl rfl rfl ?_
        exact ActsP.none HS2.out (by omega)
  · have HMK := Lib.hid (markV_some hmk)
    have HNO := Lib.hid hmk
    clear hmk
    go_wp2_with fail
    refine (mark_any g v km 12 13 l _ HH.out.s.s).mono ?_
    rw [HMK.out]
    rintro e w2 ⟨rfl, nd, hw2⟩
    have HF2 := Lib.hid (show Fr Nob wb w2 by rw [hw2]; exact (Fr.refl Nob wb).drewN nd)
    have HS2 := Lib.hid (HH.out.s.nob HF2.out)
    clear hw2
    go_wp2_with fail
    go_loop [13, 25] (fun wv q => ∃ k : Nat, k ≤ l.length ∧ q = .int .i64 (k : Int) ∧ ((wv = .int .i64 19 ∧ Hid (NoMark l k)) ∨ wv = .int .i64 0)) (fun _ q => l.length - (intOf q).toNat)
    case atStart => exact ⟨0, by omega, rfl, .inl ⟨rfl, fun i h => by omega⟩⟩
    case round =>
      obtain ⟨k, hk, rfl, ⟨rfl, HB⟩ | rfl⟩ := hrel
      · have hlt : k < l.length := by
          rcases Nat.lt_or_ge k l.length with h | h
          · exact h
          · have := mark_none l fun i hi => HB.out i (by omega) hi
            rw [HNO.out] at this
            cases this
        have i1 : (k : Int) < l.length := by omega
        obtain ⟨m, hm⟩ : ∃ m, m = l.length - 1 - k := ⟨_, rfl⟩
        have hml : m < l.length := by omega
        have e1 : (l.length : Int) - 1 - k = m := by omega
        have i2 : (m : Int) < l.length := by omega
        obtain ⟨bm, om, capm, hv, hm1, hm2, hSb, hrow⟩ := HS2.out.m.ob (by omega)
        cases hv
        have i3 : (m : Int) < cm := by omega
        have kk0 := (hrow m hml).c0
        by_cases h4 : l[m].kind = 4
        · have hk0 : k0 = k := by
            have := mark_hit l k hlt (by rw [← h4]; congr 1; congr 1; omega) fun i hi => HB.out i hi (by omega)
            rw [HNO.out] at this
            exact Option.some.inj this
          have q4 : (l[m].kind == 4) = true := by simpa using h4
          have qk : ((k0 : Int) != (k : Int)) = false := by subst hk0; simp
          rw [h4] at kk0
          clear hrow hm h4 hk0 q4
          go_wp2_with fail
          go_round
          case rel => exact ⟨k + 1, by omega, by go_num, .inr rfl⟩
          case measure => simp [intOf]; omega
        · have q4 : (l[m].kind == 4) = false := by simpa using h4
          have HB2 : Hid (NoMark l (k + 1)) := NoMark.step HB.out hm hml h4
          clear hrow hm h4
          generalize l[m].kind = kd at *
          go_wp2_with fail
          go_round
          case rel => exact ⟨k + 1, by omega, by go_num, .inl ⟨rfl, HB2.out⟩⟩
          case measure => simp [intOf]; omega
      · by_cases hlt : k < l.length
        · have i1 : (k : Int) < l.length := by omega
          go_wp2_with fail
          refine ActsQ.mk rfl rfl rfl rfl rfl rfl rfl rfl ?_
          exact ActsP.none HS2.out (by omega)
        · have i1 : ¬ (k : Int) < l.length := by omega
          go_wp2_with fail
          refine ActsQ.mk rfl rfl rfl rfl rfl rfl rfl rfl ?_
          exact ActsP.none HS2.out (by omega)
set_option maxHeartbeats 4000000 in
theorem sw_reset (w wb : World) (g ga : Nat) (v : Value) (S : Nat → Prop) (km : Int) (B : Nat) (Am : Option Addr) (cm : Nat) (l : List Ob) (av kv : Value) (n j : Int) (Al : Option Addr) (cl : Nat) (al : List Ob) (Ak : Option Addr) (ck : Nat) (ks : List Int) (u : Nat → Value)
    (h : Sw w wb g ga v S km B Am cm l 8 n j Al cl al Ak ck ks) :
    swCode.wp Try.prog (Exit.then (ActsQ w g km (B + 100) av kv) NoQ) (FR (.int .i64 km) av (.int .i64 12) (.int .i64 13) (.pointer (some ⟨g, 0, none⟩)) (.slice Am l.length cm) kv (.pointer (some ⟨ga, 0, none⟩)) (.int .i64 l.length) (.int .i64 0) (.int .i64 0) (.slice none 0 0) (.slice none 0 0) (.int .i64 8) u) wb := by
  obtain ⟨i0, hi, hz0, hz1, hz2⟩ := info_parts info37
  replace hi := Lib.hid hi
  replace hz0 := Lib.hid hz0
  replace hz1 := Lib.hid hz1
  replace hz2 := Lib.hid hz2
  have b0 : wb.cell? ⟨ga, 0, none⟩ = some (.int .i64 8) := h.x.cell 0
  have b1 : wb.cell? ⟨ga, 1, none⟩ = some (.int .i64 n) := h.x.cell 1
  have b2 : wb.cell? ⟨ga, 2, none⟩ = some (.int .i64 j) := h.x.cell 2
  have b3 : wb.cell? ⟨ga, 3, none⟩ = some (.slice Al al.length cl) := h.x.cell 3
  have b4 : wb.cell? ⟨ga, 4, none⟩ = some (.slice Ak ks.length ck) := h.x.cell 4
  have z1 := h.k0.1
  have z2 := h.k0.2
  have z3 := h.al
  have z4 := h.ks
  have z5 := h.hl
  have z6 := h.b
  have HH := Lib.hid h
  clear h
  conv => arg 2; whnf
  unfold FR
  obtain ⟨kn, hkn⟩ : ∃ kn : Nat, km = kn := ⟨km.toNat, by omega⟩
  subst hkn
  have hcap : al.length ≤ cl := by obtain ⟨A, c, hv, h1, _⟩ := HH.out.lr.form; cases hv; exact h1
  go_wp2_with fail
  refine (reset_any g v kn 12 13 l al _ _ _ HH.out.s.s ⟨z1, z2⟩ HH.out.lr (by omega)).mono ?_
  rw [Int.toNat_natCast]
  rintro e w2 ⟨rfl, hto⟩
  obtain ⟨v3, hs3, hv3, hf3, hm3, hst3, hT3⟩ := HH.out.s.step hto
  have HL3 := Lib.hid (HH.out.lr.fr hst3 fun k hk hs => HH.out.stb.2.2 k hk hs)
  have HX2 := Lib.hid (HH.out.x.fr hst3 HH.out.stb.2.1)
  have HT := Lib.hid (hT3 (fun k => k < w.heap.size) fun k hk => ⟨Nat.lt_of_lt_of_le hk HH.out.s.f.size, HH.out.stb.2.2 k hk⟩)
  have HS3 := Lib.hid hs3
  have HV3 := Lib.hid hv3
  have HF3 := Lib.hid hf3
  have b3 : w2.cell? ⟨ga, 3, none⟩ = some (.slice Al al.length cl) := HX2.out.cell 3
  clear hto hs3 hv3 hf3 hm3 hst3 hT3 b0 b1 b2 b4
  by_cases hbig : kn < al.length
  · have i1 : (kn : Int) < al.length := by omega
    have ht := fun w => run_takeV (P := Try.prog) Try.underlying22 hi.out Al al.length cl kn (by omega) w
    go_wp2_with fail
    refine ActsQ.mk rfl rfl rfl rfl rfl rfl rfl rfl ?_
    exact ⟨0, v3, fun k => k < w.heap.size, al.take kn, [], Nob, Nob, rfl, rfl, ⟨HS3.out, HH.out.s.g0, HV3.out, HF3.out, row_take HL3.out (by omega), HT.out⟩, by simp; omega, RowIn.nil _ _ _, RowIn.nil _ _ _⟩
  · have i1 : ¬ (kn : Int) < al.length := by omega
    have HTK := Lib.hid (List.take_of_length_le (l := al) (i := kn) (by omega))
    rw [HTK.out] at HS3
    go_wp2_with fail
    refine ActsQ.mk rfl rfl rfl rfl rfl rfl rfl rfl ?_
    exact ⟨0, v3, fun k => k < w.heap.size, al, [], Nob, Nob, rfl, rfl, ⟨HS3.out, HH.out.s.g0, HV3.out, HF3.out, HL3.out, HT.out⟩, by omega, RowIn.nil _ _ _, RowIn.nil _ _ _⟩
set_option maxHeartbeats 4000000 in
theorem sw_need (w wb : World) (g ga : Nat) (v : Value) (S : Nat → Prop) (km : Int) (B : Nat) (Am : Option Addr) (cm : Nat) (l : List Ob) (av kv : Value) (n j : Int) (Al : Option Addr) (cl : Nat) (al : List Ob) (Ak : Option Addr) (ck : Nat) (ks : List Int) (u : Nat → Value)
    (h : Sw w wb g ga v S km B Am cm l 9 n j Al cl al Ak ck ks) :
    swCode.wp Try.prog (Exit.then (ActsQ w g km (B + 100) av kv) NoQ) (FR (.int .i64 km) av (.int .i64 12) (.int .i64 13) (.pointer (some ⟨g, 0, none⟩)) (.slice Am l.length cm) kv (.pointer (some ⟨ga, 0, none⟩)) (.int .i64 l.length) (.int .i64 0) (.int .i64 0) (.slice none 0 0) (.slice none 0 0) (.int .i64 9) u) wb := by
  obtain ⟨i0, hi, hz0, hz1, hz2⟩ := info_parts info37
  replace hi := Lib.hid hi
  replace hz0 := Lib.hid hz0
  replace hz1 := Lib.hid hz1
  replace hz2 := Lib.hid hz2
  have b0 : wb.cell? ⟨ga, 0, none⟩ = some (.int .i64 9) := h.x.cell 0
  have b1 : wb.cell? ⟨ga, 1, none⟩ = some (.int .i64 n) := h.x.cell 1
  have b2 : wb.cell? ⟨ga, 2, none⟩ = some (.int .i64 j) := h.x.cell 2
  have b3 : wb.cell? ⟨ga, 3, none⟩ = some (.slice Al al.length cl) := h.x.cell 3
  have b4 : wb.cell? ⟨ga, 4, none⟩ = some (.slice Ak ks.length ck) := h.x.cell 4
  have z1 := h.k0.1
  have z2 := h.k0.2
  have z3 := h.al
  have z4 := h.ks
  have z5 := h.hl
  have z6 := h.b
  have HH := Lib.hid h
  clear h
  conv => arg 2; whnf
  unfold FR
  by_cases hlk : l.length < ks.length
  · have HN := Lib.hid (show needF l ks 13 = 13 by unfold needF; rw [if_pos hlk])
    have i1 : (l.length : Int) < ks.length := by omega
    go_wp2_with fail
    refine (need_err g v km 12 13 l ks _ _ _ HH.out.s.s HH.out.kr (by decide) hlk).mono ?_
    rw [HN.out]
    rintro e w2 ⟨rfl, hf2⟩
    have HS2 := Lib.hid (HH.out.nob hf2)
    have b4' : w2.cell? ⟨ga, 4, none⟩ = some (.slice Ak ks.length ck) := HS2.out.x.cell 4
    clear hf2 b0 b1 b2 b3 b4
    have k1 : (0 : Int) < ks.length := by omega
    go_wp2_with fail
    go_loop [13, 27] (fun wv q => wv = .int .i64 13 ∧ q = .int .i64 0) (fun _ _ => 0)
    case atStart => exact ⟨rfl, rfl⟩
    case round =>
      obtain ⟨rfl, rfl⟩ := hrel
      go_wp2_with fail
      refine ActsQ.mk rfl rfl rfl rfl rfl rfl rfl rfl ?_
      exact ActsP.none HS2.out.s (by omega)
  · obtain ⟨c, hc⟩ : ∃ c, c + ks.length = l.length := ⟨l.length - ks.length, by omega⟩
    have iD : decide (l.length < ks.length) = false := decide_eq_false hlk
    have e1 : (l.length : Int) - ks.length = c := by omega
    obtain ⟨F, hF⟩ : ∃ F, fitL (l.drop c) ks = F := ⟨_, rfl⟩
    have HN := Lib.hid (show needF l ks 13 = if F then 0 else 16 by unfold needF; rw [if_neg hlk, show l.length - ks.length = c by omega, hF])
    have HFF := Lib.hid hF
    have HC := Lib.hid hc
    clear hF hlk
    go_wp2_with fail
    refine (need_in g v km 12 13 l ks _ _ _ HH.out.s.s HH.out.kr (by omega)).mono ?_
    rw [HN.out]
    rintro e w2 ⟨rfl, hf2⟩
    have HS2 := Lib.hid (HH.out.nob hf2)
    have b4' : w2.cell? ⟨ga, 4, none⟩ = some (.slice Ak ks.length ck) := HS2.out.x.cell 4
    clear hf2 b0 b1 b2 b3 b4 hc
    obtain ⟨ev, hev⟩ : ∃ ev : Int, (if F then 0 else 16) = ev := ⟨_, rfl⟩
    have HEV := Lib.hid hev
    rw [hev]
    clear hev
    go_wp2_with fail
    go_loopw [13, 27] (fun wv q wr => ∃ (k2 : Nat) (wa : Int), k2 ≤ ks.length ∧ q = .int .i64 (k2 : Int) ∧ wv = .int .i64 wa ∧ Hid ((wa = 0 ∧ ∀ i, (h : i < k2) → (h2 : i < (l.drop c).length) → (h3 : i < ks.length) → fitB (l.drop c)[i] ks[i] = true) ∨ (wa = 16 ∧ F = false)) ∧ Hid (Fr Nob w2 wr)) (fun _ q _ => ks.length - (intOf q).toNat)
    case atStart => exact ⟨0, 0, by omega, rfl, rfl, .inl ⟨rfl, fun i h => by omega⟩, Fr.refl _ _⟩
    case round =>
      obtain ⟨k2, wa, hk2, rfl, rfl, HB, HR⟩ := hrel
      have b4 : wr.cell? ⟨ga, 4, none⟩ = some (.slice Ak ks.length ck) := cell_nob b4' HR.out
      have HDL : Hid ((l.drop c).length = ks.length) := by show (l.drop c).length = ks.length; simp; have := HC.out; omega
      by_cases hlt : k2 < ks.length
      · have i1 : (k2 : Int) < ks.length := by omega
        by_cases hwa : wa = 0
        · subst hwa
          have hB : ∀ i, (h : i < k2) → (h2 : i < (l.drop c).length) → (h3 : i < ks.length) → fitB (l.drop c)[i] ks[i] = true := by
            rcases HB.out with ⟨_, h⟩ | ⟨h, _⟩
            · exact h
            · cases h
          have HBB := Lib.hid hB
          obtain ⟨d, hd⟩ : ∃ d, c + k2 = d := ⟨_, rfl⟩
          have hcl := HC.out
          have hdl : d < l.length := by omega
          have sm1 : (c : Int) + k2 = d := by omega
          have g1 : (d : Int) < l.length := by omega
          obtain ⟨bm, om, capm, hv, hm1, hm2, hSb, hrow⟩ := HS2.out.s.m.ob (by omega)
          cases hv
          have g2 : (d : Int) < cm := by omega
          obtain ⟨bk, ok, capk, hv, hk1, hk3, hSk, hcell⟩ := HS2.out.kr.pos (by simp [ints]; omega)
          cases hv
          have g3 : (k2 : Int) < ck := by omega
          have wr1 : IntKind.i64.wrap (c : Int) = c := IntWalk.i64_in _ (by omega)
          have wr2 : IntKind.i64.wrap (d : Int) = d := IntWalk.i64_in _ (by omega)
          obtain ⟨y, hy⟩ : ∃ y, l[d]'hdl = y := ⟨_, rfl⟩
          obtain ⟨kd, hkd⟩ : ∃ kd, ks[k2]'hlt = kd := ⟨_, rfl⟩
          have HSW : Hid (∀ w', Fr Nob wr w' → w'.cell? ⟨ga, 4, none⟩ = some (.slice (some ⟨bk, ok, none⟩) ks.length ck) ∧ w'.cell? ⟨bk, ok + k2, none⟩ = some (.int .i64 kd) ∧ w'.rangeAt bm (om + d * 8) (enc y)) := fun w' hw' => by
            have hfw := HR.out.trans0 hw'
            refine ⟨cell_nob b4 hw', cell_nob (hcell k2 (.int .i64 kd) (by rw [ints_at hlt, hkd])) hfw, ?_⟩
            have h := (hrow d hdl).nob hfw
            rw [hy] at h
            intro i u hu
            have hi8 : i < 8 := (List.getElem?_eq_some_iff.1 hu).1
            match i, hi8 with
            | 0, _ => cases hu; exact h.c0
            | 1, _ => cases hu; exact h.c1
            | 2, _ => cases hu; exact h.c2
            | 3, _ => cases hu; exact h.c3
            | 4, _ => cases hu; exact h.c4
            | 5, _ => cases hu; exact h.c5
            | 6, _ => cases hu; exact h.c6
            | 7, _ => cases hu; exact h.c7
          have eD : ∀ h1 h2, fitB ((l.drop c)[k2]'h1) (ks[k2]'h2) = fitB y kd := fun h1 h2 => by
            rw [← hy, ← hkd]; congr 1; simp [← hd]
          have HED := Lib.hid eD
          clear hrow hcell hd hcl hy hkd eD hB
          go_wp2_with fail
          refine wp_region_held_drew (S := fun w' => w'.cell? ⟨ga, 4, none⟩ = some (.slice (some ⟨bk, ok, none⟩) ks.length ck) ∧ w'.cell? ⟨bk, ok + k2, none⟩ = some (.int .i64 kd) ∧ w'.rangeAt bm (om + d * 8) (enc y)) (by kernel_rfl) (HSW.out _ (Fr.drew (Fr.refl Nob wr))) (fun hH => ?_)
          refine wpAnyH_take (i := 0) (v := ?vq1) rfl (by kernel_rfl) (by kernel_rfl) (by kernel_rfl) (fun _ _ _ h => h) (Or.inl ⟨by rfl, ?hq1⟩) hH ?rq1
          case hq1 => (intro w hSw; (try dsimp only at hSw); go_simp; (try with_reducible rfl))
          simp only [Act.put, List.getElem_toArray, List.getElem_cons_succ, List.getElem_cons_zero, List.setIfInBounds_toArray, List.set_cons_zero, List.set_cons_succ]
          refine wpAnyH_take (i := 1) (v := ?vq2) rfl (by kernel_rfl) (by kernel_rfl) (by kernel_rfl) (fun _ _ _ h => h) (Or.inl ⟨by rfl, ?hq2⟩) hH ?rq2
          case hq2 => (intro w hSw; (try dsimp only at hSw); go_simp; (try with_reducible rfl))
          simp only [Act.put, List.getElem_toArray, List.getElem_cons_succ, List.getElem_cons_zero, List.setIfInBounds_toArray, List.set_cons_zero, List.set_cons_succ]
          refine wpAnyH_take (i := 2) (v := ?vq3) rfl (by kernel_rfl) (by kernel_rfl) (by kernel_rfl) (fun _ _ _ h => h) (Or.inl ⟨by rfl, ?hq3⟩) hH ?rq3
          case hq3 => (intro w hSw; (try dsimp only at hSw); go_simp; (try with_reducible rfl))
          simp only [Act.put, List.getElem_toArray, List.getElem_cons_succ, List.getElem_cons_zero, List.setIfInBounds_toArray, List.set_cons_zero, List.set_cons_succ]
          refine wpAnyH_take (i := 3) (v := ?vq4) rfl (by kernel_rfl) (by kernel_rfl) (by kernel_rfl) (fun _ _ _ h => h) (Or.inl ⟨by rfl, ?hq4⟩) hH ?rq4
          case hq4 => (intro w hSw; (try dsimp only at hSw); go_simp; (try with_reducible rfl))
          simp only [Act.put, List.getElem_toArray, List.getElem_cons_succ, List.getElem_cons_zero, List.setIfInBounds_toArray, List.set_cons_zero, List.set_cons_succ]
          refine wpAnyH_take (i := 4) (v := ?vq5) rfl (by kernel_rfl) (by kernel_rfl) (by kernel_rfl) (fun _ _ _ h => h) (Or.inl ⟨by rfl, ?hq5⟩) hH ?rq5
          case hq5 => (intro w hSw; (try dsimp only at hSw); go_simp; (try with_reducible rfl))
          simp only [Act.put, List.getElem_toArray, List.getElem_cons_succ, List.getElem_cons_zero, List.setIfInBounds_toArray, List.set_cons_zero, List.set_cons_succ]
          refine wpAnyH_take (i := 5) (v := ?vq6) rfl (by kernel_rfl) (by kernel_rfl) (by kernel_rfl) (fun _ _ _ h => h) (Or.inl ⟨by rfl, ?hq6⟩) hH ?rq6
          case hq6 => (intro w hSw; (try dsimp only at hSw); go_simp; (try with_reducible rfl))
          simp only [Act.put, List.getElem_toArray, List.getElem_cons_succ, List.getElem_cons_zero, List.setIfInBounds_toArray, List.set_cons_zero, List.set_cons_succ]
          refine wpAnyH_take (i := 6) (v := ?vq7) rfl (by kernel_rfl) (by kernel_rfl) (by kernel_rfl) (fun _ _ _ h => h) (Or.inl ⟨by rfl, ?hq7⟩) hH ?rq7
          case hq7 => (intro w hSw; (try dsimp only at hSw); go_simp; (try with_reducible rfl))
          simp only [Act.put, List.getElem_toArray, List.getElem_cons_succ, List.getElem_cons_zero, List.setIfInBounds_toArray, List.set_cons_zero, List.set_cons_succ]
          refine wpAnyH_take (i := 7) (v := _) rfl (by kernel_rfl) (by kernel_rfl) (by kernel_rfl) (fun _ _ _ h => h) (yieldsIf_load_mid (by rfl) 37 (.tmp 332) rfl bm (om + d * 8) (by rfl) (enc y) _ (fun w hw => hw.2.2) Try.underlying37 rfl size37) hH ?_
          simp only [Act.put, List.getElem_toArray, List.getElem_cons_succ, List.getElem_cons_zero, List.setIfInBounds_toArray, List.set_cons_zero, List.set_cons_succ]
          refine wpAnyH_take (i := 8) (v := ?vq9) rfl (by kernel_rfl) (by kernel_rfl) (by kernel_rfl) (fun _ _ _ h => h) (Or.inl ⟨by rfl, ?hq9⟩) hH ?rq9
          case hq9 => (intro w hSw; (try dsimp only at hSw); go_simp; (try with_reducible rfl))
          simp only [Act.put, List.getElem_toArray, List.getElem_cons_succ, List.getElem_cons_zero, List.setIfInBounds_toArray, List.set_cons_zero, List.set_cons_succ]
          refine wpAnyH_take (i := 9) (v := ?vq10) rfl (by kernel_rfl) (by kernel_rfl) (by kernel_rfl) (fun _ _ _ h => h) (Or.inl ⟨by rfl, ?hq10⟩) hH ?rq10
          case hq10 => (intro w hSw; (try dsimp only at hSw); obtain ⟨hSw, _, _⟩ := hSw; go_simp; (try with_reducible rfl))
          simp only [Act.put, List.getElem_toArray, List.getElem_cons_succ, List.getElem_cons_zero, List.setIfInBounds_toArray, List.set_cons_zero, List.set_cons_succ]
          refine wpAnyH_take (i := 10) (v := ?vq11) rfl (by kernel_rfl) (by kernel_rfl) (by kernel_rfl) (fun _ _ _ h => h) (Or.inl ⟨by rfl, ?hq11⟩) hH ?rq11
          case hq11 => (intro w hSw; (try dsimp only at hSw); go_simp; (try with_reducible rfl))
          simp only [Act.put, List.getElem_toArray, List.getElem_cons_succ, List.getElem_cons_zero, List.setIfInBounds_toArray, List.set_cons_zero, List.set_cons_succ]
          refine wpAnyH_take (i := 11) (v := ?vq12) rfl (by kernel_rfl) (by kernel_rfl) (by kernel_rfl) (fun _ _ _ h => h) (Or.inl ⟨by rfl, ?hq12⟩) hH ?rq12
          case hq12 => (intro w hSw; (try dsimp only at hSw); go_simp; (try with_reducible rfl))
          simp only [Act.put, List.getElem_toArray, List.getElem_cons_succ, List.getElem_cons_zero, List.setIfInBounds_toArray, List.set_cons_zero, List.set_cons_succ]
          refine wpAnyH_take (i := 12) (v := ?vq13) rfl (by kernel_rfl) (by kernel_rfl) (by kernel_rfl) (fun _ _ _ h => h) (Or.inl ⟨by rfl, ?hq13⟩) hH ?rq13
          case hq13 => (intro w hSw; (try dsimp only at hSw); obtain ⟨_, hSw, _⟩ := hSw; go_simp; (try with_reducible rfl))
          simp only [Act.put, List.getElem_toArray, List.getElem_cons_succ, List.getElem_cons_zero, List.setIfInBounds_toArray, List.set_cons_zero, List.set_cons_succ]
          refine held_oneG 13 rfl (by kernel_rfl) (by rfl) fun K hK => ?_
          replace hK := Lib.hid hK
          clear hH
          go_simp
          refine (lfits_any y kd _).mono ?_
          rintro e w7 ⟨rfl, hf7⟩
          have HF7 := Lib.hid (show Fr Nob wr w7 from ((Fr.refl Nob wr).drew).trans0 hf7)
          clear hf7
          dsimp only
          have hH := HSW.out w7 HF7.out
          refine hK.out _ _ hH ?_
          clear hK K
          refine wpAnyH_take (i := 14) (v := ?vq15) rfl (by kernel_rfl) (by kernel_rfl) (by kernel_rfl) (fun _ _ _ h => h) (Or.inl ⟨by rfl, ?hq15⟩) hH ?rq15
          case hq15 => (intro w hSw; (try dsimp only at hSw); go_simp; (try with_reducible rfl))
          simp only [Act.put, List.getElem_toArray, List.getElem_cons_succ, List.getElem_cons_zero, List.setIfInBounds_toArray, List.set_cons_zero, List.set_cons_succ]
          refine wpAnyH_done (by kernel_rfl) ?_ _
          clear hH
          by_cases hfit : fitB y kd = true
          · have HB2 : Hid (∀ i, (h : i < k2 + 1) → (h2 : i < (l.drop c).length) → (h3 : i < ks.length) → fitB (l.drop c)[i] ks[i] = true) := fun i hi h2 h3 => by
              by_cases hik : i = k2
              · subst hik
                rw [HED.out]; exact hfit
              · exact HBB.out i (by omega) h2 h3
            rw [hfit]
            clear hfit
            go_wp2_with fail
            go_roundw
            case rel => exact ⟨k2 + 1, 0, by omega, by go_num, rfl, .inl ⟨rfl, HB2.out⟩, HR.out.trans0 HF7.out⟩
            case measure => simp [intOf]; omega
          · have hfit' : fitB y kd = false := by simpa using hfit
            have HFF2 : Hid (F = false) := by
              have := fitL_not (l.drop c) ks k2 (by rw [HDL.out]; exact hlt) hlt (by rw [HED.out]; exact hfit')
              rw [HFF.out] at this
              exact this
            rw [hfit']
            clear hfit hfit'
            go_wp2_with fail
            go_roundw
            case rel => exact ⟨k2 + 1, 16, by omega, by go_num, rfl, .inr ⟨rfl, HFF2.out⟩, HR.out.trans0 HF7.out⟩
            case measure => simp [intOf]; omega
        · have h16 : wa = 16 ∧ F = false := by
            rcases HB.out with ⟨h, _⟩ | h
            · exact (hwa h).elim
            · exact h
          obtain ⟨rfl, hFf⟩ := h16
          have hev16 : ev = 16 := by rw [← HEV.out, hFf]; rfl
          subst hev16
          clear hFf hwa
          go_wp2_with fail
          refine ActsQ.mk rfl rfl rfl rfl rfl rfl rfl rfl ?_
          exact ActsP.none (HS2.out.s.nob HR.out) (by omega)
      · have i1 : ¬ (k2 : Int) < ks.length := by omega
        have hev2 : ev = wa := by
          rcases HB.out with ⟨h0, h⟩ | ⟨h0, h⟩
          · have := fitL_all (l.drop c) ks HDL.out fun i h1 h2 => h i (by omega) h1 h2
            rw [HFF.out] at this
            rw [← HEV.out, this, h0]; rfl
          · rw [← HEV.out, h, h0]; rfl
        subst hev2
        go_wp2_with fail
        refine ActsQ.mk rfl rfl rfl rfl rfl rfl rfl rfl ?_
        exact ActsP.none (HS2.out.s.nob HR.out) (by omega)
end Go.Proofs.Ytdkgbakapinidaa
